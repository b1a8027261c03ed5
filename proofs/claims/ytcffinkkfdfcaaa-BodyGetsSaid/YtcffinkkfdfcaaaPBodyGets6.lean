/- Parts one behind the other: How a law's arguments are opened: integers, bools, strings, slices of bytes; How a law's argument is opened: a slice of slices of bytes; a slice of ints; What slices.Contains and tlv.Pick answer; Going over the items of a list kind by kind, as plain data; What body.partMay and the reference's May answer; What body.dataMay and the reference's Same of one part answer; What the reference's Same answers of one part and one part; What the reference's DataMay and SameData answer; A region that draws its order, by a relation for each operation: what each yields is told by a relation that stays true as the world grows; then whatever the order, all relations hold at the end. Conditions: as told at each. -/
import Derived.Test.YtcffinkkfdfcaaaPBodyGets1
import Derived.SizedLaws
import Derived.Deep.Slices
import Derived.Lib.SmallJoins
import Derived.Deep.Matrix
import Derived.Test.YtcffinkkfdfcaaaPBodyGets4
import Derived.Test.YtcffinkkfdfcaaaPBodyGets5
import Derived.Test.YtcffinkkfdfcaaaPBodyGets2

/- How a law's arguments are opened: integers, bools, strings, slices of bytes. Conditions: none. -/
namespace Go.Proofs.Ytcffinkkfdfcaaa
open Go Go.RowKit Go.ChangeShapes Go.WideShapes

theorem opn_int {H : Type} {enc : TypeId × Value → H} {P : Program} {W : World} {base t : Nat} {k : IntKind} {v : Value} {d : DataW H} {p : List MemPlace} (ht : P.underlying t = some (.int k))
    (hv : Value.okWide P W .any base t v) (hj : DataW.Trod enc P W 0 (fun _ => true) true t v d p) : ∃ a, v = .int k a ∧ (Lit.int k a).wf = true := by
  obtain ⟨a, h1, _, _, h2⟩ := open_int ht hv hj
  exact ⟨a, h1, h2⟩
theorem opn_bool {H : Type} {enc : TypeId × Value → H} {P : Program} {W : World} {base t : Nat} {v : Value} {d : DataW H} {p : List MemPlace} (ht : P.underlying t = some .bool)
    (hv : Value.okWide P W .any base t v) (hj : DataW.Trod enc P W 0 (fun _ => true) true t v d p) : ∃ a, v = .bool a := by
  obtain ⟨a, h1, _, _⟩ := open_bool ht hv hj
  exact ⟨a, h1⟩
theorem opn_string {H : Type} {enc : TypeId × Value → H} {P : Program} {W : World} {base t j : Nat} {v : Value} {d : DataW H} {p : List MemPlace} {ts : List TypeId} {ds : List (DataW H)} (ht : P.underlying t = some .string)
    (hv : Value.okWide P W .any base t v) (hj : DataW.Trod enc P W 0 (fun _ => true) true t v d p) (hsz : (DataW.weightsEach P ts ds).all (· ≤ reachBytes) = true) (h1 : ts[j]? = some t) (h2 : ds[j]? = some d) :
    ∃ s : ByteArray, v = .string s ∧ s.size ≤ 140737488351232 := by
  obtain ⟨s, g1, g2, _, _⟩ := Go.ChangeMaps.open_string ht hv hj
  subst g2
  have := sized_string hsz h1 h2
  exact ⟨s, g1, by simpa [reachBytes] using this⟩

/-- The values of a slice of bytes. -/
theorem rd_of_ints {W : World} {a : Addr} {zs : List Int} {len : Nat} (hl : len ≤ zs.length) (hcell : ∀ i, i < zs.length → W.cell? (a.add i) = some (.int .u8 (zs.getD i 0))) (hwz : ∀ n ∈ zs, (Lit.int .u8 n).wf = true) :
    ∃ bs : List UInt8, bs.length = len ∧ Rd W (some a) (bs.map bv) := by
  refine ⟨(zs.take len).map (fun z => UInt8.ofNat z.toNat), by simp; omega, ?_⟩
  rcases Nat.eq_zero_or_pos len with h0 | h0
  · subst h0; exact .inl (by simp)
  · obtain ⟨b, off, spot⟩ := a
    have h1 := hcell 0 (by omega)
    have hs : spot = none := by simpa [Addr.add] using World.cell?_spot h1
    subst hs
    refine .inr ⟨b, off, rfl, ?_, fun k hk => ?_⟩
    · exact World.block_lt_of_cell? W ⟨b, off, none⟩ (by simpa [Addr.add] using h1)
    · have hk' : k < zs.length := by simp at hk; omega
      have h2 := hcell k hk'
      rw [Addr.add_lit] at h2
      rw [h2]
      have hb := bounds_u8 (hwz zs[k] (List.getElem_mem hk'))
      simp only [List.getElem_map, List.getElem_take, bv, List.getD_eq_getElem?_getD, List.getElem?_eq_getElem hk', Option.getD_some, UInt8.toNat_ofNat']
      congr 2
      omega

theorem opn_bytes {H : Type} {enc : TypeId × Value → H} {P : Program} {W : World} {base t e j : Nat} {v : Value} {d : DataW H} {p : List MemPlace} {ts : List TypeId} {ds : List (DataW H)} (ht : P.underlying t = some (.slice e)) (he : P.underlying e = some (.int .u8)) (hc : P.cellsOf e = 1) (hb : P.bytesOf e = 1)
    (hv : Value.okWide P W .any base t v) (hj : DataW.Trod enc P W 0 (fun _ => true) true t v d p) (hsz : (DataW.weightsEach P ts ds).all (· ≤ reachBytes) = true) (h1 : ts[j]? = some t) (h2 : ds[j]? = some d) :
    ∃ (A : Option Addr) (n c : Nat) (bs : List UInt8), v = .slice A n c ∧ bs.length = n ∧ Rd W A (bs.map bv) ∧ n ≤ c ∧ c ≤ maxLen ∧ n ≤ 140737488351232 := by
  obtain ⟨a0, len, cap, rfl⟩ := okWide_slice ht hv
  obtain ⟨fuel, hf⟩ := hj
  rcases open_ints ht he hc hf with ⟨hcs, _⟩ | ⟨x, l, c, zs, hcs, _, hl, hm, hz, hx, hcell, hwz⟩
  · simp [Value.cells] at hcs
    obtain ⟨rfl, rfl, rfl⟩ := hcs
    exact ⟨none, 0, 0, [], rfl, rfl, .inl rfl, Nat.le_refl _, Nat.zero_le _, by decide⟩
  · simp [Value.cells] at hcs
    obtain ⟨rfl, rfl, rfl⟩ := hcs
    simp only [Prod.mk.injEq] at hx
    obtain ⟨rfl, _⟩ := hx
    simp only [if_true] at hz
    have hs := sized_slice hsz h1 h2 ht
    rw [hb] at hs
    simp only [lits, List.length_map, List.length_take, List.length_drop, reachBytes] at hs
    obtain ⟨bs, g1, g2⟩ := rd_of_ints (len := len) (by omega) hcell hwz
    exact ⟨some x, len, cap, bs, rfl, g1, g2, hl, hm, by omega⟩

theorem list_of_all {α : Type} {Q : Nat → α → Prop} (n : Nat) (h : ∀ i, i < n → ∃ x, Q i x) : ∃ l : List α, l.length = n ∧ ∀ i (hi : i < l.length), Q i l[i] := by
  induction n with
  | zero => exact ⟨[], rfl, fun i hi => absurd hi (by simp)⟩
  | succ n ih =>
    obtain ⟨l, h1, h2⟩ := ih (fun i hi => h i (by omega))
    obtain ⟨x, hx⟩ := h n (by omega)
    refine ⟨l ++ [x], by simp [h1], fun i hi => ?_⟩
    rcases Nat.lt_or_ge i l.length with hlt | hge
    · rw [List.getElem_append_left hlt]; exact h2 i hlt
    · have : i = n := by simp at hi; omega
      subst this
      rw [List.getElem_append_right hge]
      simpa using hx

/-- A pair of ints by value. -/
theorem opn_pair {H : Type} {enc : TypeId × Value → H} {P : Program} {W : World} {base t : Nat} {f0 f1 : Field} {v : Value} {d : DataW H} {p : List MemPlace} (hs : P.underlying t = some (.struct #[f0, f1])) (hone : Deep.oneCellFields P #[f0, f1] = true) (hC : P.cellsOf t = 2)
    (h0 : P.underlying f0.type = some (.int .i64)) (h1 : P.underlying f1.type = some (.int .i64))
    (hv : Value.okWide P W .any base t v) (hj : DataW.Trod enc P W 0 (fun _ => true) true t v d p) : ∃ a b : Int, v = .agg #[.int .i64 a, .int .i64 b] ∧ ((Lit.int .i64 a).wf = true ∧ (Lit.int .i64 b).wf = true) := by
  obtain ⟨v0, v1, y0, y1, n, rfl, _, _, g0, g1⟩ := Joins.open_agg2 hs hone hC hv hj
  obtain ⟨a, e0, _, wa⟩ := DataW.trod_int h0 g0
  obtain ⟨b, e1, _, wb⟩ := DataW.trod_int h1 g1
  simp at e0 e1
  subst e0 e1
  exact ⟨a, b, rfl, wa, wb⟩

/-- The address reads as these pairs. -/
def RdP (w : World) (A : Option Addr) (zs : List (Int × Int)) : Prop :=
  zs = [] ∨ ∃ b off, A = some ⟨b, off, none⟩ ∧ b < w.heap.size ∧ ∀ k (h : k < zs.length), w.cell? ⟨b, off + k * 2, none⟩ = some (.int .i64 zs[k].1) ∧ w.cell? ⟨b, off + k * 2 + 1, none⟩ = some (.int .i64 zs[k].2)
theorem RdP.below {w w' : World} {A : Option Addr} {zs : List (Int × Int)} (h : RdP w A zs) (hb : Below w.heap.size w w') : RdP w' A zs := by
  rcases h with h | ⟨b, off, hA, hlt, hc⟩
  · exact .inl h
  · exact .inr ⟨b, off, hA, Nat.lt_of_lt_of_le hlt hb.size, fun k hk => ⟨(hb.cell (p := ⟨b, _, none⟩) hlt).trans (hc k hk).1, (hb.cell (p := ⟨b, _, none⟩) hlt).trans (hc k hk).2⟩⟩

theorem opn_pairs {H : Type} {enc : TypeId × Value → H} {P : Program} {W : World} {base t e j : Nat} {f0 f1 : Field} {v : Value} {d : DataW H} {p : List MemPlace} {ts : List TypeId} {ds : List (DataW H)} (ht : P.underlying t = some (.slice e)) (hs : P.underlying e = some (.struct #[f0, f1])) (hone : Deep.oneCellFields P #[f0, f1] = true) (hC : P.cellsOf e = 2) (hB : P.bytesOf e = 16)
    (h0 : P.underlying f0.type = some (.int .i64)) (h1 : P.underlying f1.type = some (.int .i64)) (_ : True)
    (hv : Value.okWide P W .any base t v) (hj : DataW.Trod enc P W 0 (fun _ => true) true t v d p) (hsz : (DataW.weightsEach P ts ds).all (· ≤ reachBytes) = true) (k1 : ts[j]? = some t) (k2 : ds[j]? = some d) :
    ∃ (A : Option Addr) (n c : Nat) (zs : List (Int × Int)), v = .slice A n c ∧ (zs.length = n ∧ RdP W A zs ∧ n ≤ c ∧ c ≤ maxLen ∧ n * 16 ≤ 140737488351232 ∧ ∀ z ∈ zs, (Lit.int .i64 z.1).wf = true ∧ (Lit.int .i64 z.2).wf = true) := by
  obtain ⟨a0, len, cap, rfl⟩ := okWide_slice ht hv
  obtain ⟨fuel, hf⟩ := hj
  rcases Deep.open_slice ht hf with ⟨hcs, _⟩ | ⟨a, l, c, m, n, D, Pl, hcs, _, hl, hm, hmm, hx, hcell⟩
  · simp [Value.cells] at hcs
    obtain ⟨rfl, rfl, rfl⟩ := hcs
    exact ⟨none, 0, 0, [], rfl, rfl, .inl rfl, Nat.le_refl _, Nat.zero_le _, by decide, by simp⟩
  · simp [Value.cells] at hcs
    obtain ⟨rfl, rfl, rfl⟩ := hcs
    simp only [if_true] at hmm
    subst hmm
    simp only [Prod.mk.injEq] at hx
    obtain ⟨rfl, _⟩ := hx
    have hb := sized_slice hsz k1 k2 ht
    rw [hB] at hb
    simp only [List.length_map, List.length_range, reachBytes] at hb
    obtain ⟨o0, o1⟩ := (⟨Deep.hone_of hone 0 f0 rfl, Deep.hone_of hone 1 f1 rfl⟩ : _ ∧ _)
    have each : ∀ i, i < len → ∃ z : Int × Int, (W.cell? (a.add (i * 2)) = some (.int .i64 z.1) ∧ W.cell? ((a.add (i * 2)).add 1) = some (.int .i64 z.2)) ∧ (Lit.int .i64 z.1).wf = true ∧ (Lit.int .i64 z.2).wf = true := by
      intro i hi
      obtain ⟨cs', g1, g2⟩ := hcell i (by omega)
      rw [hC] at g1
      obtain ⟨_, hlen, hg⟩ := World.cells?_some g1
      obtain ⟨y0, y1, m, _, _, t0, t1⟩ := trod_struct2 hs g2
      match cs', hlen with
      | [u0, u1], _ =>
        rw [o0.1, o0.2] at t0
        rw [o1.1, o1.2] at t1
        obtain ⟨x0, e0, _, wa⟩ := DataW.trod_int h0 t0
        obtain ⟨x1, e1, _, wb⟩ := DataW.trod_int h1 t1
        simp at e0 e1
        subst e0 e1
        have c0 := hg 0 (by decide)
        have c1 := hg 1 (by decide)
        exact ⟨(x0, x1), ⟨by simpa [Addr.add] using c0, by simpa using c1⟩, wa, wb⟩
    obtain ⟨zs, hz1, hz2⟩ := list_of_all len each
    refine ⟨some a, len, _, zs, rfl, hz1, ?_, hl, hm, by omega, fun z hz => ?_⟩
    · rcases Nat.eq_zero_or_pos len with h0 | h0
      · left; exact List.eq_nil_of_length_eq_zero (by omega)
      · obtain ⟨b, off, spot⟩ := a
        have hz0 := (hz2 0 (by omega)).1.1
        have hsp : spot = none := by simpa [Addr.add] using World.cell?_spot hz0
        subst hsp
        refine .inr ⟨b, off, rfl, World.block_lt_of_cell? W ⟨b, off, none⟩ (by simpa [Addr.add] using hz0), fun k hk => ?_⟩
        have := (hz2 k hk).1
        simpa [Addr.add_lit] using this
    · obtain ⟨i, hi, rfl⟩ := List.mem_iff_getElem.1 hz
      exact (hz2 i hi).2
end Go.Proofs.Ytcffinkkfdfcaaa

/- How a law's argument is opened: a slice of slices of bytes; a slice of ints. Conditions: none. -/
namespace Go.Proofs.Ytcffinkkfdfcaaa
open Go Go.RowKit Go.ChangeShapes Go.WideShapes

theorem weightsAll_mem {H : Type} {P : Program} {e : TypeId} : ∀ {l : List (DataW H)} {d : DataW H}, d ∈ l → ∀ n ∈ d.weights P e, n ∈ DataW.weightsAll P e l
  | d' :: r, d, hd, n, hn => by
    simp only [DataW.weightsAll, List.mem_append]
    rcases List.mem_cons.1 hd with rfl | h
    · exact Or.inl hn
    · exact Or.inr (weightsAll_mem h n hn)
theorem sized_inner {H : Type} {P : Program} {ts : List TypeId} {ds : List (DataW H)} (h : (DataW.weightsEach P ts ds).all (· ≤ reachBytes) = true) {j : Nat} {t e q : TypeId} {elems spare e' sp' : List (DataW H)}
    (ht : ts[j]? = some t) (hd : ds[j]? = some (.slice elems spare)) (hu : P.underlying t = some (.slice e)) (hu2 : P.underlying e = some (.slice q)) (hx : DataW.slice e' sp' ∈ elems) : (e'.length + sp'.length) * P.bytesOf q ≤ reachBytes := by
  refine of_decide_eq_true (List.all_eq_true.1 h _ (DataW.weights_mem_each ht hd _ ?_))
  simp only [DataW.weights, hu, List.mem_cons, List.mem_append]
  exact Or.inr (Or.inl (weightsAll_mem hx _ (by simp [DataW.weights, hu2])))

theorem opn_bytess {H : Type} {enc : TypeId × Value → H} {P : Program} {W : World} {base t e q j : Nat} {v : Value} {d : DataW H} {p : List MemPlace} {ts : List TypeId} {ds : List (DataW H)} (ht : P.underlying t = some (.slice e)) (he : P.underlying e = some (.slice q)) (hq : P.underlying q = some (.int .u8))
    (ce : P.cellsOf e = 1) (be : P.bytesOf e = 24) (cq : P.cellsOf q = 1) (bq : P.bytesOf q = 1)
    (hv : Value.okWide P W .any base t v) (hj : DataW.Trod enc P W 0 (fun _ => true) true t v d p) (hsz : (DataW.weightsEach P ts ds).all (· ≤ reachBytes) = true) (k1 : ts[j]? = some t) (k2 : ds[j]? = some d) :
    ∃ (A : Option Addr) (n c : Nat) (bss : List (List UInt8)), v = .slice A n c ∧ (bss.length = n ∧ RdS W A bss ∧ n ≤ c ∧ c ≤ maxLen ∧ n * 24 ≤ 140737488351232 ∧ ∀ b ∈ bss, b.length ≤ 140737488351232) := by
  obtain ⟨a0, len, cap, rfl⟩ := okWide_slice ht hv
  obtain ⟨fuel, hf⟩ := hj
  rcases Deep.open_int_rows ht he hq ce cq hf with ⟨hcs, _⟩ | ⟨a, l, c, A, L, C, Z, hcs, _, hl, hm, hx, hcell⟩
  · simp [Value.cells] at hcs
    obtain ⟨rfl, rfl, rfl⟩ := hcs
    exact ⟨none, 0, 0, [], rfl, rfl, .inl rfl, Nat.le_refl _, Nat.zero_le _, by decide, by simp⟩
  · simp [Value.cells] at hcs
    obtain ⟨rfl, rfl, rfl⟩ := hcs
    simp only [Prod.mk.injEq] at hx
    obtain ⟨rfl, _⟩ := hx
    have hb := sized_slice hsz k1 k2 ht
    rw [be] at hb
    simp only [List.length_map, List.length_range, reachBytes] at hb
    have each : ∀ i, i < len → ∃ b : List UInt8, b.length = L i ∧ Rd W (A i) (b.map bv) ∧ b.length ≤ 140737488351232 := by
      intro i hi
      obtain ⟨g1, g2, g3, g4, g5, g6, g7⟩ := hcell i (by omega)
      cases hA : A i with
      | none =>
        have h0 := g6 hA
        exact ⟨[], by simp; omega, .inl rfl, by simp⟩
      | some a' =>
        obtain ⟨_, h2⟩ := g7 a' hA
        obtain ⟨bs, h3, h4⟩ := rd_of_ints (W := W) (a := a') (zs := Z i) (len := L i) (by omega) (fun k hk => h2 k (by omega)) g5
        refine ⟨bs, h3, h4, ?_⟩
        have hmem : DataW.slice (lits (H := H) .u8 ((Z i).take (L i))) (lits .u8 ((Z i).drop (L i))) ∈ (List.range len).map (fun r => Deep.intRow (H := H) .u8 (A r) (L r) (Z r)) := by
          refine List.mem_map.2 ⟨i, List.mem_range.2 hi, ?_⟩
          simp [Deep.intRow, hA]
        have h5 := sized_inner hsz k1 k2 ht he hmem
        rw [bq] at h5
        simp only [lits, List.length_map, List.length_take, List.length_drop, reachBytes] at h5
        omega
    obtain ⟨bss, z1, z2⟩ := list_of_all len each
    refine ⟨some a, len, _, bss, rfl, z1, ?_, hl, hm, by omega, fun b hb' => ?_⟩
    · rcases Nat.eq_zero_or_pos len with h0 | h0
      · left; exact List.eq_nil_of_length_eq_zero (by omega)
      · obtain ⟨b, off, spot⟩ := a
        have hz0 := (hcell 0 (by omega)).1
        have hsp : spot = none := by simpa [Addr.add] using World.cell?_spot hz0
        subst hsp
        refine .inr ⟨b, off, rfl, World.block_lt_of_cell? W ⟨b, off, none⟩ (by simpa [Addr.add] using hz0), fun k hk => ?_⟩
        obtain ⟨g1, g2, g3, _⟩ := hcell k (by omega)
        obtain ⟨z3, z4, _⟩ := z2 k hk
        rw [Addr.add_lit] at g1
        exact ⟨A k, C k, by rw [z3]; exact g1, z4, by rw [z3]; exact g2, g3⟩
    · obtain ⟨i, hi, rfl⟩ := List.mem_iff_getElem.1 hb'
      exact (z2 i hi).2.2

/-- The address reads as these ints. -/
def RdI (w : World) (A : Option Addr) (zs : List Int) : Prop :=
  zs = [] ∨ ∃ b off, A = some ⟨b, off, none⟩ ∧ b < w.heap.size ∧ ∀ k (h : k < zs.length), w.cell? ⟨b, off + k, none⟩ = some (.int .i64 zs[k])
theorem RdI.below {w w' : World} {A : Option Addr} {zs : List Int} (h : RdI w A zs) (hb : Below w.heap.size w w') : RdI w' A zs := by
  rcases h with h | ⟨b, off, hA, hlt, hc⟩
  · exact .inl h
  · exact .inr ⟨b, off, hA, Nat.lt_of_lt_of_le hlt hb.size, fun k hk => (hb.cell (p := ⟨b, _, none⟩) hlt).trans (hc k hk)⟩
theorem RdI.addr {w : World} {A : Option Addr} {zs : List Int} (h : RdI w A zs) (h0 : 0 < zs.length) : ∃ b off, A = some ⟨b, off, none⟩ ∧ b < w.heap.size ∧ ∀ k (h : k < zs.length), w.cell? ⟨b, off + k, none⟩ = some (.int .i64 zs[k]) := by
  rcases h with rfl | h
  · simp at h0
  · exact h
theorem opn_ints {H : Type} {enc : TypeId × Value → H} {P : Program} {W : World} {base t e j : Nat} {v : Value} {d : DataW H} {p : List MemPlace} {ts : List TypeId} {ds : List (DataW H)} (ht : P.underlying t = some (.slice e)) (he : P.underlying e = some (.int .i64)) (hc : P.cellsOf e = 1) (hb : P.bytesOf e = 8)
    (hv : Value.okWide P W .any base t v) (hj : DataW.Trod enc P W 0 (fun _ => true) true t v d p) (hsz : (DataW.weightsEach P ts ds).all (· ≤ reachBytes) = true) (h1 : ts[j]? = some t) (h2 : ds[j]? = some d) :
    ∃ (A : Option Addr) (n c : Nat) (zs : List Int), v = .slice A n c ∧ (zs.length = n ∧ RdI W A zs ∧ n ≤ c ∧ c ≤ maxLen ∧ n * 8 ≤ 140737488351232 ∧ ∀ z ∈ zs, (Lit.int .i64 z).wf = true) := by
  obtain ⟨a0, len, cap, rfl⟩ := okWide_slice ht hv
  obtain ⟨fuel, hf⟩ := hj
  rcases open_ints ht he hc hf with ⟨hcs, _⟩ | ⟨x, l, c, zs, hcs, _, hl, hm, hz, hx, hcell, hwz⟩
  · simp [Value.cells] at hcs
    obtain ⟨rfl, rfl, rfl⟩ := hcs
    exact ⟨none, 0, 0, [], rfl, rfl, .inl rfl, Nat.le_refl _, Nat.zero_le _, by decide, by simp⟩
  · simp [Value.cells] at hcs
    obtain ⟨rfl, rfl, rfl⟩ := hcs
    simp only [Prod.mk.injEq] at hx
    obtain ⟨rfl, _⟩ := hx
    simp only [if_true] at hz
    have hs := sized_slice hsz h1 h2 ht
    rw [hb] at hs
    simp only [lits, List.length_map, List.length_take, List.length_drop, reachBytes] at hs
    refine ⟨some x, len, cap, zs.take len, rfl, by simp; omega, ?_, hl, hm, by omega, fun z hz' => hwz z (List.mem_of_mem_take hz')⟩
    rcases Nat.eq_zero_or_pos len with h0 | h0
    · subst h0; exact .inl (by simp)
    · obtain ⟨b, off, spot⟩ := x
      have h1 := hcell 0 (by omega)
      have hs : spot = none := by simpa [Addr.add] using World.cell?_spot h1
      subst hs
      refine .inr ⟨b, off, rfl, World.block_lt_of_cell? W ⟨b, off, none⟩ (by simpa [Addr.add] using h1), fun k hk => ?_⟩
      have hk' : k < zs.length := by simp at hk; omega
      have h2 := hcell k hk'
      rw [Addr.add_lit] at h2
      rw [h2]
      simp [hk']
end Go.Proofs.Ytcffinkkfdfcaaa

/- What slices.Contains and tlv.Pick answer. Conditions: items and numbers that can be read; few items. -/
namespace Go.Proofs.Ytcffinkkfdfcaaa
open Go Go.RowKit

set_option maxRecDepth 100000 in
set_option maxHeartbeats 2000000 in
theorem IndexI_c (A : Option Addr) (n c : Nat) (zs : List Int) (x : Int) (w : World) (hn : zs.length = n) (hr : RdI w A zs) (hl : n ≤ 140737488355328) :
    Calls Try.prog 95 #[.slice A n c, .int .i64 x] w fun r w' => ∃ i : Int, r = .returned (.int .i64 i) ∧ decide (0 ≤ i) = decide (x ∈ zs) ∧ w' = w := by
  have HN := Lib.hid hn; clear hn
  have HR := Lib.hid hr; clear hr
  obtain ⟨B, eB⟩ : ∃ B, B = decide (x ∈ zs) := ⟨_, rfl⟩
  rw [← eB]
  have EB := Lib.hid eB; clear eB
  go_enter Try.func95, Try.ntmps95
  go_wp2_with (fail)
  go_loopw [8] (fun i wr => ∃ k : Nat, i = .int .i64 k ∧ k ≤ n ∧ Hid (∀ j (h : j < zs.length), j < k → zs[j] ≠ x) ∧ wr = w) (fun i _ => n - (intOf i).toNat)
  case atStart => exact ⟨0, rfl, Nat.zero_le _, Lib.hid (fun j h h0 => absurd h0 (Nat.not_lt_zero _)), rfl⟩
  case round =>
    obtain ⟨k, rfl, hk, HP, rfl⟩ := hrel
    rcases Nat.lt_or_ge k n with hlt | hge
    · have hlt' : (k : Int) < (n : Int) := by omega
      have hkz : k < zs.length := by rw [HN.out]; exact hlt
      obtain ⟨b, off, rfl, hb, hc⟩ := HR.out.addr (by omega)
      have c0 := hc k hkz
      obtain ⟨z, ez⟩ : ∃ z, z = zs[k] := ⟨_, rfl⟩
      rw [← ez] at c0
      have EZ := Lib.hid ez
      clear hc ez
      by_cases he : x = z
      · have e0 : (x == z) = true := by rw [he]; exact beq_self_eq_true _
        have hB : B = true := by rw [EB.out]; exact decide_eq_true (by rw [he, EZ.out]; exact List.getElem_mem _)
        have HB := Lib.hid hB
        clear he hB
        go_wp2_with (fail)
        go_ret
        exact ⟨_, rfl, by rw [HB.out]; exact decide_eq_true (by omega), rfl⟩
      · have e0 : (x == z) = false := by rw [beq_eq_false_iff_ne]; exact he
        have HE := Lib.hid he
        clear he
        go_wp2_with (fail)
        go_roundw
        case rel =>
          refine ⟨k + 1, by go_num, by omega, Lib.hid (fun j h hj => ?_), trivial⟩
          by_cases e : j = k
          · subst e; rw [← EZ.out]; exact fun e => HE.out e.symm
          · exact HP.out j h (by omega)
        case measure => simp [intOf]; omega
    · have hge' : (n : Int) ≤ (k : Int) := by omega
      have hB : B = false := by
        rw [EB.out]
        refine decide_eq_false (fun h => ?_)
        obtain ⟨j, hj, e⟩ := List.getElem_of_mem h
        exact HP.out j hj (by have := HN.out; omega) e
      have HB := Lib.hid hB
      clear hB
      go_wp2_with (fail)
      go_ret
      exact ⟨_, rfl, by rw [HB.out]; rfl, rfl⟩
set_option maxRecDepth 100000 in
set_option maxHeartbeats 2000000 in
theorem ContainsI_c (A : Option Addr) (n c : Nat) (zs : List Int) (x : Int) (w : World) (hn : zs.length = n) (hr : RdI w A zs) (hl : n ≤ 140737488355328) :
    Calls Try.prog 92 #[.slice A n c, .int .i64 x] w fun r w' => r = .returned (.bool (decide (x ∈ zs))) ∧ w' = w := by
  have ix := IndexI_c A n c zs x w hn hr hl
  have IX := Lib.hid ix; clear ix hn hr
  obtain ⟨B, eB⟩ : ∃ B, B = decide (x ∈ zs) := ⟨_, rfl⟩
  rw [← eB] at IX ⊢
  clear eB
  go_enter Try.func92, Try.ntmps92
  go_wp2_with (fail)
  refine IX.out.mono ?_
  rintro _ wx ⟨i, rfl, hi, hx⟩
  rw [hx]
  clear hx wx
  go_wp2_with (fail)
  go_ret
  exact ⟨rfl, rfl⟩
/-- The items that are known. -/
def pickF (ks : List Int) : Fo → Fo
  | .nil => .nil
  | .cons k cr li bs sub rest => if k ∈ ks then .cons k cr li bs sub (pickF ks rest) else pickF ks rest
/-- Is there one that must be known and isn't? -/
def critF (ks : List Int) : Fo → Bool
  | .nil => false
  | .cons k cr _ _ _ rest => (!decide (k ∈ ks) && cr) || critF ks rest
def pickT (ks : List Int) (f : Fo) : Nat × Fo := if critF ks f then (7, .nil) else (0, pickF ks f)
theorem pickF_app (ks : List Int) (g : Fo) : ∀ (f : Fo), pickF ks (f.app g) = (pickF ks f).app (pickF ks g)
  | .nil => rfl
  | .cons k cr li bs sub rest => by
    rw [Fo.app, pickF, pickF, pickF_app ks g rest]
    split <;> rfl
theorem critF_app (ks : List Int) (g : Fo) : ∀ (f : Fo), critF ks (f.app g) = (critF ks f || critF ks g)
  | .nil => rfl
  | .cons k cr li bs sub rest => by rw [Fo.app, critF, critF, critF_app ks g rest, Bool.or_assoc]
theorem pickF_len (ks : List Int) : ∀ (f : Fo), (pickF ks f).len ≤ f.len
  | .nil => Nat.le_refl _
  | .cons k cr li bs sub rest => by
    have := pickF_len ks rest
    rw [pickF]
    split
    · simp only [Fo.len]; omega
    · simp only [Fo.len]; omega
set_option maxRecDepth 100000 in
set_option maxHeartbeats 4000000 in
theorem Pick_c (f : Fo) (ok : Nat → Prop) (A : Option Addr) (n c : Nat) (Ak : Option Addr) (nk ck : Nat) (ks : List Int) (w : World) (hn : f.len = n) (h1 : FoR ok w A 0 f) (hs : f.size ≤ 100000) (hk : ks.length = nk) (hr : RdI w Ak ks) (hlk : nk ≤ 140737488355328) :
    Calls Try.prog 87 #[.slice A n c, .slice Ak nk ck] w fun r w' => ∃ v, r = .returned (.tuple #[v, .int .i64 ((pickT ks f).1 : Int)]) ∧ FoO (w.heap.size ≤ ·) w' v (pickT ks f).2 ∧ Below w.heap.size w w' := by
  have HN := Lib.hid hn
  have H1 := Lib.hid h1; clear h1
  have HKS := Lib.hid hk; clear hk
  have HRK := Lib.hid hr; clear hr
  have hl : n ≤ 100000 := by have := Fo.len_le f; omega
  have HSF := Lib.hid hs
  clear hn hs
  obtain ⟨T, eT⟩ : ∃ T, T = pickT ks f := ⟨_, rfl⟩
  rw [← eT]
  have ET := Lib.hid eT; clear eT
  go_enter Try.func87, Try.ntmps87
  go_wp2_with (fail)
  go_loopw [6, 11] (fun v i wr => ∃ (q : Nat) (r P : Fo) (ds : List ItV), i = .int .i64 q ∧ Hid (q + r.len = n) ∧ Hid (FoR ok w A q r) ∧ Hid (r.size ≤ f.size) ∧ Hid (f = P.app r) ∧ Hid (critF ks P = false) ∧ Hid (P.len = q) ∧ Hid (FoP (w.heap.size ≤ ·) wr v ds (pickF ks P)) ∧ Hid (Below w.heap.size w wr)) (fun _ i _ => n - (intOf i).toNat)
  case atStart => exact ⟨0, f, .nil, [], rfl, Lib.hid (by rw [HN.out]; omega), H1, Lib.hid (Nat.le_refl _), Lib.hid rfl, Lib.hid rfl, Lib.hid rfl, Lib.hid (FoP.nil_ _ _), Lib.hid (Below.refl _ _)⟩
  case round =>
    obtain ⟨q, r, P, ds, rfl, HK, R1, HSz, HF, HCr, HPl, HS, HB⟩ := hrel
    cases r with
    | nil =>
      have hk : q = n := HK.out
      have hk' : (n : Int) ≤ (q : Int) := by omega
      have hF : f = P := by rw [HF.out, Fo.app_nil]
      have e0 : T = (0, pickF ks P) := by rw [ET.out, pickT, hF, HCr.out]; rfl
      have E0 := Lib.hid e0
      clear hk hF e0
      go_wp2_with (fail)
      go_ret2
      exact ⟨_, by rw [E0.out]; rfl, by rw [E0.out]; exact HS.out.o, HB.out⟩
    | cons z cr li bs sub rest =>
      obtain ⟨⟨b1, o1, At, m, cm, As1, e1, eA, hb1, -, ⟨c0, ca, cb, cc, cd⟩, tt, s1, l1, l2, l3⟩, r1⟩ := R1.out.one
      subst eA
      have hlt : q < n := by have := HK.out; simp only [Fo.len] at this; omega
      have kb := HB.out
      have TT := Lib.hid tt
      have S1 := Lib.hid s1
      have R1b := Lib.hid r1
      rw [← kb.cell (p := ⟨b1, _, none⟩) hb1] at c0 ca cb cc cd
      have HSb : Hid (rest.size ≤ f.size) := Lib.hid (by have := HSz.out; simp only [Fo.size] at this; omega)
      have HSs : Hid (sub.size ≤ 100000) := Lib.hid (by have := HSz.out; have := HSF.out; simp only [Fo.size] at *; omega)
      have HKb : Hid (q + 1 + rest.len = n) := Lib.hid (by have := HK.out; simp only [Fo.len] at this; omega)
      have HFb : Hid (f = (P.app (.cons z cr li bs sub .nil)).app rest) := Lib.hid (by rw [HF.out, Fo.app_assoc]; rfl)
      obtain ⟨sl, esl⟩ : ∃ sl, sl = sub.len := ⟨_, rfl⟩
      rw [← esl] at cd l1 l3
      have ESL := Lib.hid esl
      have hlt' : (q : Int) < (n : Int) := by omega
      obtain ⟨w5, ew5⟩ : ∃ w5, w5 = wr.alloc (.cells #[.int .i64 z, .bool cr, .bool li, .slice At m cm, .slice As1 sl e1] 76) := ⟨_, rfl⟩
      obtain ⟨gy, egy⟩ : ∃ gy, gy = wr.heap.size := ⟨_, rfl⟩
      have b5 : Below wr.heap.size wr w5 := by rw [ew5]; exact (Below.refl _ _).alloc (Nat.le_refl _) _
      have h5 : w5.heap[gy]? = some (.cells #[.int .i64 z, .bool cr, .bool li, .slice At m cm, .slice As1 sl e1] 76 (0, 0)) := by rw [ew5, egy]; exact heap_alloc_new _ _
      have HS5 := Lib.hid (HS.out.below b5)
      have HB5 : Hid (Below w.heap.size w w5) := Lib.hid (HB.out.trans (b5.mono HB.out.size))
      obtain ⟨p0, p1, p2, p3, p4⟩ : w5.cell? ⟨gy, 0, none⟩ = some (.int .i64 z) ∧ w5.cell? ⟨gy, 1, none⟩ = some (.bool cr) ∧ w5.cell? ⟨gy, 2, none⟩ = some (.bool li) ∧ w5.cell? ⟨gy, 3, none⟩ = some (.slice At m cm) ∧ w5.cell? ⟨gy, 4, none⟩ = some (.slice As1 sl e1) := by
        refine ⟨?_, ?_, ?_, ?_, ?_⟩ <;> (rw [heap_cell h5]; rfl)
      have EW5 := Lib.hid ew5
      have EGY := Lib.hid egy
      have Z5 : Hid (wr.heap.size < w5.heap.size) := Lib.hid (by rw [ew5]; simp)
      have ci := ContainsI_c Ak nk ck ks z w5 HKS.out (by
        rcases HRK.out with h | ⟨b, off, h1, h2, h3⟩
        · exact .inl h
        · exact .inr ⟨b, off, h1, Nat.lt_of_lt_of_le h2 HB5.out.size, fun k hk => (HB5.out.cell (p := ⟨b, off + k, none⟩) h2).trans (h3 k hk)⟩) hlk
      have CI := Lib.hid ci
      clear ew5 egy b5 h5 tt s1 r1 esl HK HSz HF R1 kb l1 l2 ci
      go_upto_region 5 with (fail)
      rw [← EW5.out, ← EGY.out]
      clear c0 ca cb cc cd
      go_wp2_with (fail)
      refine CI.out.mono ?_
      rintro _ wx ⟨rfl, hx⟩
      rw [hx]
      clear hx wx
      by_cases hin : z ∈ ks
      · have d0 : decide (z ∈ ks) = true := decide_eq_true hin
        have hpk : Hid (pickF ks (P.app (.cons z cr li bs sub .nil)) = (pickF ks P).app (.cons z cr li bs sub .nil)) := Lib.hid (by rw [pickF_app]; simp only [pickF, if_pos hin])
        have hcr : Hid (critF ks (P.app (.cons z cr li bs sub .nil)) = false) := Lib.hid (by rw [critF_app, HCr.out]; simp [critF, hin])
        clear hin
        go_wp2_with (fail)
        refine (clone_it sub.size sub rfl ok z cr li bs At m cm As1 sl e1 w5 (TT.out.frame (fun j _ hj => HB5.out.block j hj) HB5.out.size) ESL.out.symm (S1.out.below HB5.out) HSs.out).mono ?_
        rintro _ w6 ⟨⟨dk, dc, dl, dA, dn, dcc, dAs, dns, dcs⟩, rfl, ho6, hb6⟩
        unfold ItV.val
        dsimp only
        have HS6 := Lib.hid (HS5.out.below hb6)
        have HB6 : Hid (Below w.heap.size w w6) := Lib.hid (HB5.out.trans (hb6.mono HB5.out.size))
        have b67 : Below w6.heap.size w6 (w6.alloc (.cells #[.int .i64 dk, .bool dc, .bool dl, .slice dA dn dcc, .slice dAs dns dcs] 76)) := (Below.refl _ _).alloc (Nat.le_refl _) _
        have HS7 := Lib.hid (HS6.out.below b67)
        have HB7 : Hid (Below w.heap.size w (w6.alloc (.cells #[.int .i64 dk, .bool dc, .bool dl, .slice dA dn dcc, .slice dAs dns dcs] 76))) := Lib.hid (HB6.out.trans (b67.mono HB6.out.size))
        have lov := fun j e => (HS.out.lt j e)
        have HD7 : Hid (ItsO (fun j => w.heap.size ≤ j ∧ u6.ownBlock ≠ some j) (w6.alloc (.cells #[.int .i64 dk, .bool dc, .bool dl, .slice dA dn dcc, .slice dAs dns dcs] 76)) [⟨dk, dc, dl, dA, dn, dcc, dAs, dns, dcs⟩] (.cons z cr li bs sub .nil)) :=
          Lib.hid ((ho6.frame (fun j _ hj => b67.block j hj)).weak (fun j hj _ => by
            have h1 : w5.heap.size ≤ j := hj
            have h2 := HB.out.size
            have h3 := Z5.out
            exact ⟨by omega, fun e => by have := lov j e; omega⟩))
        have HR7 := Lib.hid (Rd.lit w6 (cellsI [⟨dk, dc, dl, dA, dn, dcc, dAs, dns, dcs⟩]) 76)
        have hdl : ds.length ≤ 100000 := by rw [ItsO.len _ ds HS7.out.its]; have := pickF_len ks P; have := HPl.out; omega
        clear ho6 hb6 b67 lov p0 p1 p2 p3 p4 HS5
        go_wp2_with (at_builtin; refine wpList_appI _ rfl (.tmp 20) (.tmp 23) rfl 0 _ ds rfl HS7.out.row (some ⟨w6.heap.size, 0, none⟩) 1 1 [⟨dk, dc, dl, dA, dn, dcc, dAs, dns, dcs⟩] rfl rfl HR7.out (by omega) (Nat.zero_le _) ?_; intro v12 w12 ho12 hg12 hv12; have HS12 := Lib.hid (HS7.out.more HD7.out ho12 hg12 hv12 HB7.out.size); have HB12 := Lib.hid (HB7.out.grown hg12 HB7.out.size (fun k e => HS7.out.ok_ k e)); clear ho12 hg12 hv12)
        go_roundw
        case rel => exact ⟨q + 1, rest, _, _, by go_num, HKb, R1b, HSb, HFb, hcr, Lib.hid (by rw [Fo.len_app, HPl.out]; rfl), Lib.hid (by rw [hpk.out]; exact HS12.out), HB12⟩
        case measure => simp [intOf]; omega
      · have d0 : decide (z ∈ ks) = false := decide_eq_false hin
        cases cr with
        | true =>
          have e0 : T = (7, .nil) := by rw [ET.out, pickT, HFb.out, critF_app, critF_app]; simp [critF, hin]
          have E0 := Lib.hid e0
          clear e0 hin
          go_wp2_with (fail)
          go_ret2
          exact ⟨_, by rw [E0.out]; rfl, by rw [E0.out]; exact FoO.nil_ _ _, HB5.out⟩
        | false =>
          have hpk : Hid (pickF ks (P.app (.cons z false li bs sub .nil)) = pickF ks P) := Lib.hid (by rw [pickF_app]; simp only [pickF, if_neg hin]; exact Fo.app_nil _)
          have hcr : Hid (critF ks (P.app (.cons z false li bs sub .nil)) = false) := Lib.hid (by rw [critF_app, HCr.out]; simp [critF])
          clear hin
          go_wp2_with (fail)
          go_roundw
          case rel => exact ⟨q + 1, rest, _, ds, by go_num, HKb, R1b, HSb, HFb, hcr, Lib.hid (by rw [Fo.len_app, HPl.out]; rfl), Lib.hid (by rw [hpk.out]; exact HS5.out), HB5⟩
          case measure => simp [intOf]; omega
end Go.Proofs.Ytcffinkkfdfcaaa

/- Going over the items of a list kind by kind, as plain data. Conditions: none. -/
namespace Go.Proofs.Ytcffinkkfdfcaaa
open Go Go.RowKit

/-- The items; the kind asked last; the first fault. -/
structure FS where
  l : Fo
  at_ : Nat
  err : Nat
def zerI : Fo := .cons 0 false false [] .nil .nil
def itB : Fo → List UInt8
  | .nil => []
  | .cons _ _ _ bs _ _ => bs
def itL : Fo → Bool
  | .nil => false
  | .cons _ _ li _ _ _ => li
def itS : Fo → Fo
  | .nil => .nil
  | .cons _ _ _ _ s _ => s
def badS (s : FS) (b : Bool) : FS := if s.err = 0 ∧ b = true then { s with err := 3 } else s
def nxI (s : FS) : Fo := if s.err = 0 then getI ((s.at_ + 1 : Nat) : Int) s.l else zerI
def nxB (s : FS) : Bool := if s.err = 0 then hasI ((s.at_ + 1 : Nat) : Int) s.l else false
def nxS (s : FS) (must : Bool) : FS := ⟨s.l, s.at_ + 1, if s.err = 0 ∧ nxB s = false ∧ must = true then 12 else s.err⟩
def zerB (n : Nat) : List UInt8 := List.replicate n 0
/-- The next item's bytes, n of them; the state behind. -/
def byB (s : FS) (n : Nat) : List UInt8 := if nxB s = true ∧ itL (nxI s) = false ∧ (itB (nxI s)).length = n then itB (nxI s) else zerB n
def byS (s : FS) (n : Nat) : FS := if nxB s = true then badS (nxS s true) (itL (nxI s) || !decide ((itB (nxI s)).length = n)) else nxS s true
theorem byB_len (s : FS) (n : Nat) : (byB s n).length = n := by
  unfold byB; split
  · next h => exact h.2.2
  · simp [zerB]
theorem nxB_err {s : FS} (h : nxB s = true) : s.err = 0 := by
  unfold nxB at h; split at h
  · assumption
  · cases h
theorem badS_l (s : FS) (b : Bool) : (badS s b).l = s.l := by unfold badS; split <;> rfl
theorem badS_at (s : FS) (b : Bool) : (badS s b).at_ = s.at_ := by unfold badS; split <;> rfl
theorem nxS_l (s : FS) (m : Bool) : (nxS s m).l = s.l := rfl
theorem nxS_at (s : FS) (m : Bool) : (nxS s m).at_ = s.at_ + 1 := rfl
theorem byS_l (s : FS) (n : Nat) : (byS s n).l = s.l := by
  unfold byS; split
  · rw [badS_l]; rfl
  · rfl
theorem byS_at (s : FS) (n : Nat) : (byS s n).at_ = s.at_ + 1 := by
  unfold byS; split
  · rw [badS_at]; rfl
  · rfl
theorem nxS_ok {s : FS} {m : Bool} (h : nxB s = true) : (nxS s m).err = 0 := by
  have h0 := nxB_err h
  simp [nxS, h, h0]
theorem nxS_sticks {s : FS} {m : Bool} (h : s.err ≠ 0) : (nxS s m).err = s.err := by simp [nxS, h]
theorem badS_sticks {s : FS} {b : Bool} (h : s.err ≠ 0) : badS s b = s := by simp [badS, h]
theorem byS_sticks {s : FS} {n : Nat} (h : s.err ≠ 0) : (byS s n).err = s.err := by
  have hb : nxB s = false := by simp [nxB, h]
  simp [byS, hb, nxS_sticks h]
/-- The bytes of the next items, each of its size; the state behind them. -/
def szG : FS → List Nat → List (List UInt8) × FS
  | s, [] => ([], s)
  | s, n :: ns => (byB s n :: (szG (byS s n) ns).1, (szG (byS s n) ns).2)
theorem szG_sticks : ∀ (ns : List Nat) (s : FS), s.err ≠ 0 → (szG s ns).2.err = s.err
  | [], _, _ => rfl
  | n :: ns, s, h => by
    have h1 := byS_sticks (n := n) h
    rw [szG]
    show (szG (byS s n) ns).2.err = s.err
    rw [szG_sticks ns _ (by rw [h1]; exact h), h1]
theorem szG_len : ∀ (ns : List Nat) (s : FS), (szG s ns).1.length = ns.length
  | [], _ => rfl
  | n :: ns, s => by rw [szG]; simp [szG_len ns]
/-- Kinds 1 to k. -/
def kindsL (k : Nat) : List Int := (List.range k).map fun i => ((i + 1 : Nat) : Int)
def knS (l : Fo) (k : Nat) (e : Nat) : FS := if e ≠ 0 then ⟨.nil, 0, e⟩ else ⟨(pickT (kindsL k) l).2, 0, (pickT (kindsL k) l).1⟩
def opS (bs : List UInt8) (k : Nat) : FS := knS (decT bs).2 k (decT bs).1
/-- The next item's number; the state behind. -/
def nuN (s : FS) : Nat := if nxB s = true then (varR ⟨itB (nxI s), 0, 0, none⟩).1 else 0
def nuS (s : FS) (must : Bool) : FS := if nxB s = true then badS (nxS s must) (itL (nxI s) || (decide (endR (varR ⟨itB (nxI s), 0, 0, none⟩).2 ≠ 0) || (!must && decide (nuN s = 0)))) else nxS s must
theorem nuS_l (s : FS) (m : Bool) : (nuS s m).l = s.l := by
  unfold nuS; split
  · rw [badS_l]; rfl
  · rfl
theorem nuS_at (s : FS) (m : Bool) : (nuS s m).at_ = s.at_ + 1 := by
  unfold nuS; split
  · rw [badS_at]; rfl
  · rfl
theorem nuS_sticks {s : FS} {m : Bool} (h : s.err ≠ 0) : (nuS s m).err = s.err := by
  have hb : nxB s = false := by simp [nxB, h]
  simp [nuS, hb, nxS_sticks h]
theorem pickF_size (ks : List Int) : ∀ (f : Fo), (pickF ks f).size ≤ f.size
  | .nil => Nat.le_refl _
  | .cons k cr li bs sub rest => by
    have := pickF_size ks rest
    rw [pickF]
    split <;> simp only [Fo.size] <;> omega
theorem pickT_size (ks : List Int) (f : Fo) : (pickT ks f).2.size ≤ f.size := by
  unfold pickT
  split
  · simp [Fo.size]
  · exact pickF_size ks f
end Go.Proofs.Ytcffinkkfdfcaaa

/- What body.partMay and the reference's May answer. Conditions: none. -/
namespace Go.Proofs.Ytcffinkkfdfcaaa
open Go Go.RowKit

set_option maxRecDepth 100000 in
set_option maxHeartbeats 4000000 in
theorem partMay_c (id : Nat) (ix ct : Int) (A : Option Addr) (n c : Nat) (w : World) : Calls Try.prog 63 #[.agg #[.int .u32 (id : Int), .int .i64 ix, .int .i64 ct, .slice A n c]] w fun r w' => r = .returned (.bool (partB ix ct n)) ∧ Below w.heap.size w w' := by
  have kb : Below w.heap.size w (w.alloc (.cells #[.int .u32 (id : Int), .int .i64 ix, .int .i64 ct, .slice A n c] 27)) := (Below.refl _ _).alloc (Nat.le_refl _) _
  by_cases h0 : 1 ≤ ct
  · skip
    by_cases h1 : ct ≤ 128
    · skip
      by_cases h2 : 0 ≤ ix
      · skip
        by_cases h3 : ix < ct
        · skip
          by_cases h4 : n ≤ 448
          · skip
            by_cases h5 : n = 448
            · skip
              have hm : partB ix ct n = true := decide_eq_true (by unfold partP; omega)
              rw [hm]; clear hm
              have d0 : (1 : Int) ≤ ct := by omega
              have d1 : decide ((1 : Int) ≤ ct) = true := decide_eq_true (by omega)
              have d2 : decide (ct < (1 : Int)) = false := decide_eq_false (by omega)
              have d3 : ct ≤ (128 : Int) := by omega
              have d4 : decide (ct ≤ (128 : Int)) = true := decide_eq_true (by omega)
              have d5 : decide ((128 : Int) < ct) = false := decide_eq_false (by omega)
              have d6 : (0 : Int) ≤ ix := by omega
              have d7 : decide ((0 : Int) ≤ ix) = true := decide_eq_true (by omega)
              have d8 : decide (ix < (0 : Int)) = false := decide_eq_false (by omega)
              have d9 : ix < ct := by omega
              have d10 : decide (ix < ct) = true := decide_eq_true (by omega)
              have d11 : decide (ct ≤ ix) = false := decide_eq_false (by omega)
              have d12 : (n : Int) ≤ 448 := by omega
              have d13 : decide ((n : Int) ≤ 448) = true := decide_eq_true (by omega)
              have d14 : decide ((448 : Int) < (n : Int)) = false := decide_eq_false (by omega)
              have d15 : ((n : Int) == 448) = true := by rw [beq_iff_eq]; omega
              clear h0 h1 h2 h3 h4 h5
              go_enter Try.func63, Try.ntmps63
              go_wp2
              go_ret
              exact ⟨rfl, kb⟩
            · skip
              by_cases h6 : ix = ct - 1
              · skip
                have hm : partB ix ct n = true := decide_eq_true (by unfold partP; omega)
                rw [hm]; clear hm
                have d0 : (1 : Int) ≤ ct := by omega
                have d1 : decide ((1 : Int) ≤ ct) = true := decide_eq_true (by omega)
                have d2 : decide (ct < (1 : Int)) = false := decide_eq_false (by omega)
                have d3 : ct ≤ (128 : Int) := by omega
                have d4 : decide (ct ≤ (128 : Int)) = true := decide_eq_true (by omega)
                have d5 : decide ((128 : Int) < ct) = false := decide_eq_false (by omega)
                have d6 : (0 : Int) ≤ ix := by omega
                have d7 : decide ((0 : Int) ≤ ix) = true := decide_eq_true (by omega)
                have d8 : decide (ix < (0 : Int)) = false := decide_eq_false (by omega)
                have d9 : ix < ct := by omega
                have d10 : decide (ix < ct) = true := decide_eq_true (by omega)
                have d11 : decide (ct ≤ ix) = false := decide_eq_false (by omega)
                have d12 : (n : Int) ≤ 448 := by omega
                have d13 : decide ((n : Int) ≤ 448) = true := decide_eq_true (by omega)
                have d14 : decide ((448 : Int) < (n : Int)) = false := decide_eq_false (by omega)
                have d15 : ((n : Int) == 448) = false := by rw [beq_eq_false_iff_ne]; omega
                have d16 : (ix == (ct - 1)) = true := by rw [beq_iff_eq]; omega
                clear h0 h1 h2 h3 h4 h5 h6
                go_enter Try.func63, Try.ntmps63
                go_wp2
                go_ret
                exact ⟨rfl, kb⟩
              · skip
                have hm : partB ix ct n = false := decide_eq_false (by unfold partP; omega)
                rw [hm]; clear hm
                have d0 : (1 : Int) ≤ ct := by omega
                have d1 : decide ((1 : Int) ≤ ct) = true := decide_eq_true (by omega)
                have d2 : decide (ct < (1 : Int)) = false := decide_eq_false (by omega)
                have d3 : ct ≤ (128 : Int) := by omega
                have d4 : decide (ct ≤ (128 : Int)) = true := decide_eq_true (by omega)
                have d5 : decide ((128 : Int) < ct) = false := decide_eq_false (by omega)
                have d6 : (0 : Int) ≤ ix := by omega
                have d7 : decide ((0 : Int) ≤ ix) = true := decide_eq_true (by omega)
                have d8 : decide (ix < (0 : Int)) = false := decide_eq_false (by omega)
                have d9 : ix < ct := by omega
                have d10 : decide (ix < ct) = true := decide_eq_true (by omega)
                have d11 : decide (ct ≤ ix) = false := decide_eq_false (by omega)
                have d12 : (n : Int) ≤ 448 := by omega
                have d13 : decide ((n : Int) ≤ 448) = true := decide_eq_true (by omega)
                have d14 : decide ((448 : Int) < (n : Int)) = false := decide_eq_false (by omega)
                have d15 : ((n : Int) == 448) = false := by rw [beq_eq_false_iff_ne]; omega
                have d16 : (ix == (ct - 1)) = false := by rw [beq_eq_false_iff_ne]; omega
                clear h0 h1 h2 h3 h4 h5 h6
                go_enter Try.func63, Try.ntmps63
                go_wp2
                go_ret
                exact ⟨rfl, kb⟩
          · skip
            have hm : partB ix ct n = false := decide_eq_false (by unfold partP; omega)
            rw [hm]; clear hm
            have d0 : (1 : Int) ≤ ct := by omega
            have d1 : decide ((1 : Int) ≤ ct) = true := decide_eq_true (by omega)
            have d2 : decide (ct < (1 : Int)) = false := decide_eq_false (by omega)
            have d3 : ct ≤ (128 : Int) := by omega
            have d4 : decide (ct ≤ (128 : Int)) = true := decide_eq_true (by omega)
            have d5 : decide ((128 : Int) < ct) = false := decide_eq_false (by omega)
            have d6 : (0 : Int) ≤ ix := by omega
            have d7 : decide ((0 : Int) ≤ ix) = true := decide_eq_true (by omega)
            have d8 : decide (ix < (0 : Int)) = false := decide_eq_false (by omega)
            have d9 : ix < ct := by omega
            have d10 : decide (ix < ct) = true := decide_eq_true (by omega)
            have d11 : decide (ct ≤ ix) = false := decide_eq_false (by omega)
            have d12 : (448 : Int) < (n : Int) := by omega
            have d13 : decide ((n : Int) ≤ 448) = false := decide_eq_false (by omega)
            have d14 : decide ((448 : Int) < (n : Int)) = true := decide_eq_true (by omega)
            clear h0 h1 h2 h3 h4
            go_enter Try.func63, Try.ntmps63
            go_wp2
            go_ret
            exact ⟨rfl, kb⟩
        · skip
          have hm : partB ix ct n = false := decide_eq_false (by unfold partP; omega)
          rw [hm]; clear hm
          have d0 : (1 : Int) ≤ ct := by omega
          have d1 : decide ((1 : Int) ≤ ct) = true := decide_eq_true (by omega)
          have d2 : decide (ct < (1 : Int)) = false := decide_eq_false (by omega)
          have d3 : ct ≤ (128 : Int) := by omega
          have d4 : decide (ct ≤ (128 : Int)) = true := decide_eq_true (by omega)
          have d5 : decide ((128 : Int) < ct) = false := decide_eq_false (by omega)
          have d6 : (0 : Int) ≤ ix := by omega
          have d7 : decide ((0 : Int) ≤ ix) = true := decide_eq_true (by omega)
          have d8 : decide (ix < (0 : Int)) = false := decide_eq_false (by omega)
          have d9 : ct ≤ ix := by omega
          have d10 : decide (ix < ct) = false := decide_eq_false (by omega)
          have d11 : decide (ct ≤ ix) = true := decide_eq_true (by omega)
          clear h0 h1 h2 h3
          go_enter Try.func63, Try.ntmps63
          go_wp2
          go_ret
          exact ⟨rfl, kb⟩
      · skip
        have hm : partB ix ct n = false := decide_eq_false (by unfold partP; omega)
        rw [hm]; clear hm
        have d0 : (1 : Int) ≤ ct := by omega
        have d1 : decide ((1 : Int) ≤ ct) = true := decide_eq_true (by omega)
        have d2 : decide (ct < (1 : Int)) = false := decide_eq_false (by omega)
        have d3 : ct ≤ (128 : Int) := by omega
        have d4 : decide (ct ≤ (128 : Int)) = true := decide_eq_true (by omega)
        have d5 : decide ((128 : Int) < ct) = false := decide_eq_false (by omega)
        have d6 : ix < (0 : Int) := by omega
        have d7 : decide ((0 : Int) ≤ ix) = false := decide_eq_false (by omega)
        have d8 : decide (ix < (0 : Int)) = true := decide_eq_true (by omega)
        clear h0 h1 h2
        go_enter Try.func63, Try.ntmps63
        go_wp2
        go_ret
        exact ⟨rfl, kb⟩
    · skip
      have hm : partB ix ct n = false := decide_eq_false (by unfold partP; omega)
      rw [hm]; clear hm
      have d0 : (1 : Int) ≤ ct := by omega
      have d1 : decide ((1 : Int) ≤ ct) = true := decide_eq_true (by omega)
      have d2 : decide (ct < (1 : Int)) = false := decide_eq_false (by omega)
      have d3 : (128 : Int) < ct := by omega
      have d4 : decide (ct ≤ (128 : Int)) = false := decide_eq_false (by omega)
      have d5 : decide ((128 : Int) < ct) = true := decide_eq_true (by omega)
      clear h0 h1
      go_enter Try.func63, Try.ntmps63
      go_wp2
      go_ret
      exact ⟨rfl, kb⟩
  · skip
    have hm : partB ix ct n = false := decide_eq_false (by unfold partP; omega)
    rw [hm]; clear hm
    have d0 : ct < (1 : Int) := by omega
    have d1 : decide ((1 : Int) ≤ ct) = false := decide_eq_false (by omega)
    have d2 : decide (ct < (1 : Int)) = true := decide_eq_true (by omega)
    clear h0
    go_enter Try.func63, Try.ntmps63
    go_wp2
    go_ret
    exact ⟨rfl, kb⟩
set_option maxRecDepth 100000 in
set_option maxHeartbeats 4000000 in
theorem may20_c (id : Nat) (ix ct : Int) (A : Option Addr) (n c : Nat) (w : World) : Calls Try.prog 64 #[.agg #[.int .u32 (id : Int), .int .i64 ix, .int .i64 ct, .slice A n c]] w fun r w' => r = .returned (.bool (partB ix ct n)) ∧ Below w.heap.size w w' := by
  have kb : Below w.heap.size w (w.alloc (.cells #[.int .u32 (id : Int), .int .i64 ix, .int .i64 ct, .slice A n c] 27)) := (Below.refl _ _).alloc (Nat.le_refl _) _
  by_cases h0 : 1 ≤ ct
  · skip
    by_cases h1 : ct ≤ 128
    · skip
      by_cases h2 : 0 ≤ ix
      · skip
        by_cases h3 : ix < ct
        · skip
          by_cases h4 : n ≤ 448
          · skip
            by_cases h5 : ix = ct - 1
            · skip
              have hm : partB ix ct n = true := decide_eq_true (by unfold partP; omega)
              rw [hm]; clear hm
              have d0 : (1 : Int) ≤ ct := by omega
              have d1 : decide ((1 : Int) ≤ ct) = true := decide_eq_true (by omega)
              have d2 : decide (ct < (1 : Int)) = false := decide_eq_false (by omega)
              have d3 : ct ≤ (128 : Int) := by omega
              have d4 : decide (ct ≤ (128 : Int)) = true := decide_eq_true (by omega)
              have d5 : decide ((128 : Int) < ct) = false := decide_eq_false (by omega)
              have d6 : (0 : Int) ≤ ix := by omega
              have d7 : decide ((0 : Int) ≤ ix) = true := decide_eq_true (by omega)
              have d8 : decide (ix < (0 : Int)) = false := decide_eq_false (by omega)
              have d9 : ix < ct := by omega
              have d10 : decide (ix < ct) = true := decide_eq_true (by omega)
              have d11 : decide (ct ≤ ix) = false := decide_eq_false (by omega)
              have d12 : (n : Int) ≤ 448 := by omega
              have d13 : decide ((n : Int) ≤ 448) = true := decide_eq_true (by omega)
              have d14 : decide ((448 : Int) < (n : Int)) = false := decide_eq_false (by omega)
              have d15 : (ix == (ct - 1)) = true := by rw [beq_iff_eq]; omega
              clear h0 h1 h2 h3 h4 h5
              go_enter Try.func64, Try.ntmps64
              go_wp2
              go_ret
              exact ⟨rfl, kb⟩
            · skip
              by_cases h6 : n = 448
              · skip
                have hm : partB ix ct n = true := decide_eq_true (by unfold partP; omega)
                rw [hm]; clear hm
                have d0 : (1 : Int) ≤ ct := by omega
                have d1 : decide ((1 : Int) ≤ ct) = true := decide_eq_true (by omega)
                have d2 : decide (ct < (1 : Int)) = false := decide_eq_false (by omega)
                have d3 : ct ≤ (128 : Int) := by omega
                have d4 : decide (ct ≤ (128 : Int)) = true := decide_eq_true (by omega)
                have d5 : decide ((128 : Int) < ct) = false := decide_eq_false (by omega)
                have d6 : (0 : Int) ≤ ix := by omega
                have d7 : decide ((0 : Int) ≤ ix) = true := decide_eq_true (by omega)
                have d8 : decide (ix < (0 : Int)) = false := decide_eq_false (by omega)
                have d9 : ix < ct := by omega
                have d10 : decide (ix < ct) = true := decide_eq_true (by omega)
                have d11 : decide (ct ≤ ix) = false := decide_eq_false (by omega)
                have d12 : (n : Int) ≤ 448 := by omega
                have d13 : decide ((n : Int) ≤ 448) = true := decide_eq_true (by omega)
                have d14 : decide ((448 : Int) < (n : Int)) = false := decide_eq_false (by omega)
                have d15 : (ix == (ct - 1)) = false := by rw [beq_eq_false_iff_ne]; omega
                have d16 : ((n : Int) == 448) = true := by rw [beq_iff_eq]; omega
                clear h0 h1 h2 h3 h4 h5 h6
                go_enter Try.func64, Try.ntmps64
                go_wp2
                go_ret
                exact ⟨rfl, kb⟩
              · skip
                have hm : partB ix ct n = false := decide_eq_false (by unfold partP; omega)
                rw [hm]; clear hm
                have d0 : (1 : Int) ≤ ct := by omega
                have d1 : decide ((1 : Int) ≤ ct) = true := decide_eq_true (by omega)
                have d2 : decide (ct < (1 : Int)) = false := decide_eq_false (by omega)
                have d3 : ct ≤ (128 : Int) := by omega
                have d4 : decide (ct ≤ (128 : Int)) = true := decide_eq_true (by omega)
                have d5 : decide ((128 : Int) < ct) = false := decide_eq_false (by omega)
                have d6 : (0 : Int) ≤ ix := by omega
                have d7 : decide ((0 : Int) ≤ ix) = true := decide_eq_true (by omega)
                have d8 : decide (ix < (0 : Int)) = false := decide_eq_false (by omega)
                have d9 : ix < ct := by omega
                have d10 : decide (ix < ct) = true := decide_eq_true (by omega)
                have d11 : decide (ct ≤ ix) = false := decide_eq_false (by omega)
                have d12 : (n : Int) ≤ 448 := by omega
                have d13 : decide ((n : Int) ≤ 448) = true := decide_eq_true (by omega)
                have d14 : decide ((448 : Int) < (n : Int)) = false := decide_eq_false (by omega)
                have d15 : (ix == (ct - 1)) = false := by rw [beq_eq_false_iff_ne]; omega
                have d16 : ((n : Int) == 448) = false := by rw [beq_eq_false_iff_ne]; omega
                clear h0 h1 h2 h3 h4 h5 h6
                go_enter Try.func64, Try.ntmps64
                go_wp2
                go_ret
                exact ⟨rfl, kb⟩
          · skip
            have hm : partB ix ct n = false := decide_eq_false (by unfold partP; omega)
            rw [hm]; clear hm
            have d0 : (1 : Int) ≤ ct := by omega
            have d1 : decide ((1 : Int) ≤ ct) = true := decide_eq_true (by omega)
            have d2 : decide (ct < (1 : Int)) = false := decide_eq_false (by omega)
            have d3 : ct ≤ (128 : Int) := by omega
            have d4 : decide (ct ≤ (128 : Int)) = true := decide_eq_true (by omega)
            have d5 : decide ((128 : Int) < ct) = false := decide_eq_false (by omega)
            have d6 : (0 : Int) ≤ ix := by omega
            have d7 : decide ((0 : Int) ≤ ix) = true := decide_eq_true (by omega)
            have d8 : decide (ix < (0 : Int)) = false := decide_eq_false (by omega)
            have d9 : ix < ct := by omega
            have d10 : decide (ix < ct) = true := decide_eq_true (by omega)
            have d11 : decide (ct ≤ ix) = false := decide_eq_false (by omega)
            have d12 : (448 : Int) < (n : Int) := by omega
            have d13 : decide ((n : Int) ≤ 448) = false := decide_eq_false (by omega)
            have d14 : decide ((448 : Int) < (n : Int)) = true := decide_eq_true (by omega)
            clear h0 h1 h2 h3 h4
            go_enter Try.func64, Try.ntmps64
            go_wp2
            go_ret
            exact ⟨rfl, kb⟩
        · skip
          have hm : partB ix ct n = false := decide_eq_false (by unfold partP; omega)
          rw [hm]; clear hm
          have d0 : (1 : Int) ≤ ct := by omega
          have d1 : decide ((1 : Int) ≤ ct) = true := decide_eq_true (by omega)
          have d2 : decide (ct < (1 : Int)) = false := decide_eq_false (by omega)
          have d3 : ct ≤ (128 : Int) := by omega
          have d4 : decide (ct ≤ (128 : Int)) = true := decide_eq_true (by omega)
          have d5 : decide ((128 : Int) < ct) = false := decide_eq_false (by omega)
          have d6 : (0 : Int) ≤ ix := by omega
          have d7 : decide ((0 : Int) ≤ ix) = true := decide_eq_true (by omega)
          have d8 : decide (ix < (0 : Int)) = false := decide_eq_false (by omega)
          have d9 : ct ≤ ix := by omega
          have d10 : decide (ix < ct) = false := decide_eq_false (by omega)
          have d11 : decide (ct ≤ ix) = true := decide_eq_true (by omega)
          clear h0 h1 h2 h3
          go_enter Try.func64, Try.ntmps64
          go_wp2
          go_ret
          exact ⟨rfl, kb⟩
      · skip
        have hm : partB ix ct n = false := decide_eq_false (by unfold partP; omega)
        rw [hm]; clear hm
        have d0 : (1 : Int) ≤ ct := by omega
        have d1 : decide ((1 : Int) ≤ ct) = true := decide_eq_true (by omega)
        have d2 : decide (ct < (1 : Int)) = false := decide_eq_false (by omega)
        have d3 : ct ≤ (128 : Int) := by omega
        have d4 : decide (ct ≤ (128 : Int)) = true := decide_eq_true (by omega)
        have d5 : decide ((128 : Int) < ct) = false := decide_eq_false (by omega)
        have d6 : ix < (0 : Int) := by omega
        have d7 : decide ((0 : Int) ≤ ix) = false := decide_eq_false (by omega)
        have d8 : decide (ix < (0 : Int)) = true := decide_eq_true (by omega)
        clear h0 h1 h2
        go_enter Try.func64, Try.ntmps64
        go_wp2
        go_ret
        exact ⟨rfl, kb⟩
    · skip
      have hm : partB ix ct n = false := decide_eq_false (by unfold partP; omega)
      rw [hm]; clear hm
      have d0 : (1 : Int) ≤ ct := by omega
      have d1 : decide ((1 : Int) ≤ ct) = true := decide_eq_true (by omega)
      have d2 : decide (ct < (1 : Int)) = false := decide_eq_false (by omega)
      have d3 : (128 : Int) < ct := by omega
      have d4 : decide (ct ≤ (128 : Int)) = false := decide_eq_false (by omega)
      have d5 : decide ((128 : Int) < ct) = true := decide_eq_true (by omega)
      clear h0 h1
      go_enter Try.func64, Try.ntmps64
      go_wp2
      go_ret
      exact ⟨rfl, kb⟩
  · skip
    have hm : partB ix ct n = false := decide_eq_false (by unfold partP; omega)
    rw [hm]; clear hm
    have d0 : ct < (1 : Int) := by omega
    have d1 : decide ((1 : Int) ≤ ct) = false := decide_eq_false (by omega)
    have d2 : decide (ct < (1 : Int)) = true := decide_eq_true (by omega)
    clear h0
    go_enter Try.func64, Try.ntmps64
    go_wp2
    go_ret
    exact ⟨rfl, kb⟩
end Go.Proofs.Ytcffinkkfdfcaaa

/- What body.dataMay and the reference's Same of one part answer. Conditions: none. -/
namespace Go.Proofs.Ytcffinkkfdfcaaa
open Go Go.RowKit

/-- Data's nine cells. -/
def cells9 (st ec ak th : Nat) (has : Bool) (id : Nat) (ix ct : Int) (A : Option Addr) (n c : Nat) : Array Value := #[.int .u16 (st : Int), .int .u16 (ec : Int), .int .u64 (ak : Int), .int .u64 (th : Int), .bool has, .int .u32 (id : Int), .int .i64 ix, .int .i64 ct, .slice A n c]
set_option maxRecDepth 100000 in
set_option maxHeartbeats 4000000 in
theorem dataMay_c (st ec ak th : Nat) (has : Bool) (id : Nat) (ix ct : Int) (A : Option Addr) (n c : Nat) (w : World) : Calls Try.prog 32 #[.agg #[.int .u16 (st : Int), .int .u16 (ec : Int), .int .u64 (ak : Int), .int .u64 (th : Int), .bool has, .int .u32 (id : Int), .int .i64 ix, .int .i64 ct, .slice A n c]] w fun r w' => r = .returned (.bool (dataB has id ix ct n)) ∧ Below w.heap.size w w' := by
  have kb : Below w.heap.size w (w.alloc (.cells #[.int .u16 (st : Int), .int .u16 (ec : Int), .int .u64 (ak : Int), .int .u64 (th : Int), .bool has, .int .u32 (id : Int), .int .i64 ix, .int .i64 ct, .slice A n c] 29)) := (Below.refl _ _).alloc (Nat.le_refl _) _
  cases has with
  | true =>
    go_enter Try.func32, Try.ntmps32
    go_wp2_with (fail)
    refine (partMay_c id ix ct A n c _).mono ?_
    rintro _ w1 ⟨rfl, hb⟩
    have K1 := Lib.hid (kb.trans (hb.mono kb.size))
    clear hb
    go_wp2
    go_ret
    exact ⟨rfl, K1.out⟩
  | false =>
    by_cases h1 : id = 0
    · by_cases h2 : ix = 0
      · by_cases h3 : ct = 0
        · by_cases h4 : n = 0
          · have hm : dataB false id ix ct n = true := decide_eq_true (by unfold noneP; omega)
            rw [hm]; clear hm
            subst h1 h2 h3 h4
            go_enter Try.func32, Try.ntmps32
            go_wp2
            go_ret
            exact ⟨rfl, kb⟩
          · have hm : dataB false id ix ct n = false := decide_eq_false (by unfold noneP; omega)
            rw [hm]; clear hm
            have d1 : ((n : Int) == 0) = false := by rw [beq_eq_false_iff_ne]; omega
            clear h4
            subst h1 h2 h3
            go_enter Try.func32, Try.ntmps32
            go_wp2
            go_ret
            exact ⟨rfl, kb⟩
        · have hm : dataB false id ix ct n = false := decide_eq_false (by unfold noneP; omega)
          rw [hm]; clear hm
          have d1 : (ct == 0) = false := by rw [beq_eq_false_iff_ne]; omega
          clear h3
          subst h1 h2
          go_enter Try.func32, Try.ntmps32
          go_wp2
          go_ret
          exact ⟨rfl, kb⟩
      · have hm : dataB false id ix ct n = false := decide_eq_false (by unfold noneP; omega)
        rw [hm]; clear hm
        have d1 : (ix == 0) = false := by rw [beq_eq_false_iff_ne]; omega
        clear h2
        subst h1
        go_enter Try.func32, Try.ntmps32
        go_wp2
        go_ret
        exact ⟨rfl, kb⟩
    · have hm : dataB false id ix ct n = false := decide_eq_false (by unfold noneP; omega)
      rw [hm]; clear hm
      have d1 : ((id : Int) == 0) = false := by rw [beq_eq_false_iff_ne]; omega
      clear h1
      go_enter Try.func32, Try.ntmps32
      go_wp2
      go_ret
      exact ⟨rfl, kb⟩
end Go.Proofs.Ytcffinkkfdfcaaa

/- What the reference's Same answers of one part and one part. Conditions: texts that can be read. -/
namespace Go.Proofs.Ytcffinkkfdfcaaa
open Go Go.RowKit

theorem Same_qg (A1 A2 : Option Addr) (n1 n2 c1 c2 : Nat) (xs ys : List UInt8) (w : World) (l1 : xs.length = n1) (l2 : ys.length = n2) (h1 : Rd w A1 (xs.map bv)) (h2 : Rd w A2 (ys.map bv)) (m1 : n1 ≤ maxLen) (B : Bool) (hB : sameB xs ys = B) (q m : Nat) :
    Calls Try.prog 13 #[.slice A1 n1 c1, .slice A2 n2 c2] (w.drewN (q + m)) fun e w' => e = .returned (.bool B) ∧ ∃ k, w' = w.drewN (q + k) :=
  (Same_c A1 A2 n1 n2 c1 c2 xs ys (w.drewN (q + m)) l1 l2 (h1.drewN _) (h2.drewN _) m1).mono fun _ _ ⟨he, q', hw⟩ => ⟨by rw [he, hB], m + q', by rw [hw, World.drewN_drewN, Nat.add_assoc]⟩
theorem four_of {w : World} {g : Nat} {t : TypeId} {a b c d : Value} (h : w.heap[g]? = some (.cells #[a, b, c, d] t (0, 0))) :
    w.cell? ⟨g, 0, none⟩ = some a ∧ w.cell? ⟨g, 1, none⟩ = some b ∧ w.cell? ⟨g, 2, none⟩ = some c ∧ w.cell? ⟨g, 3, none⟩ = some d := by
  refine ⟨?_, ?_, ?_, ?_⟩ <;> (rw [heap_cell h]; rfl)
def samePB (i1 i2 : Nat) (x1 x2 t1 t2 : Int) (b1 b2 : List UInt8) : Bool := if i1 = i2 then if x1 = x2 then if t1 = t2 then sameB b1 b2 else false else false else false
set_option maxRecDepth 100000 in
set_option maxHeartbeats 4000000 in
theorem Same1_c (i1 i2 : Nat) (x1 x2 t1 t2 : Int) (g1 g2 : Nat) (A1 A2 : Option Addr) (n1 n2 c1 c2 : Nat) (b1 b2 : List UInt8) (w : World) (l1 : b1.length = n1) (l2 : b2.length = n2) (r1 : Rd w A1 (b1.map bv)) (r2 : Rd w A2 (b2.map bv)) (m1 : n1 ≤ maxLen)
    (h1 : w.heap[g1]? = some (.cells #[.int .u32 (i1 : Int), .int .i64 x1, .int .i64 t1, .slice A1 n1 c1] 27 (0, 0))) (h2 : w.heap[g2]? = some (.cells #[.int .u32 (i2 : Int), .int .i64 x2, .int .i64 t2, .slice A2 n2 c2] 27 (0, 0))) :
    Calls Try.prog 41 #[.slice (some ⟨g1, 0, none⟩) 1 1, .slice (some ⟨g2, 0, none⟩) 1 1] w fun r w' => r = .returned (.bool (samePB i1 i2 x1 x2 t1 t2 b1 b2)) ∧ ∃ q, w' = w.drewN q := by
  have L1 := Lib.hid l1
  have L2 := Lib.hid l2
  clear l1 l2
  obtain ⟨p0, p1, p2, p3⟩ := four_of h1
  obtain ⟨q0, q1, q2, q3⟩ := four_of h2
  clear h1 h2
  obtain ⟨R, hR⟩ : ∃ R, R = samePB i1 i2 x1 x2 t1 t2 b1 b2 := ⟨_, rfl⟩
  rw [← hR]
  have HR := Lib.hid hR; clear hR
  by_cases k1 : i1 = i2
  · subst k1
    by_cases k2 : x1 = x2
    · subst k2
      by_cases k3 : t1 = t2
      · subst k3
        have HF : Hid (samePB i1 i1 x1 x1 t1 t1 b1 b2 = sameB b1 b2) := Lib.hid (by unfold samePB; rw [if_pos rfl, if_pos rfl, if_pos rfl])
        obtain ⟨B, hB⟩ : ∃ B, B = sameB b1 b2 := ⟨_, rfl⟩
        cases B with
        | true =>
          have HF : Hid (samePB i1 i1 x1 x1 t1 t1 b1 b2 = true) := Lib.hid (HF.out.trans hB.symm)
          have HB : Hid (sameB b1 b2 = true) := Lib.hid hB.symm
          clear hB
          have d1 : ((i1 : Int) == (i1 : Int)) = true := by simp
          have e1 : ((i1 : Int) != (i1 : Int)) = false := by simp
          have d2 : (x1 == x1) = true := by simp
          have e2 : (x1 != x1) = false := by simp
          have d3 : (t1 == t1) = true := by simp
          have e3 : (t1 != t1) = false := by simp
          go_enter Try.func41, Try.ntmps41
          go_wp2
          go_loopw [13] (fun i wr => (i = .int .i64 0 ∨ (i = .int .i64 1 ∧ Hid (R = true))) ∧ ∃ q, wr = w.drewN q) (fun i _ => 1 - (intOf i).toNat)
          case atStart => exact ⟨.inl rfl, 0, rfl⟩
          case round =>
            obtain ⟨hi, q, rfl⟩ := hrel
            rcases hi with rfl | ⟨rfl, HT⟩
            · go_wp2
              go_quiet ((go_at_call 13; exact Same_qg A1 A2 n1 n2 c1 c2 b1 b2 _ L1.out L2.out r1 r2 m1 _ HB.out _ _))
              go_wp2
              go_roundw
              case rel => exact ⟨.inr ⟨rfl, Lib.hid (HR.out.trans HF.out)⟩, by first | exact ⟨_, rfl⟩ | exact ⟨_, World.drewN_drewN _ _ _⟩ | exact ⟨_, by rw [World.drewN_drewN]⟩⟩
              case measure => simp [intOf]
            · go_wp2
              go_ret
              exact ⟨by rw [HT.out]; rfl, _, rfl⟩
        | false =>
          have HF : Hid (samePB i1 i1 x1 x1 t1 t1 b1 b2 = false) := Lib.hid (HF.out.trans hB.symm)
          have HB : Hid (sameB b1 b2 = false) := Lib.hid hB.symm
          clear hB
          have d1 : ((i1 : Int) == (i1 : Int)) = true := by simp
          have e1 : ((i1 : Int) != (i1 : Int)) = false := by simp
          have d2 : (x1 == x1) = true := by simp
          have e2 : (x1 != x1) = false := by simp
          have d3 : (t1 == t1) = true := by simp
          have e3 : (t1 != t1) = false := by simp
          go_enter Try.func41, Try.ntmps41
          go_wp2
          go_loopw [13] (fun i wr => (i = .int .i64 0 ∨ (i = .int .i64 1 ∧ Hid (R = true))) ∧ ∃ q, wr = w.drewN q) (fun i _ => 1 - (intOf i).toNat)
          case atStart => exact ⟨.inl rfl, 0, rfl⟩
          case round =>
            obtain ⟨hi, q, rfl⟩ := hrel
            rcases hi with rfl | ⟨rfl, HT⟩
            · go_wp2
              go_quiet ((go_at_call 13; exact Same_qg A1 A2 n1 n2 c1 c2 b1 b2 _ L1.out L2.out r1 r2 m1 _ HB.out _ _))
              go_wp2
              go_ret
              exact ⟨by rw [HR.out, HF.out]; rfl, by first | exact ⟨_, rfl⟩ | exact ⟨_, World.drewN_drewN _ _ _⟩ | exact ⟨_, by rw [World.drewN_drewN]⟩⟩
            · go_wp2
              go_ret
              exact ⟨by rw [HT.out]; rfl, _, rfl⟩
      · have HF : Hid (samePB i1 i1 x1 x1 t1 t2 b1 b2 = false) := Lib.hid (by unfold samePB; rw [if_pos rfl, if_pos rfl, if_neg k3])
        have d1 : ((i1 : Int) == (i1 : Int)) = true := by simp
        have e1 : ((i1 : Int) != (i1 : Int)) = false := by simp
        have d2 : (x1 == x1) = true := by simp
        have e2 : (x1 != x1) = false := by simp
        have d3 : (t1 == t2) = false := by rw [beq_eq_false_iff_ne]; omega
        have e3 : (t1 != t2) = true := by rw [bne_iff_ne]; omega
        clear k3
        have HB : Hid (sameB b1 b2 = sameB b1 b2) := Lib.hid rfl
        go_enter Try.func41, Try.ntmps41
        go_wp2
        go_loopw [13] (fun i wr => (i = .int .i64 0 ∨ (i = .int .i64 1 ∧ Hid (R = true))) ∧ ∃ q, wr = w.drewN q) (fun i _ => 1 - (intOf i).toNat)
        case atStart => exact ⟨.inl rfl, 0, rfl⟩
        case round =>
          obtain ⟨hi, q, rfl⟩ := hrel
          rcases hi with rfl | ⟨rfl, HT⟩
          · go_wp2
            go_quiet ((go_at_call 13; exact Same_qg A1 A2 n1 n2 c1 c2 b1 b2 _ L1.out L2.out r1 r2 m1 _ HB.out _ _))
            go_wp2
            go_ret
            exact ⟨by rw [HR.out, HF.out]; rfl, by first | exact ⟨_, rfl⟩ | exact ⟨_, World.drewN_drewN _ _ _⟩ | exact ⟨_, by rw [World.drewN_drewN]⟩⟩
          · go_wp2
            go_ret
            exact ⟨by rw [HT.out]; rfl, _, rfl⟩
    · have HF : Hid (samePB i1 i1 x1 x2 t1 t2 b1 b2 = false) := Lib.hid (by unfold samePB; rw [if_pos rfl, if_neg k2])
      have d1 : ((i1 : Int) == (i1 : Int)) = true := by simp
      have e1 : ((i1 : Int) != (i1 : Int)) = false := by simp
      have d2 : (x1 == x2) = false := by rw [beq_eq_false_iff_ne]; omega
      have e2 : (x1 != x2) = true := by rw [bne_iff_ne]; omega
      clear k2
      have HB : Hid (sameB b1 b2 = sameB b1 b2) := Lib.hid rfl
      go_enter Try.func41, Try.ntmps41
      go_wp2
      go_loopw [13] (fun i wr => (i = .int .i64 0 ∨ (i = .int .i64 1 ∧ Hid (R = true))) ∧ ∃ q, wr = w.drewN q) (fun i _ => 1 - (intOf i).toNat)
      case atStart => exact ⟨.inl rfl, 0, rfl⟩
      case round =>
        obtain ⟨hi, q, rfl⟩ := hrel
        rcases hi with rfl | ⟨rfl, HT⟩
        · go_wp2
          go_quiet ((go_at_call 13; exact Same_qg A1 A2 n1 n2 c1 c2 b1 b2 _ L1.out L2.out r1 r2 m1 _ HB.out _ _))
          go_wp2
          go_ret
          exact ⟨by rw [HR.out, HF.out]; rfl, by first | exact ⟨_, rfl⟩ | exact ⟨_, World.drewN_drewN _ _ _⟩ | exact ⟨_, by rw [World.drewN_drewN]⟩⟩
        · go_wp2
          go_ret
          exact ⟨by rw [HT.out]; rfl, _, rfl⟩
  · have HF : Hid (samePB i1 i2 x1 x2 t1 t2 b1 b2 = false) := Lib.hid (by unfold samePB; rw [if_neg k1])
    have d1 : ((i1 : Int) == (i2 : Int)) = false := by rw [beq_eq_false_iff_ne]; omega
    have e1 : ((i1 : Int) != (i2 : Int)) = true := by rw [bne_iff_ne]; omega
    clear k1
    have HB : Hid (sameB b1 b2 = sameB b1 b2) := Lib.hid rfl
    go_enter Try.func41, Try.ntmps41
    go_wp2
    go_loopw [13] (fun i wr => (i = .int .i64 0 ∨ (i = .int .i64 1 ∧ Hid (R = true))) ∧ ∃ q, wr = w.drewN q) (fun i _ => 1 - (intOf i).toNat)
    case atStart => exact ⟨.inl rfl, 0, rfl⟩
    case round =>
      obtain ⟨hi, q, rfl⟩ := hrel
      rcases hi with rfl | ⟨rfl, HT⟩
      · go_wp2
        go_quiet ((go_at_call 13; exact Same_qg A1 A2 n1 n2 c1 c2 b1 b2 _ L1.out L2.out r1 r2 m1 _ HB.out _ _))
        go_wp2
        go_ret
        exact ⟨by rw [HR.out, HF.out]; rfl, by first | exact ⟨_, rfl⟩ | exact ⟨_, World.drewN_drewN _ _ _⟩ | exact ⟨_, by rw [World.drewN_drewN]⟩⟩
      · go_wp2
        go_ret
        exact ⟨by rw [HT.out]; rfl, _, rfl⟩
end Go.Proofs.Ytcffinkkfdfcaaa

/- What the reference's DataMay and SameData answer. Conditions: texts that can be read. -/
namespace Go.Proofs.Ytcffinkkfdfcaaa
open Go Go.RowKit

theorem at_new {w : World} {o : Obj} {k : Nat} (h : k = w.heap.size) : (w.alloc o).heap[k]? = some o := by rw [h]; exact heap_alloc_new w o
theorem at_old {w : World} {o x : Obj} {k : Nat} (h : w.heap[k]? = some x) : (w.alloc o).heap[k]? = some x := by
  rw [Below.heap_alloc _ _ _ (by rcases Nat.lt_or_ge k w.heap.size with q | q; exact q; rw [Array.getElem?_eq_none q] at h; cases h)]; exact h
theorem samePB_zero (id : Nat) (ix ct : Int) (bs : List UInt8) (n : Nat) (h : bs.length = n) : samePB id 0 ix 0 ct 0 bs [] = dataB false id ix ct n := by
  have e : dataB false id ix ct n = noneB id ix ct n := rfl
  rw [e, noneB, samePB]
  by_cases h1 : id = 0
  · by_cases h2 : ix = 0
    · by_cases h3 : ct = 0
      · rw [if_pos h1, if_pos h2, if_pos h3]
        cases bs with
        | nil => subst h; rw [decide_eq_true (by exact ⟨h1, h2, h3, rfl⟩)]; simp [sameB]
        | cons a t => rw [decide_eq_false (by intro hh; have := hh.2.2.2; rw [← h] at this; simp at this)]; simp [sameB]
      · rw [if_pos h1, if_pos h2, if_neg h3, decide_eq_false (fun hh => h3 hh.2.2.1)]
    · rw [if_pos h1, if_neg h2, decide_eq_false (fun hh => h2 hh.2.1)]
  · rw [if_neg h1, decide_eq_false (fun hh => h1 hh.1)]
set_option maxRecDepth 100000 in
set_option maxHeartbeats 4000000 in
theorem dataMay21_c (st ec ak th : Nat) (has : Bool) (id : Nat) (ix ct : Int) (A : Option Addr) (n c : Nat) (bs : List UInt8) (w : World) (hn : bs.length = n) (hr : Rd w A (bs.map bv)) (hl : n ≤ maxLen) : Calls Try.prog 36 #[.agg #[.int .u16 (st : Int), .int .u16 (ec : Int), .int .u64 (ak : Int), .int .u64 (th : Int), .bool has, .int .u32 (id : Int), .int .i64 ix, .int .i64 ct, .slice A n c]] w fun r w' => r = .returned (.bool (dataB has id ix ct n)) ∧ Below w.heap.size w w' := by
  obtain ⟨w1, ew1⟩ : ∃ w1, w1 = w.alloc (.cells #[.int .u16 (st : Int), .int .u16 (ec : Int), .int .u64 (ak : Int), .int .u64 (th : Int), .bool has, .int .u32 (id : Int), .int .i64 ix, .int .i64 ct, .slice A n c] 29) := ⟨_, rfl⟩
  have kb : Below w.heap.size w w1 := by rw [ew1]; exact (Below.refl _ _).alloc (Nat.le_refl _) _
  have HN := Lib.hid hn
  have HR := Lib.hid hr
  clear hn hr
  cases has with
  | true =>
    subst ew1
    go_enter Try.func36, Try.ntmps36
    go_wp2_with (fail)
    refine (may20_c id ix ct A n c _).mono ?_
    rintro _ w2 ⟨rfl, hb⟩
    have K1 := Lib.hid (kb.trans (hb.mono kb.size))
    clear hb
    go_wp2
    go_ret
    exact ⟨rfl, K1.out⟩
  | false =>
    have HRZ := Lib.hid (samePB_zero id ix ct bs n HN.out)
    obtain ⟨R, hR⟩ : ∃ R, R = dataB false id ix ct n := ⟨_, rfl⟩
    rw [← hR] at HRZ ⊢
    clear hR
    have KB := Lib.hid kb
    clear kb
    subst ew1
    go_enter Try.func36, Try.ntmps36
    go_wp2_with (fail)
    refine (Same1_c id 0 ix 0 ct 0 _ _ A none n 0 c 0 bs [] _ HN.out rfl (((HR.out.alloc _).alloc _).alloc _) (Rd.nil_) hl (at_old (at_new (by simp))) (at_new (by simp))).mono ?_
    rintro _ w2 ⟨rfl, q, rfl⟩
    rw [HRZ.out]
    go_wp2
    go_ret
    exact ⟨rfl, below_drewN (((KB.out.alloc KB.out.size _).alloc (by simp; omega) _)) q⟩
set_option maxRecDepth 100000 in
set_option maxHeartbeats 4000000 in
theorem SameData_t (st ec ak th : Nat) (has : Bool) (id : Nat) (ix ct : Int) (A1 A2 : Option Addr) (n c1 c2 : Nat) (bs : List UInt8) (w : World) (hn : bs.length = n) (r1 : Rd w A1 (bs.map bv)) (r2 : Rd w A2 (bs.map bv)) (hl : n ≤ maxLen) :
    Calls Try.prog 14 #[.agg #[.int .u16 (st : Int), .int .u16 (ec : Int), .int .u64 (ak : Int), .int .u64 (th : Int), .bool has, .int .u32 (id : Int), .int .i64 ix, .int .i64 ct, .slice A1 n c1], .agg #[.int .u16 (st : Int), .int .u16 (ec : Int), .int .u64 (ak : Int), .int .u64 (th : Int), .bool has, .int .u32 (id : Int), .int .i64 ix, .int .i64 ct, .slice A2 n c2]] w fun r w' => r = .returned (.bool true) ∧ Below w.heap.size w w' := by
  have HN := Lib.hid hn
  have R1 := Lib.hid r1
  have R2 := Lib.hid r2
  clear hn r1 r2
  have d1 : ((st : Int) == (st : Int)) = true := by simp
  have d2 : ((ec : Int) == (ec : Int)) = true := by simp
  have d3 : ((ak : Int) == (ak : Int)) = true := by simp
  have d4 : ((th : Int) == (th : Int)) = true := by simp
  have d5 : (has == has) = true := by simp
  go_enter Try.func14, Try.ntmps14
  go_wp2_with (fail)
  refine (Same1_c id id ix ix ct ct _ _ A1 A2 n n c1 c2 bs bs _ HN.out HN.out ((((R1.out.alloc _).alloc _).alloc _).alloc _) ((((R2.out.alloc _).alloc _).alloc _).alloc _) hl (at_old (at_new (by simp))) (at_new (by simp))).mono ?_
  rintro _ w2 ⟨rfl, q, rfl⟩
  have e : samePB id id ix ix ct ct bs bs = true := by unfold samePB; rw [if_pos rfl, if_pos rfl, if_pos rfl]; exact sameB_true rfl
  rw [e]; clear e
  go_wp2
  go_ret
  exact ⟨rfl, below_drewN (((((Below.refl w.heap.size w).alloc (Nat.le_refl _) _).alloc (by simp) _).alloc (by simp; omega) _).alloc (by simp; omega) _) q⟩
end Go.Proofs.Ytcffinkkfdfcaaa

/- A region that draws its order, by a relation for each operation: what each yields is told by a relation that stays true as the world grows; then whatever the order, all relations hold at the end. No order is gone through. Conditions: each slot is written once; no operation panics. -/
namespace Go.Proofs.Ytcffinkkfdfcaaa
open Go Go.RowKit

/-- What an operand is, the slots told by f. -/
def evF (f : Nat → Value) : Operand → Value
  | .tmp t => f t
  | .const v => v
  | .global g => .pointer (some ⟨g, 0, none⟩)
  | .func k => .func (.func k) #[] #[]
theorem evF_eval (a : Act) : a.eval = evF (fun t => a.tmps.getD t undef) := by
  funext x
  cases x <;> rfl
/-- What an operation yields, and the world behind it; it does not panic. -/
def Gives (P : Program) (o : Oper) (f : Nat → Value) (w : World) (K : Value → World → Prop) : Prop :=
  match (execOp (evF f) o).run P w with
  | .ok (.value v) w' => K v w'
  | .ok .skip w' => K undef w'
  | .ok (.enter k args) w' => Calls P k args w' fun e w'' => ∃ v, e = .returned v ∧ K v w''
  | _ => False
theorem Gives.wp {P : Program} {o : Oper} {a : Act} {w : World} {K : Act → World → Prop} {Q : Exit → Act → World → Prop}
    (h : Gives P o (fun t => a.tmps.getD t undef) w (fun v w' => K (a.put o.dst v) w')) : Oper.wp P o a w K Q := by
  unfold Gives at h
  rw [← evF_eval] at h
  unfold Oper.wp
  generalize (execOp a.eval o).run P w = r at h
  cases r with
  | ok n w' =>
    cases n <;> simp only [Oper.upon] at h ⊢
    case value v => exact h
    case skip => exact h
    case enter k args => exact Calls.mono h fun e w'' ⟨v, he, hk⟩ => by subst he; exact hk
    all_goals exact h.elim
  | halt x w' => exact h.elim

def dstOf (ops : Array Oper) (i : Nat) : Option Tmp := (ops[i]?).bind (·.dst)
/-- Which value a guard's operation has yielded. -/
def yieldedF (ops : Array Oper) (f : Nat → Value) (j : Nat) : Option Bool :=
  match dstOf ops j with
  | some d => (match f d with | .bool b => some b | _ => none)
  | none => none
/-- Each slot is written once, and is there. -/
def slotsOk (ops : Array Oper) (n : Nat) : Bool :=
  (List.range ops.size).all fun i => (match dstOf ops i with
    | some d => decide (d < n) && (List.range ops.size).all (fun j => i == j || dstOf ops j != some d)
    | none => true) && (match ops[i]? with | some o => o.after.all (fun e => !Region.binds .any e || decide (e.on < i)) | none => true)
def depOn (ops : Array Oper) (i j : Nat) : Bool := match ops[i]? with | some o => o.after.any (fun e => Region.binds .any e && e.on == j) | none => false
def writes (ops : Array Oper) (t : Nat) : Bool := (List.range ops.size).any (fun j => dstOf ops j == some t)

section
variable {P : Program} {ops : Array Oper} {G : World → World → Prop} {R : Nat → World → Value → Prop} {a0 : Act} {W0 : World}

structure RInv (ops : Array Oper) (G : World → World → Prop) (R : Nat → World → Value → Prop) (a0 : Act) (W0 : World) (listed : Array Bool) (a : Act) (w : World) : Prop where
  grow : G W0 w
  defers : a.defers = a0.defers
  size : a.tmps.size = a0.tmps.size
  lsize : listed.size = ops.size
  frame : ∀ t, writes ops t = false → a.tmps.getD t undef = a0.tmps.getD t undef
  rel : ∀ j d, listed.getD j false = true → dstOf ops j = some d → R j w (a.tmps.getD d undef)

theorem dstOf_lt {i : Nat} {d : Tmp} (h : dstOf ops i = some d) : i < ops.size := by
  unfold dstOf at h
  rcases Nat.lt_or_ge i ops.size with hi | hi
  · exact hi
  · rw [Array.getElem?_eq_none hi] at h; cases h
theorem slotsOk_lt {n : Nat} (h : slotsOk ops n = true) {i : Nat} {d : Tmp} (hd : dstOf ops i = some d) : d < n := by
  have h1 := List.all_eq_true.1 h i (List.mem_range.2 (dstOf_lt hd))
  rw [hd] at h1
  simp only [Bool.and_eq_true, decide_eq_true_eq] at h1
  exact h1.1.1
theorem slotsOk_ne {n : Nat} (h : slotsOk ops n = true) {i j : Nat} {d : Tmp} (hd : dstOf ops i = some d) (hj : dstOf ops j = some d) : i = j := by
  have h1 := List.all_eq_true.1 h i (List.mem_range.2 (dstOf_lt hd))
  rw [hd] at h1
  simp only [Bool.and_eq_true, decide_eq_true_eq] at h1
  have h2 := List.all_eq_true.1 h1.1.2 j (List.mem_range.2 (dstOf_lt hj))
  simp only [Bool.or_eq_true, beq_iff_eq, bne_iff_ne] at h2
  rcases h2 with h2 | h2
  · exact h2
  · exact absurd hj h2
theorem slotsOk_back {n : Nat} (h : slotsOk ops n = true) {i : Nat} {o : Oper} (ho : ops[i]? = some o) (e : Edge) (he : e ∈ o.after) (hb : Region.binds .any e = true) : e.on < i := by
  have hi : i < ops.size := (Array.getElem?_eq_some_iff.1 ho).1
  have h1 := List.all_eq_true.1 h i (List.mem_range.2 hi)
  rw [ho] at h1
  simp only [Bool.and_eq_true] at h1
  have h2 := Array.all_eq_true_iff_forall_mem.1 h1.2 e he
  simpa [hb] using h2
theorem writes_of {j : Nat} {d : Tmp} (h : dstOf ops j = some d) : writes ops d = true :=
  List.any_eq_true.2 ⟨j, List.mem_range.2 (dstOf_lt h), by rw [h]; exact beq_self_eq_true _⟩
theorem yielded_eqF {n : Nat} (h : slotsOk ops n = true) (a : Act) (hs : a.tmps.size = n) : yielded ops a.tmps = yieldedF ops (fun t => a.tmps.getD t undef) := by
  funext j
  unfold yielded yieldedF
  show (match (dstOf ops j).bind (a.tmps[·]?) with | some (.bool b) => some b | _ => none) = _
  cases hd : dstOf ops j with
  | none => rfl
  | some d =>
    have hlt := slotsOk_lt h hd
    have e : a.tmps[d]? = some (a.tmps.getD d undef) := by
      rw [← hs] at hlt
      simp [hlt]
    simp only [Option.bind_some, e]
    generalize a.tmps.getD d undef = u
    cases u <;> rfl

theorem RInv.put {listed : Array Bool} {a : Act} {w w' : World} {i : Nat} {o : Oper} {v : Value} {n : Nat} (ho : ops[i]? = some o) (hok : slotsOk ops n = true) (hn : a0.tmps.size = n) (h : RInv ops G R a0 W0 listed a w)
    (ht : ∀ {a b c}, G a b → G b c → G a c) (hm : ∀ j {a b v}, R j a v → G a b → R j b v) (hg : G w w') (hr : R i w' v) (hi : i < ops.size) : RInv ops G R a0 W0 (listed.setIfInBounds i true) (a.put o.dst v) w' := by
  have hdo : dstOf ops i = o.dst := by unfold dstOf; rw [ho]; rfl
  have get : ∀ t, (a.put o.dst v).tmps.getD t undef = if o.dst = some t ∧ t < n then v else a.tmps.getD t undef := by
    intro t
    unfold Act.put
    cases hd : o.dst with
    | none => simp
    | some d =>
      by_cases e : d = t
      · subst e
        have hlt : d < n := slotsOk_lt hok (hdo.trans hd)
        have hlt2 : d < a.tmps.size := by rw [h.size, hn]; exact hlt
        simp [hlt, hlt2]
      · simp [e, Array.getElem?_setIfInBounds_ne e]
  refine ⟨ht h.grow hg, ?_, ?_, by simp [h.lsize], fun t hw => ?_, fun j d hl hd => ?_⟩
  · rw [← h.defers]; unfold Act.put; cases o.dst <;> rfl
  · rw [← h.size]; unfold Act.put; cases o.dst <;> simp
  · rw [get, if_neg, h.frame t hw]
    rintro ⟨e, _⟩
    have := writes_of (hdo.trans e)
    rw [hw] at this; cases this
  · rw [get]
    by_cases hji : j = i
    · subst hji
      rw [if_pos ⟨hdo.symm.trans hd, slotsOk_lt hok hd⟩]
      exact hr
    · rw [if_neg]
      · refine hm j (h.rel j d ?_ hd) hg
        rw [← hl]
        simp [Array.getElem?_setIfInBounds_ne (Ne.symm hji)]
      · rintro ⟨e, _⟩
        exact hji (slotsOk_ne hok hd (hdo.trans e))

/-- THE LAW. -/
theorem wp_region_rel (n : Nat) {id : Nat} {Q : Exit → Act → World → Prop} {a : Act} {w : World} (hm : P.follows .mixedOrders = true) (hn : a.tmps.size = n) (hok : slotsOk ops n = true)
    (G : World → World → Prop) (R : Nat → World → Value → Prop) (hr : ∀ w, G w w) (ht : ∀ {a b c}, G a b → G b c → G a c) (hmo : ∀ j {a b v}, R j a v → G a b → R j b v)
    (step : ∀ (i : Nat) (o : Oper), ops[i]? = some o → ∀ (f : Nat → Value) (w' : World), G w.drew w' → (∀ t, writes ops t = false → f t = a.tmps.getD t undef) →
      (∀ j d, depOn ops i j = true → dstOf ops j = some d → R j w' (f d)) → if Region.wanted o (yieldedF ops f) = true then Gives P o f w' (fun v w'' => G w' w'' ∧ R i w'' v) else R i w' undef)
    (fin : ∀ (f : Nat → Value) (w' : World), G w.drew w' → (∀ t, writes ops t = false → f t = a.tmps.getD t undef) → (∀ j d, dstOf ops j = some d → R j w' (f d)) → Q .normal ⟨((List.range n).map f).toArray, a.defers⟩ w') :
    (Code.region id ops true).wp P Q a w := by
  refine wp_region_any hm ?_
  have key : ∀ (fuel : Nat) (listed : Array Bool) (b : Act) (v : World), RInv ops G R a w.drew listed b v → ((List.range ops.size).countP (fun i => listed.getD i false == false)) ≤ fuel → wpAny P .any ops Q fuel listed b v := by
    intro fuel
    have done : ∀ (listed : Array Bool) (b : Act) (v : World), RInv ops G R a w.drew listed b v → Region.ready .any ops listed = [] → Q .normal b v := by
      intro listed b v h h0
      have all : ∀ i, i < ops.size → listed.getD i false = true := by
        intro i
        induction i using Nat.strongRecOn with
        | _ i ih =>
          intro hi
          cases hc : listed.getD i false with
          | true => rfl
          | false =>
            have hmem : i ∈ Region.ready .any ops listed := by
              refine mem_ready.2 ⟨?_, ops[i], by simp [hi], fun e he hb => ?_⟩
              · have : i < listed.size := by rw [h.lsize]; exact hi
                simp [this] at hc ⊢
                exact hc
              · have hlt := slotsOk_back hok (i := i) (o := ops[i]) (by simp [hi]) e he hb
                exact ih e.on hlt (by omega)
            rw [h0] at hmem; cases hmem
      have hb : b = ⟨((List.range n).map (fun t => b.tmps.getD t undef)).toArray, a.defers⟩ := by
        have hs : b.tmps.size = n := h.size.trans hn
        have e : b.tmps = ((List.range n).map (fun t => b.tmps.getD t undef)).toArray := by
          apply Array.ext
          · simp [hs]
          · intro i h1 h2
            simp [h1]
        rw [← h.defers, ← e]
      rw [hb]
      exact fin (fun t => b.tmps.getD t undef) v h.grow h.frame (fun j d hd => h.rel j d (all j (dstOf_lt hd)) hd)
    induction fuel with
    | zero =>
      intro listed b v h hc
      have h0 : Region.ready .any ops listed = [] := by
        apply List.eq_nil_iff_forall_not_mem.2
        intro i hi
        obtain ⟨h1, o, ho, _⟩ := mem_ready.1 hi
        have hlt : i < ops.size := (Array.getElem?_eq_some_iff.1 ho).1
        have h2 : listed.getD i false = false := by
          have : i < listed.size := by rw [h.lsize]; exact hlt
          simp [this] at h1 ⊢
          exact h1
        have := List.countP_eq_zero.1 (Nat.le_zero.1 hc) i (List.mem_range.2 hlt)
        rw [h2] at this
        exact this rfl
      exact ⟨h0, done listed b v h h0⟩
    | succ fuel ih =>
      intro listed b v h hc
      refine ⟨fun h0 => done listed b v h h0, fun i hi => ?_⟩
      obtain ⟨h1, o, ho, hall⟩ := mem_ready.1 hi
      have hlt : i < ops.size := (Array.getElem?_eq_some_iff.1 ho).1
      have hls : i < listed.size := by rw [h.lsize]; exact hlt
      have h2 : listed.getD i false = false := by
        simp [hls] at h1 ⊢
        exact h1
      have hcnt : (List.range ops.size).countP (fun k => (listed.setIfInBounds i true).getD k false == false) ≤ fuel := by
        have hsub : (List.range ops.size).countP (fun k => (listed.setIfInBounds i true).getD k false == false) < (List.range ops.size).countP (fun k => listed.getD k false == false) := by
          have gen : ∀ (l : List Nat), i ∈ l → l.countP (fun k => (listed.setIfInBounds i true).getD k false == false) < l.countP (fun k => listed.getD k false == false) := by
            have le : ∀ (l : List Nat), l.countP (fun k => (listed.setIfInBounds i true).getD k false == false) ≤ l.countP (fun k => listed.getD k false == false) := by
              intro l
              apply List.countP_mono_left
              intro k _ hk
              by_cases e : i = k
              · subst e; simp [hls] at hk
              · simpa [Array.getElem?_setIfInBounds_ne e] using hk
            intro l hl
            induction l with
            | nil => cases hl
            | cons k l ihl =>
              by_cases e : i = k
              · subst e
                have := le l
                have h2' : (listed.getD i false == false) = true := by rw [h2]; rfl
                rw [List.countP_cons_of_pos (p := fun k => listed.getD k false == false) (by exact h2'), List.countP_cons_of_neg (by simp [hls])]
                omega
              · have hl' : i ∈ l := by
                  rcases List.mem_cons.1 hl with h | h
                  · exact absurd h e
                  · exact h
                have := ihl hl'
                have e2 : (listed.setIfInBounds i true).getD k false = listed.getD k false := by simp [Array.getElem?_setIfInBounds_ne e]
                rw [List.countP_cons, List.countP_cons, e2]
                omega
          exact gen _ (List.mem_range.2 hlt)
        omega
      have hs := step i o ho (fun t => b.tmps.getD t undef) v h.grow h.frame (fun j d hj hd => by
        unfold depOn at hj
        rw [ho] at hj
        obtain ⟨q, hq, hb⟩ := Array.any_eq_true.1 hj
        have he : o.after[q] ∈ o.after := Array.getElem_mem hq
        generalize o.after[q] = e at he hb
        simp only [Bool.and_eq_true, beq_iff_eq] at hb
        have := hall e he hb.1
        rw [hb.2] at this
        exact h.rel j d this hd)
      unfold wpOp
      simp only [ho]
      rw [yielded_eqF hok b (h.size.trans hn)]
      split
      · rename_i hw
        rw [if_pos hw] at hs
        refine .inl (Gives.wp ?_)
        unfold Gives at hs ⊢
        generalize (execOp (evF fun t => b.tmps.getD t undef) o).run P v = r at hs
        cases r with
        | ok nx w' =>
          cases nx <;> simp only at hs ⊢
          case value u => exact ih _ _ _ (h.put ho hok hn ht hmo hs.1 hs.2 hlt) hcnt
          case skip => exact ih _ _ _ (h.put ho hok hn ht hmo hs.1 hs.2 hlt) hcnt
          case enter k args => exact Calls.mono hs fun e w'' ⟨u, he, hg, hR⟩ => ⟨u, he, ih _ _ _ (h.put ho hok hn ht hmo hg hR hlt) hcnt⟩
        | halt x w' => exact hs.elim
      · rename_i hw
        rw [if_neg hw] at hs
        exact ih _ _ _ (h.put ho hok hn ht hmo (hr v) hs hlt) hcnt
  refine key ops.size _ a _ ⟨hr _, rfl, rfl, by simp, fun t _ => rfl, fun j d hl hd => ?_⟩ ?_
  · have := dstOf_lt hd
    simp [this] at hl
  · refine Nat.le_trans List.countP_le_length ?_
    simp
end

/-! ### The relations as a list; the steps one by one -/
/-- A relation that stays true as the world grows. -/
structure Rl where
  R : World → Value → Prop
  mono : ∀ {a b : World} {v : Value}, R a v → Below a.heap.size a b → R b v
def Rl.eq (u : Value) : Rl := ⟨fun _ v => v = u, fun h _ => h⟩
def Rl.any : Rl := ⟨fun _ _ => True, fun h _ => h⟩
def relOf (l : List Rl) (i : Nat) : World → Value → Prop := (l.getD i Rl.any).R
def Gr (a b : World) : Prop := Below a.heap.size a b
theorem Gr.refl (a : World) : Gr a a := Below.refl _ _
theorem Gr.trans {a b c : World} (h : Gr a b) (k : Gr b c) : Gr a c := Below.trans h (Below.mono k h.size)
/-- Of each operation of the list, from number k on. -/
def AllFrom (Pr : Nat → Oper → Prop) : Nat → List Oper → Prop
  | _, [] => True
  | k, o :: l => Pr k o ∧ AllFrom Pr (k + 1) l
theorem AllFrom.nil_ {Pr : Nat → Oper → Prop} {k : Nat} : AllFrom Pr k [] := trivial
theorem AllFrom.cons_ {Pr : Nat → Oper → Prop} {k k' : Nat} {o : Oper} {l : List Oper} (hk : k' = k + 1) (h : Pr k o) (t : AllFrom Pr k' l) : AllFrom Pr k (o :: l) := by
  subst hk; exact ⟨h, t⟩
theorem AllFrom.out {Pr : Nat → Oper → Prop} : ∀ (l : List Oper) (k : Nat), AllFrom Pr k l → ∀ i o, l[i]? = some o → Pr (k + i) o
  | [], _, _, i, o, h => by simp at h
  | x :: l, k, h, 0, o, ho => by
    simp at ho; subst ho; exact h.1
  | x :: l, k, h, i + 1, o, ho => by
    have := AllFrom.out l (k + 1) h.2 i o (by simpa using ho)
    rwa [Nat.add_assoc, Nat.add_comm 1 i] at this
/-- One operation's step. -/
def Stp (P : Program) (ops : Array Oper) (a : Act) (W : World) (l : List Rl) (i : Nat) (o : Oper) : Prop :=
  ∀ (f : Nat → Value) (w : World), Gr W w → (∀ t, writes ops t = false → f t = a.tmps.getD t undef) →
      (∀ j d, depOn ops i j = true → dstOf ops j = some d → relOf l j w (f d)) → if Region.wanted o (yieldedF ops f) = true then Gives P o f w (fun v w'' => Gr w w'' ∧ relOf l i w'' v) else relOf l i w undef
theorem wp_region_rl {P : Program} (n : Nat) (l : List Rl) {id : Nat} {os : List Oper} {Q : Exit → Act → World → Prop} {a : Act} {w : World} (hm : P.follows .mixedOrders = true) (hn : a.tmps.size = n) (hok : slotsOk os.toArray n = true)
    (steps : AllFrom (Stp P os.toArray a w.drew l) 0 os)
    (fin : ∀ (f : Nat → Value) (w' : World), Gr w.drew w' → (∀ t, writes os.toArray t = false → f t = a.tmps.getD t undef) → (∀ j d, dstOf os.toArray j = some d → relOf l j w' (f d)) → Q .normal ⟨((List.range n).map f).toArray, a.defers⟩ w') :
    (Code.region id os.toArray true).wp P Q a w := by
  refine wp_region_rel n hm hn hok Gr (relOf l) Gr.refl Gr.trans (fun j _ _ _ h g => (l.getD j Rl.any).mono h g) (fun i o ho => ?_) fin
  have := AllFrom.out os 0 steps i o (by simpa using ho)
  rw [Nat.zero_add] at this
  exact this
theorem wanted_none {o : Oper} {y : Nat → Option Bool} (h : o.guard = none) : Region.wanted o y = true := by unfold Region.wanted; rw [h]
theorem wanted_some {ops : Array Oper} {o : Oper} {f : Nat → Value} {j : Nat} {b : Bool} {d : Tmp} (h : o.guard = some (j, b)) (hd : dstOf ops j = some d) (hf : f d = .bool b) : Region.wanted o (yieldedF ops f) = true := by
  unfold Region.wanted yieldedF; rw [h]; simp only [hd, hf, beq_self_eq_true]
theorem gives_val {P : Program} {o : Oper} {f : Nat → Value} {w w' : World} {v : Value} {K : Value → World → Prop} (h : (execOp (evF f) o).run P w = .ok (.value v) w') (hK : K v w') : Gives P o f w K := by
  unfold Gives; rw [h]; exact hK
theorem gives_call {P : Program} {o : Oper} {f : Nat → Value} {w w' : World} {k : FuncId} {args : Array Value} {K : Value → World → Prop} (h : (execOp (evF f) o).run P w = .ok (.enter k args) w') (hK : Calls P k args w' fun e w'' => ∃ v, e = .returned v ∧ K v w'') : Gives P o f w K := by
  unfold Gives; rw [h]; exact hK
/-- A call of a Go function with a body. -/
theorem gives_func {P : Program} {o : Oper} {f : Nat → Value} {w : World} {k : FuncId} {xs : Array Operand} {ats : Array TypeId} {fn : Func} {c : Code} {K : Value → World → Prop} (ho : o.op = .call { callee := .value (.func k), args := xs, argTypes := ats })
    (hf : P.funcs[k]? = some fn) (hname : (fn.name == "runtime.NumGoroutine") = false) (hb : fn.body = some c) {args : Array Value} (ha : xs.map (evF f) = args)
    (hK : Calls P k args w fun e w'' => ∃ v, e = .returned v ∧ K v w'') : Gives P o f w K := by
  subst ha
  refine gives_call (k := k) ?_ hK
  have h1 : fn.name ≠ "runtime.NumGoroutine" := by simpa using hname
  have e : execOp (evF f) o = callFunc k (#[] ++ xs.map (evF f) ++ #[]) := by
    unfold execOp; rw [ho]; rfl
  rw [e]
  simp [callFunc, hf, h1, hb]
/-- The slots of ws are written among these. -/
def putAll (f : Nat → Value) : List Nat → Array Value → Array Value
  | [], T => T
  | t :: l, T => putAll f l (T.setIfInBounds t (f t))
theorem putAll_size (f : Nat → Value) : ∀ (l : List Nat) (T : Array Value), (putAll f l T).size = T.size
  | [], _ => rfl
  | t :: l, T => by rw [putAll, putAll_size f l]; simp
theorem putAll_get (f : Nat → Value) : ∀ (l : List Nat) (T : Array Value) (t : Nat), t < T.size → (t ∈ l ∨ T.getD t undef = f t) → (putAll f l T).getD t undef = f t
  | [], _, _, _, h => by
    rcases h with h | h
    · cases h
    · exact h
  | x :: l, T, t, ht, h => by
    rw [putAll]
    refine putAll_get f l _ t (by simpa using ht) ?_
    by_cases e : x = t
    · subst e
      exact .inr (by simp [ht])
    · rcases h with h | h
      · rcases List.mem_cons.1 h with h | h
        · exact absurd h.symm e
        · exact .inl h
      · exact .inr (by rw [← h]; simp [Array.getElem?_setIfInBounds_ne e])
def allIn (ops : Array Oper) (ws : List Nat) : Bool := (List.range ops.size).all fun j => match dstOf ops j with | some d => ws.contains d | none => true
/-- THE LAW, the frame behind it told by the slots that are written. -/
theorem wp_region_rw {P : Program} (n : Nat) (l : List Rl) (ws : List Nat) {id : Nat} {os : List Oper} {Q : Exit → Act → World → Prop} {a : Act} {w : World} (hm : P.follows .mixedOrders = true) (hn : a.tmps.size = n) (hok : slotsOk os.toArray n = true) (hws : allIn os.toArray ws = true)
    (steps : AllFrom (Stp P os.toArray a w.drew l) 0 os)
    (fin : ∀ (f : Nat → Value) (w' : World), Gr w.drew w' → (∀ j d, dstOf os.toArray j = some d → relOf l j w' (f d)) → Q .normal ⟨putAll f ws a.tmps, a.defers⟩ w') :
    (Code.region id os.toArray true).wp P Q a w := by
  refine wp_region_rl n l hm hn hok steps (fun f w' g hF hD => ?_)
  have e : ((List.range n).map f).toArray = putAll f ws a.tmps := by
    apply Array.ext
    · rw [putAll_size, hn]; simp
    · intro t h1 h2
      have ht : t < n := by simpa using h1
      have h3 := putAll_get f ws a.tmps t (by rw [hn]; exact ht) (by
        by_cases hw : writes os.toArray t = true
        · left
          obtain ⟨j, hj, hd⟩ := List.any_eq_true.1 hw
          have hd := beq_iff_eq.1 hd
          have := List.all_eq_true.1 hws j hj
          rw [hd] at this
          simpa using this
        · right
          exact (hF t (by simpa using hw)).symm)
      have h4 : (putAll f ws a.tmps)[t] = f t := by
        rw [← h3]; simp [h2]
      rw [h4]; simp
  rw [e]
  exact fin f w' g hD
end Go.Proofs.Ytcffinkkfdfcaaa
