/- Parts one behind the other: How a law's arguments are opened: integers, bools, strings, slices of bytes; How a law's argument is opened: a slice of slices of bytes; a slice of ints; What slices.Contains and tlv.Pick answer; Going over the items of a list kind by kind, as plain data; What body.partMay and the reference's May answer; What body.dataMay and the reference's Same of one part answer. Conditions: as told at each. -/
import Derived.Test.YtcffinkkfdfcaaaPB1
import Derived.SizedLaws
import Derived.Deep.Slices
import Derived.Lib.SmallJoins
import Derived.Test.YtcffinkkfdfcaaaPB2
import Derived.Deep.Matrix
import Derived.Test.YtcffinkkfdfcaaaPB7
import Derived.Test.YtcffinkkfdfcaaaPB8
import Derived.Test.YtcffinkkfdfcaaaPB10
import Derived.Test.YtcffinkkfdfcaaaPB3

set_option linter.unusedVariables false
set_option linter.unusedSimpArgs false
/- How a law's arguments are opened: integers, bools, strings, slices of bytes. Conditions: none. -/
namespace Go.Proofs.Ytcffinkkfdfcaaa
open Go Go.RowKit Go.ChangeShapes Go.WideShapes

theorem opn_int {H : Type} {enc : TypeId × Value → H} {P : Program} {W : World} {base t : Nat} {k : IntKind} {v : Value} {d : DataW H} {p : List MemPlace} (ht : P.underlying t = some (.int k))
    (hv : Value.okWide P W .any base t v) (hj : DataW.Trod enc P W 0 (fun _ => true) true t v d p) : ∃ a, v = .int k a ∧ (Lit.int k a).wf = true := by
  obtain ⟨a, h1, _, _, h2⟩ := open_int ht hv hj
  exact ⟨a, h1, h2⟩
theorem opn_bool {H : Type} {enc : TypeId × Value → H} {P : Program} {W : World} {base t : Nat} {v : Value} {d : DataW H} {p : List MemPlace} (ht : P.underlying t = some .bool)
    (hv : Value.okWide P W .any base t v) (hj : DataW.Trod enc P W 0 (fun _ => true) true t v d p) : ∃ a, v = .bool a := by
  obtain ⟨a, h1, _, _⟩ := open_bool ht hv hj
  exact ⟨a, h1⟩
theorem opn_string {H : Type} {enc : TypeId × Value → H} {P : Program} {W : World} {base t j : Nat} {v : Value} {d : DataW H} {p : List MemPlace} {ts : List TypeId} {ds : List (DataW H)} (ht : P.underlying t = some .string)
    (hv : Value.okWide P W .any base t v) (hj : DataW.Trod enc P W 0 (fun _ => true) true t v d p) (hsz : (DataW.weightsEach P ts ds).all (· ≤ reachBytes) = true) (h1 : ts[j]? = some t) (h2 : ds[j]? = some d) :
    ∃ s : ByteArray, v = .string s ∧ s.size ≤ 140737488351232 := by
  obtain ⟨s, g1, g2, _, _⟩ := Go.ChangeMaps.open_string ht hv hj
  subst g2
  have := sized_string hsz h1 h2
  exact ⟨s, g1, by simpa [reachBytes] using this⟩

/-- The values of a slice of bytes. -/
theorem rd_of_ints {W : World} {a : Addr} {zs : List Int} {len : Nat} (hl : len ≤ zs.length) (hcell : ∀ i, i < zs.length → W.cell? (a.add i) = some (.int .u8 (zs.getD i 0))) (hwz : ∀ n ∈ zs, (Lit.int .u8 n).wf = true) :
    ∃ bs : List UInt8, bs.length = len ∧ Rd W (some a) (bs.map bv) := by
  refine ⟨(zs.take len).map (fun z => UInt8.ofNat z.toNat), by simp; omega, ?_⟩
  rcases Nat.eq_zero_or_pos len with h0 | h0
  · subst h0; exact .inl (by simp)
  · obtain ⟨b, off, spot⟩ := a
    have h1 := hcell 0 (by omega)
    have hs : spot = none := by simpa [Addr.add] using World.cell?_spot h1
    subst hs
    refine .inr ⟨b, off, rfl, ?_, fun k hk => ?_⟩
    · exact World.block_lt_of_cell? W ⟨b, off, none⟩ (by simpa [Addr.add] using h1)
    · have hk' : k < zs.length := by simp at hk; omega
      have h2 := hcell k hk'
      rw [Addr.add_lit] at h2
      rw [h2]
      have hb := bounds_u8 (hwz zs[k] (List.getElem_mem hk'))
      simp only [List.getElem_map, List.getElem_take, bv, List.getD_eq_getElem?_getD, List.getElem?_eq_getElem hk', Option.getD_some, UInt8.toNat_ofNat']
      congr 2
      omega

theorem opn_bytes {H : Type} {enc : TypeId × Value → H} {P : Program} {W : World} {base t e j : Nat} {v : Value} {d : DataW H} {p : List MemPlace} {ts : List TypeId} {ds : List (DataW H)} (ht : P.underlying t = some (.slice e)) (he : P.underlying e = some (.int .u8)) (hc : P.cellsOf e = 1) (hb : P.bytesOf e = 1)
    (hv : Value.okWide P W .any base t v) (hj : DataW.Trod enc P W 0 (fun _ => true) true t v d p) (hsz : (DataW.weightsEach P ts ds).all (· ≤ reachBytes) = true) (h1 : ts[j]? = some t) (h2 : ds[j]? = some d) :
    ∃ (A : Option Addr) (n c : Nat) (bs : List UInt8), v = .slice A n c ∧ bs.length = n ∧ Rd W A (bs.map bv) ∧ n ≤ c ∧ c ≤ maxLen ∧ n ≤ 140737488351232 := by
  obtain ⟨a0, len, cap, rfl⟩ := okWide_slice ht hv
  obtain ⟨fuel, hf⟩ := hj
  rcases open_ints ht he hc hf with ⟨hcs, _⟩ | ⟨x, l, c, zs, hcs, _, hl, hm, hz, hx, hcell, hwz⟩
  · simp [Value.cells] at hcs
    obtain ⟨rfl, rfl, rfl⟩ := hcs
    exact ⟨none, 0, 0, [], rfl, rfl, .inl rfl, Nat.le_refl _, Nat.zero_le _, by decide⟩
  · simp [Value.cells] at hcs
    obtain ⟨rfl, rfl, rfl⟩ := hcs
    simp only [Prod.mk.injEq] at hx
    obtain ⟨rfl, _⟩ := hx
    simp only [if_true] at hz
    have hs := sized_slice hsz h1 h2 ht
    rw [hb] at hs
    simp only [lits, List.length_map, List.length_take, List.length_drop, reachBytes] at hs
    obtain ⟨bs, g1, g2⟩ := rd_of_ints (len := len) (by omega) hcell hwz
    exact ⟨some x, len, cap, bs, rfl, g1, g2, hl, hm, by omega⟩

theorem list_of_all {α : Type} {Q : Nat → α → Prop} (n : Nat) (h : ∀ i, i < n → ∃ x, Q i x) : ∃ l : List α, l.length = n ∧ ∀ i (hi : i < l.length), Q i l[i] := by
  induction n with
  | zero => exact ⟨[], rfl, fun i hi => absurd hi (by simp)⟩
  | succ n ih =>
    obtain ⟨l, h1, h2⟩ := ih (fun i hi => h i (by omega))
    obtain ⟨x, hx⟩ := h n (by omega)
    refine ⟨l ++ [x], by simp [h1], fun i hi => ?_⟩
    rcases Nat.lt_or_ge i l.length with hlt | hge
    · rw [List.getElem_append_left hlt]; exact h2 i hlt
    · have : i = n := by simp at hi; omega
      subst this
      rw [List.getElem_append_right hge]
      simpa using hx

/-- A pair of ints by value. -/
theorem opn_pair {H : Type} {enc : TypeId × Value → H} {P : Program} {W : World} {base t : Nat} {f0 f1 : Field} {v : Value} {d : DataW H} {p : List MemPlace} (hs : P.underlying t = some (.struct #[f0, f1])) (hone : Deep.oneCellFields P #[f0, f1] = true) (hC : P.cellsOf t = 2)
    (h0 : P.underlying f0.type = some (.int .i64)) (h1 : P.underlying f1.type = some (.int .i64))
    (hv : Value.okWide P W .any base t v) (hj : DataW.Trod enc P W 0 (fun _ => true) true t v d p) : ∃ a b : Int, v = .agg #[.int .i64 a, .int .i64 b] ∧ ((Lit.int .i64 a).wf = true ∧ (Lit.int .i64 b).wf = true) := by
  obtain ⟨v0, v1, y0, y1, n, rfl, _, _, g0, g1⟩ := Joins.open_agg2 hs hone hC hv hj
  obtain ⟨a, e0, _, wa⟩ := DataW.trod_int h0 g0
  obtain ⟨b, e1, _, wb⟩ := DataW.trod_int h1 g1
  simp at e0 e1
  subst e0 e1
  exact ⟨a, b, rfl, wa, wb⟩

/-- The address reads as these pairs. -/
def RdP (w : World) (A : Option Addr) (zs : List (Int × Int)) : Prop :=
  zs = [] ∨ ∃ b off, A = some ⟨b, off, none⟩ ∧ b < w.heap.size ∧ ∀ k (h : k < zs.length), w.cell? ⟨b, off + k * 2, none⟩ = some (.int .i64 zs[k].1) ∧ w.cell? ⟨b, off + k * 2 + 1, none⟩ = some (.int .i64 zs[k].2)
theorem RdP.below {w w' : World} {A : Option Addr} {zs : List (Int × Int)} (h : RdP w A zs) (hb : Below w.heap.size w w') : RdP w' A zs := by
  rcases h with h | ⟨b, off, hA, hlt, hc⟩
  · exact .inl h
  · exact .inr ⟨b, off, hA, Nat.lt_of_lt_of_le hlt hb.size, fun k hk => ⟨(hb.cell (p := ⟨b, _, none⟩) hlt).trans (hc k hk).1, (hb.cell (p := ⟨b, _, none⟩) hlt).trans (hc k hk).2⟩⟩

theorem opn_pairs {H : Type} {enc : TypeId × Value → H} {P : Program} {W : World} {base t e j : Nat} {f0 f1 : Field} {v : Value} {d : DataW H} {p : List MemPlace} {ts : List TypeId} {ds : List (DataW H)} (ht : P.underlying t = some (.slice e)) (hs : P.underlying e = some (.struct #[f0, f1])) (hone : Deep.oneCellFields P #[f0, f1] = true) (hC : P.cellsOf e = 2) (hB : P.bytesOf e = 16)
    (h0 : P.underlying f0.type = some (.int .i64)) (h1 : P.underlying f1.type = some (.int .i64)) (_ : True)
    (hv : Value.okWide P W .any base t v) (hj : DataW.Trod enc P W 0 (fun _ => true) true t v d p) (hsz : (DataW.weightsEach P ts ds).all (· ≤ reachBytes) = true) (k1 : ts[j]? = some t) (k2 : ds[j]? = some d) :
    ∃ (A : Option Addr) (n c : Nat) (zs : List (Int × Int)), v = .slice A n c ∧ (zs.length = n ∧ RdP W A zs ∧ n ≤ c ∧ c ≤ maxLen ∧ n * 16 ≤ 140737488351232 ∧ ∀ z ∈ zs, (Lit.int .i64 z.1).wf = true ∧ (Lit.int .i64 z.2).wf = true) := by
  obtain ⟨a0, len, cap, rfl⟩ := okWide_slice ht hv
  obtain ⟨fuel, hf⟩ := hj
  rcases Deep.open_slice ht hf with ⟨hcs, _⟩ | ⟨a, l, c, m, n, D, Pl, hcs, _, hl, hm, hmm, hx, hcell⟩
  · simp [Value.cells] at hcs
    obtain ⟨rfl, rfl, rfl⟩ := hcs
    exact ⟨none, 0, 0, [], rfl, rfl, .inl rfl, Nat.le_refl _, Nat.zero_le _, by decide, by simp⟩
  · simp [Value.cells] at hcs
    obtain ⟨rfl, rfl, rfl⟩ := hcs
    simp only [if_true] at hmm
    subst hmm
    simp only [Prod.mk.injEq] at hx
    obtain ⟨rfl, _⟩ := hx
    have hb := sized_slice hsz k1 k2 ht
    rw [hB] at hb
    simp only [List.length_map, List.length_range, reachBytes] at hb
    obtain ⟨o0, o1⟩ := (⟨Deep.hone_of hone 0 f0 rfl, Deep.hone_of hone 1 f1 rfl⟩ : _ ∧ _)
    have each : ∀ i, i < len → ∃ z : Int × Int, (W.cell? (a.add (i * 2)) = some (.int .i64 z.1) ∧ W.cell? ((a.add (i * 2)).add 1) = some (.int .i64 z.2)) ∧ (Lit.int .i64 z.1).wf = true ∧ (Lit.int .i64 z.2).wf = true := by
      intro i hi
      obtain ⟨cs', g1, g2⟩ := hcell i (by omega)
      rw [hC] at g1
      obtain ⟨_, hlen, hg⟩ := World.cells?_some g1
      obtain ⟨y0, y1, m, _, _, t0, t1⟩ := trod_struct2 hs g2
      match cs', hlen with
      | [u0, u1], _ =>
        rw [o0.1, o0.2] at t0
        rw [o1.1, o1.2] at t1
        obtain ⟨x0, e0, _, wa⟩ := DataW.trod_int h0 t0
        obtain ⟨x1, e1, _, wb⟩ := DataW.trod_int h1 t1
        simp at e0 e1
        subst e0 e1
        have c0 := hg 0 (by decide)
        have c1 := hg 1 (by decide)
        exact ⟨(x0, x1), ⟨by simpa [Addr.add] using c0, by simpa using c1⟩, wa, wb⟩
    obtain ⟨zs, hz1, hz2⟩ := list_of_all len each
    refine ⟨some a, len, _, zs, rfl, hz1, ?_, hl, hm, by omega, fun z hz => ?_⟩
    · rcases Nat.eq_zero_or_pos len with h0 | h0
      · left; exact List.eq_nil_of_length_eq_zero (by omega)
      · obtain ⟨b, off, spot⟩ := a
        have hz0 := (hz2 0 (by omega)).1.1
        have hsp : spot = none := by simpa [Addr.add] using World.cell?_spot hz0
        subst hsp
        refine .inr ⟨b, off, rfl, World.block_lt_of_cell? W ⟨b, off, none⟩ (by simpa [Addr.add] using hz0), fun k hk => ?_⟩
        have := (hz2 k hk).1
        simpa [Addr.add_lit] using this
    · obtain ⟨i, hi, rfl⟩ := List.mem_iff_getElem.1 hz
      exact (hz2 i hi).2
end Go.Proofs.Ytcffinkkfdfcaaa

/- How a law's argument is opened: a slice of slices of bytes; a slice of ints. Conditions: none. -/
namespace Go.Proofs.Ytcffinkkfdfcaaa
open Go Go.RowKit Go.ChangeShapes Go.WideShapes

theorem weightsAll_mem {H : Type} {P : Program} {e : TypeId} : ∀ {l : List (DataW H)} {d : DataW H}, d ∈ l → ∀ n ∈ d.weights P e, n ∈ DataW.weightsAll P e l
  | d' :: r, d, hd, n, hn => by
    simp only [DataW.weightsAll, List.mem_append]
    rcases List.mem_cons.1 hd with rfl | h
    · exact Or.inl hn
    · exact Or.inr (weightsAll_mem h n hn)
theorem sized_inner {H : Type} {P : Program} {ts : List TypeId} {ds : List (DataW H)} (h : (DataW.weightsEach P ts ds).all (· ≤ reachBytes) = true) {j : Nat} {t e q : TypeId} {elems spare e' sp' : List (DataW H)}
    (ht : ts[j]? = some t) (hd : ds[j]? = some (.slice elems spare)) (hu : P.underlying t = some (.slice e)) (hu2 : P.underlying e = some (.slice q)) (hx : DataW.slice e' sp' ∈ elems) : (e'.length + sp'.length) * P.bytesOf q ≤ reachBytes := by
  refine of_decide_eq_true (List.all_eq_true.1 h _ (DataW.weights_mem_each ht hd _ ?_))
  simp only [DataW.weights, hu, List.mem_cons, List.mem_append]
  exact Or.inr (Or.inl (weightsAll_mem hx _ (by simp [DataW.weights, hu2])))

theorem opn_bytess {H : Type} {enc : TypeId × Value → H} {P : Program} {W : World} {base t e q j : Nat} {v : Value} {d : DataW H} {p : List MemPlace} {ts : List TypeId} {ds : List (DataW H)} (ht : P.underlying t = some (.slice e)) (he : P.underlying e = some (.slice q)) (hq : P.underlying q = some (.int .u8))
    (ce : P.cellsOf e = 1) (be : P.bytesOf e = 24) (cq : P.cellsOf q = 1) (bq : P.bytesOf q = 1)
    (hv : Value.okWide P W .any base t v) (hj : DataW.Trod enc P W 0 (fun _ => true) true t v d p) (hsz : (DataW.weightsEach P ts ds).all (· ≤ reachBytes) = true) (k1 : ts[j]? = some t) (k2 : ds[j]? = some d) :
    ∃ (A : Option Addr) (n c : Nat) (bss : List (List UInt8)), v = .slice A n c ∧ (bss.length = n ∧ RdS W A bss ∧ n ≤ c ∧ c ≤ maxLen ∧ n * 24 ≤ 140737488351232 ∧ ∀ b ∈ bss, b.length ≤ 140737488351232) := by
  obtain ⟨a0, len, cap, rfl⟩ := okWide_slice ht hv
  obtain ⟨fuel, hf⟩ := hj
  rcases Deep.open_int_rows ht he hq ce cq hf with ⟨hcs, _⟩ | ⟨a, l, c, A, L, C, Z, hcs, _, hl, hm, hx, hcell⟩
  · simp [Value.cells] at hcs
    obtain ⟨rfl, rfl, rfl⟩ := hcs
    exact ⟨none, 0, 0, [], rfl, rfl, .inl rfl, Nat.le_refl _, Nat.zero_le _, by decide, by simp⟩
  · simp [Value.cells] at hcs
    obtain ⟨rfl, rfl, rfl⟩ := hcs
    simp only [Prod.mk.injEq] at hx
    obtain ⟨rfl, _⟩ := hx
    have hb := sized_slice hsz k1 k2 ht
    rw [be] at hb
    simp only [List.length_map, List.length_range, reachBytes] at hb
    have each : ∀ i, i < len → ∃ b : List UInt8, b.length = L i ∧ Rd W (A i) (b.map bv) ∧ b.length ≤ 140737488351232 := by
      intro i hi
      obtain ⟨g1, g2, g3, g4, g5, g6, g7⟩ := hcell i (by omega)
      cases hA : A i with
      | none =>
        have h0 := g6 hA
        exact ⟨[], by simp; omega, .inl rfl, by simp⟩
      | some a' =>
        obtain ⟨_, h2⟩ := g7 a' hA
        obtain ⟨bs, h3, h4⟩ := rd_of_ints (W := W) (a := a') (zs := Z i) (len := L i) (by omega) (fun k hk => h2 k (by omega)) g5
        refine ⟨bs, h3, h4, ?_⟩
        have hmem : DataW.slice (lits (H := H) .u8 ((Z i).take (L i))) (lits .u8 ((Z i).drop (L i))) ∈ (List.range len).map (fun r => Deep.intRow (H := H) .u8 (A r) (L r) (Z r)) := by
          refine List.mem_map.2 ⟨i, List.mem_range.2 hi, ?_⟩
          simp [Deep.intRow, hA]
        have h5 := sized_inner hsz k1 k2 ht he hmem
        rw [bq] at h5
        simp only [lits, List.length_map, List.length_take, List.length_drop, reachBytes] at h5
        omega
    obtain ⟨bss, z1, z2⟩ := list_of_all len each
    refine ⟨some a, len, _, bss, rfl, z1, ?_, hl, hm, by omega, fun b hb' => ?_⟩
    · rcases Nat.eq_zero_or_pos len with h0 | h0
      · left; exact List.eq_nil_of_length_eq_zero (by omega)
      · obtain ⟨b, off, spot⟩ := a
        have hz0 := (hcell 0 (by omega)).1
        have hsp : spot = none := by simpa [Addr.add] using World.cell?_spot hz0
        subst hsp
        refine .inr ⟨b, off, rfl, World.block_lt_of_cell? W ⟨b, off, none⟩ (by simpa [Addr.add] using hz0), fun k hk => ?_⟩
        obtain ⟨g1, g2, g3, _⟩ := hcell k (by omega)
        obtain ⟨z3, z4, _⟩ := z2 k hk
        rw [Addr.add_lit] at g1
        exact ⟨A k, C k, by rw [z3]; exact g1, z4, by rw [z3]; exact g2, g3⟩
    · obtain ⟨i, hi, rfl⟩ := List.mem_iff_getElem.1 hb'
      exact (z2 i hi).2.2

/-- The address reads as these ints. -/
def RdI (w : World) (A : Option Addr) (zs : List Int) : Prop :=
  zs = [] ∨ ∃ b off, A = some ⟨b, off, none⟩ ∧ b < w.heap.size ∧ ∀ k (h : k < zs.length), w.cell? ⟨b, off + k, none⟩ = some (.int .i64 zs[k])
theorem RdI.below {w w' : World} {A : Option Addr} {zs : List Int} (h : RdI w A zs) (hb : Below w.heap.size w w') : RdI w' A zs := by
  rcases h with h | ⟨b, off, hA, hlt, hc⟩
  · exact .inl h
  · exact .inr ⟨b, off, hA, Nat.lt_of_lt_of_le hlt hb.size, fun k hk => (hb.cell (p := ⟨b, _, none⟩) hlt).trans (hc k hk)⟩
theorem RdI.addr {w : World} {A : Option Addr} {zs : List Int} (h : RdI w A zs) (h0 : 0 < zs.length) : ∃ b off, A = some ⟨b, off, none⟩ ∧ b < w.heap.size ∧ ∀ k (h : k < zs.length), w.cell? ⟨b, off + k, none⟩ = some (.int .i64 zs[k]) := by
  rcases h with rfl | h
  · simp at h0
  · exact h
theorem opn_ints {H : Type} {enc : TypeId × Value → H} {P : Program} {W : World} {base t e j : Nat} {v : Value} {d : DataW H} {p : List MemPlace} {ts : List TypeId} {ds : List (DataW H)} (ht : P.underlying t = some (.slice e)) (he : P.underlying e = some (.int .i64)) (hc : P.cellsOf e = 1) (hb : P.bytesOf e = 8)
    (hv : Value.okWide P W .any base t v) (hj : DataW.Trod enc P W 0 (fun _ => true) true t v d p) (hsz : (DataW.weightsEach P ts ds).all (· ≤ reachBytes) = true) (h1 : ts[j]? = some t) (h2 : ds[j]? = some d) :
    ∃ (A : Option Addr) (n c : Nat) (zs : List Int), v = .slice A n c ∧ (zs.length = n ∧ RdI W A zs ∧ n ≤ c ∧ c ≤ maxLen ∧ n * 8 ≤ 140737488351232 ∧ ∀ z ∈ zs, (Lit.int .i64 z).wf = true) := by
  obtain ⟨a0, len, cap, rfl⟩ := okWide_slice ht hv
  obtain ⟨fuel, hf⟩ := hj
  rcases open_ints ht he hc hf with ⟨hcs, _⟩ | ⟨x, l, c, zs, hcs, _, hl, hm, hz, hx, hcell, hwz⟩
  · simp [Value.cells] at hcs
    obtain ⟨rfl, rfl, rfl⟩ := hcs
    exact ⟨none, 0, 0, [], rfl, rfl, .inl rfl, Nat.le_refl _, Nat.zero_le _, by decide, by simp⟩
  · simp [Value.cells] at hcs
    obtain ⟨rfl, rfl, rfl⟩ := hcs
    simp only [Prod.mk.injEq] at hx
    obtain ⟨rfl, _⟩ := hx
    simp only [if_true] at hz
    have hs := sized_slice hsz h1 h2 ht
    rw [hb] at hs
    simp only [lits, List.length_map, List.length_take, List.length_drop, reachBytes] at hs
    refine ⟨some x, len, cap, zs.take len, rfl, by simp; omega, ?_, hl, hm, by omega, fun z hz' => hwz z (List.mem_of_mem_take hz')⟩
    rcases Nat.eq_zero_or_pos len with h0 | h0
    · subst h0; exact .inl (by simp)
    · obtain ⟨b, off, spot⟩ := x
      have h1 := hcell 0 (by omega)
      have hs : spot = none := by simpa [Addr.add] using World.cell?_spot h1
      subst hs
      refine .inr ⟨b, off, rfl, World.block_lt_of_cell? W ⟨b, off, none⟩ (by simpa [Addr.add] using h1), fun k hk => ?_⟩
      have hk' : k < zs.length := by simp at hk; omega
      have h2 := hcell k hk'
      rw [Addr.add_lit] at h2
      rw [h2]
      simp [hk']
end Go.Proofs.Ytcffinkkfdfcaaa

/- What slices.Contains and tlv.Pick answer. Conditions: items and numbers that can be read; few items. -/
namespace Go.Proofs.Ytcffinkkfdfcaaa
open Go Go.RowKit

set_option maxRecDepth 100000 in
set_option maxHeartbeats 2000000 in
theorem IndexI_c (A : Option Addr) (n c : Nat) (zs : List Int) (x : Int) (w : World) (hn : zs.length = n) (hr : RdI w A zs) (hl : n ≤ 140737488355328) :
    Calls Try.prog 95 #[.slice A n c, .int .i64 x] w fun r w' => ∃ i : Int, r = .returned (.int .i64 i) ∧ decide (0 ≤ i) = decide (x ∈ zs) ∧ w' = w := by
  have HN := Lib.hid hn; clear hn
  have HR := Lib.hid hr; clear hr
  obtain ⟨B, eB⟩ : ∃ B, B = decide (x ∈ zs) := ⟨_, rfl⟩
  rw [← eB]
  have EB := Lib.hid eB; clear eB
  go_enter Try.func95, Try.ntmps95
  go_wp2_with (fail)
  go_loopw [8] (fun i wr => ∃ k : Nat, i = .int .i64 k ∧ k ≤ n ∧ Hid (∀ j (h : j < zs.length), j < k → zs[j] ≠ x) ∧ wr = w) (fun i _ => n - (intOf i).toNat)
  case atStart => exact ⟨0, rfl, Nat.zero_le _, Lib.hid (fun j h h0 => absurd h0 (Nat.not_lt_zero _)), rfl⟩
  case round =>
    obtain ⟨k, rfl, hk, HP, rfl⟩ := hrel
    rcases Nat.lt_or_ge k n with hlt | hge
    · have hlt' : (k : Int) < (n : Int) := by omega
      have hkz : k < zs.length := by rw [HN.out]; exact hlt
      obtain ⟨b, off, rfl, hb, hc⟩ := HR.out.addr (by omega)
      have c0 := hc k hkz
      obtain ⟨z, ez⟩ : ∃ z, z = zs[k] := ⟨_, rfl⟩
      rw [← ez] at c0
      have EZ := Lib.hid ez
      clear hc ez
      by_cases he : x = z
      · have e0 : (x == z) = true := by rw [he]; exact beq_self_eq_true _
        have hB : B = true := by rw [EB.out]; exact decide_eq_true (by rw [he, EZ.out]; exact List.getElem_mem _)
        have HB := Lib.hid hB
        clear he hB
        go_wp2_with (fail)
        go_ret
        exact ⟨_, rfl, by rw [HB.out]; exact decide_eq_true (by omega), rfl⟩
      · have e0 : (x == z) = false := by rw [beq_eq_false_iff_ne]; exact he
        have HE := Lib.hid he
        clear he
        go_wp2_with (fail)
        go_roundw
        case rel =>
          refine ⟨k + 1, by go_num, by omega, Lib.hid (fun j h hj => ?_), trivial⟩
          by_cases e : j = k
          · subst e; rw [← EZ.out]; exact fun e => HE.out e.symm
          · exact HP.out j h (by omega)
        case measure => simp [intOf]; omega
    · have hge' : (n : Int) ≤ (k : Int) := by omega
      have hB : B = false := by
        rw [EB.out]
        refine decide_eq_false (fun h => ?_)
        obtain ⟨j, hj, e⟩ := List.getElem_of_mem h
        exact HP.out j hj (by have := HN.out; omega) e
      have HB := Lib.hid hB
      clear hB
      go_wp2_with (fail)
      go_ret
      exact ⟨_, rfl, by rw [HB.out]; rfl, rfl⟩
set_option maxRecDepth 100000 in
set_option maxHeartbeats 2000000 in
theorem ContainsI_c (A : Option Addr) (n c : Nat) (zs : List Int) (x : Int) (w : World) (hn : zs.length = n) (hr : RdI w A zs) (hl : n ≤ 140737488355328) :
    Calls Try.prog 92 #[.slice A n c, .int .i64 x] w fun r w' => r = .returned (.bool (decide (x ∈ zs))) ∧ w' = w := by
  have ix := IndexI_c A n c zs x w hn hr hl
  have IX := Lib.hid ix; clear ix hn hr
  obtain ⟨B, eB⟩ : ∃ B, B = decide (x ∈ zs) := ⟨_, rfl⟩
  rw [← eB] at IX ⊢
  clear eB
  go_enter Try.func92, Try.ntmps92
  go_wp2_with (fail)
  refine IX.out.mono ?_
  rintro _ wx ⟨i, rfl, hi, hx⟩
  rw [hx]
  clear hx wx
  go_wp2_with (fail)
  go_ret
  exact ⟨rfl, rfl⟩
/-- The items that are known. -/
def pickF (ks : List Int) : Fo → Fo
  | .nil => .nil
  | .cons k cr li bs sub rest => if k ∈ ks then .cons k cr li bs sub (pickF ks rest) else pickF ks rest
/-- Is there one that must be known and isn't? -/
def critF (ks : List Int) : Fo → Bool
  | .nil => false
  | .cons k cr _ _ _ rest => (!decide (k ∈ ks) && cr) || critF ks rest
def pickT (ks : List Int) (f : Fo) : Nat × Fo := if critF ks f then (7, .nil) else (0, pickF ks f)
theorem pickF_app (ks : List Int) (g : Fo) : ∀ (f : Fo), pickF ks (f.app g) = (pickF ks f).app (pickF ks g)
  | .nil => rfl
  | .cons k cr li bs sub rest => by
    rw [Fo.app, pickF, pickF, pickF_app ks g rest]
    split <;> rfl
theorem critF_app (ks : List Int) (g : Fo) : ∀ (f : Fo), critF ks (f.app g) = (critF ks f || critF ks g)
  | .nil => rfl
  | .cons k cr li bs sub rest => by rw [Fo.app, critF, critF, critF_app ks g rest, Bool.or_assoc]
theorem pickF_len (ks : List Int) : ∀ (f : Fo), (pickF ks f).len ≤ f.len
  | .nil => Nat.le_refl _
  | .cons k cr li bs sub rest => by
    have := pickF_len ks rest
    rw [pickF]
    split
    · simp only [Fo.len]; omega
    · simp only [Fo.len]; omega
set_option maxRecDepth 100000 in
set_option maxHeartbeats 4000000 in
theorem Pick_c (f : Fo) (ok : Nat → Prop) (A : Option Addr) (n c : Nat) (Ak : Option Addr) (nk ck : Nat) (ks : List Int) (w : World) (hn : f.len = n) (h1 : FoR ok w A 0 f) (hs : f.size ≤ 100000) (hk : ks.length = nk) (hr : RdI w Ak ks) (hlk : nk ≤ 140737488355328) :
    Calls Try.prog 87 #[.slice A n c, .slice Ak nk ck] w fun r w' => ∃ v, r = .returned (.tuple #[v, .int .i64 ((pickT ks f).1 : Int)]) ∧ FoO (w.heap.size ≤ ·) w' v (pickT ks f).2 ∧ Below w.heap.size w w' := by
  have HN := Lib.hid hn
  have H1 := Lib.hid h1; clear h1
  have HKS := Lib.hid hk; clear hk
  have HRK := Lib.hid hr; clear hr
  have hl : n ≤ 100000 := by have := Fo.len_le f; omega
  have HSF := Lib.hid hs
  clear hn hs
  obtain ⟨T, eT⟩ : ∃ T, T = pickT ks f := ⟨_, rfl⟩
  rw [← eT]
  have ET := Lib.hid eT; clear eT
  go_enter Try.func87, Try.ntmps87
  go_wp2_with (fail)
  go_loopw [6, 11] (fun v i wr => ∃ (q : Nat) (r P : Fo) (ds : List ItV), i = .int .i64 q ∧ Hid (q + r.len = n) ∧ Hid (FoR ok w A q r) ∧ Hid (r.size ≤ f.size) ∧ Hid (f = P.app r) ∧ Hid (critF ks P = false) ∧ Hid (P.len = q) ∧ Hid (FoP (w.heap.size ≤ ·) wr v ds (pickF ks P)) ∧ Hid (Below w.heap.size w wr)) (fun _ i _ => n - (intOf i).toNat)
  case atStart => exact ⟨0, f, .nil, [], rfl, Lib.hid (by rw [HN.out]; omega), H1, Lib.hid (Nat.le_refl _), Lib.hid rfl, Lib.hid rfl, Lib.hid rfl, Lib.hid (FoP.nil_ _ _), Lib.hid (Below.refl _ _)⟩
  case round =>
    obtain ⟨q, r, P, ds, rfl, HK, R1, HSz, HF, HCr, HPl, HS, HB⟩ := hrel
    cases r with
    | nil =>
      have hk : q = n := HK.out
      have hk' : (n : Int) ≤ (q : Int) := by omega
      have hF : f = P := by rw [HF.out, Fo.app_nil]
      have e0 : T = (0, pickF ks P) := by rw [ET.out, pickT, hF, HCr.out]; rfl
      have E0 := Lib.hid e0
      clear hk hF e0
      go_wp2_with (fail)
      go_ret2
      exact ⟨_, by rw [E0.out]; rfl, by rw [E0.out]; exact HS.out.o, HB.out⟩
    | cons z cr li bs sub rest =>
      obtain ⟨⟨b1, o1, At, m, cm, As1, e1, eA, hb1, -, ⟨c0, ca, cb, cc, cd⟩, tt, s1, l1, l2, l3⟩, r1⟩ := R1.out.one
      subst eA
      have hlt : q < n := by have := HK.out; simp only [Fo.len] at this; omega
      have kb := HB.out
      have TT := Lib.hid tt
      have S1 := Lib.hid s1
      have R1b := Lib.hid r1
      rw [← kb.cell (p := ⟨b1, _, none⟩) hb1] at c0 ca cb cc cd
      have HSb : Hid (rest.size ≤ f.size) := Lib.hid (by have := HSz.out; simp only [Fo.size] at this; omega)
      have HSs : Hid (sub.size ≤ 100000) := Lib.hid (by have := HSz.out; have := HSF.out; simp only [Fo.size] at *; omega)
      have HKb : Hid (q + 1 + rest.len = n) := Lib.hid (by have := HK.out; simp only [Fo.len] at this; omega)
      have HFb : Hid (f = (P.app (.cons z cr li bs sub .nil)).app rest) := Lib.hid (by rw [HF.out, Fo.app_assoc]; rfl)
      obtain ⟨sl, esl⟩ : ∃ sl, sl = sub.len := ⟨_, rfl⟩
      rw [← esl] at cd l1 l3
      have ESL := Lib.hid esl
      have hlt' : (q : Int) < (n : Int) := by omega
      obtain ⟨w5, ew5⟩ : ∃ w5, w5 = wr.alloc (.cells #[.int .i64 z, .bool cr, .bool li, .slice At m cm, .slice As1 sl e1] 76) := ⟨_, rfl⟩
      obtain ⟨gy, egy⟩ : ∃ gy, gy = wr.heap.size := ⟨_, rfl⟩
      have b5 : Below wr.heap.size wr w5 := by rw [ew5]; exact (Below.refl _ _).alloc (Nat.le_refl _) _
      have h5 : w5.heap[gy]? = some (.cells #[.int .i64 z, .bool cr, .bool li, .slice At m cm, .slice As1 sl e1] 76 (0, 0)) := by rw [ew5, egy]; exact heap_alloc_new _ _
      have HS5 := Lib.hid (HS.out.below b5)
      have HB5 : Hid (Below w.heap.size w w5) := Lib.hid (HB.out.trans (b5.mono HB.out.size))
      obtain ⟨p0, p1, p2, p3, p4⟩ : w5.cell? ⟨gy, 0, none⟩ = some (.int .i64 z) ∧ w5.cell? ⟨gy, 1, none⟩ = some (.bool cr) ∧ w5.cell? ⟨gy, 2, none⟩ = some (.bool li) ∧ w5.cell? ⟨gy, 3, none⟩ = some (.slice At m cm) ∧ w5.cell? ⟨gy, 4, none⟩ = some (.slice As1 sl e1) := by
        refine ⟨?_, ?_, ?_, ?_, ?_⟩ <;> (rw [heap_cell h5]; rfl)
      have EW5 := Lib.hid ew5
      have EGY := Lib.hid egy
      have Z5 : Hid (wr.heap.size < w5.heap.size) := Lib.hid (by rw [ew5]; simp)
      have ci := ContainsI_c Ak nk ck ks z w5 HKS.out (by
        rcases HRK.out with h | ⟨b, off, h1, h2, h3⟩
        · exact .inl h
        · exact .inr ⟨b, off, h1, Nat.lt_of_lt_of_le h2 HB5.out.size, fun k hk => (HB5.out.cell (p := ⟨b, off + k, none⟩) h2).trans (h3 k hk)⟩) hlk
      have CI := Lib.hid ci
      clear ew5 egy b5 h5 tt s1 r1 esl HK HSz HF R1 kb l1 l2 ci
      go_upto_region 5 with (fail)
      rw [← EW5.out, ← EGY.out]
      clear c0 ca cb cc cd
      go_wp2_with (fail)
      refine CI.out.mono ?_
      rintro _ wx ⟨rfl, hx⟩
      rw [hx]
      clear hx wx
      by_cases hin : z ∈ ks
      · have d0 : decide (z ∈ ks) = true := decide_eq_true hin
        have hpk : Hid (pickF ks (P.app (.cons z cr li bs sub .nil)) = (pickF ks P).app (.cons z cr li bs sub .nil)) := Lib.hid (by rw [pickF_app]; simp only [pickF, if_pos hin])
        have hcr : Hid (critF ks (P.app (.cons z cr li bs sub .nil)) = false) := Lib.hid (by rw [critF_app, HCr.out]; simp [critF, hin])
        clear hin
        go_wp2_with (fail)
        refine (clone_it sub.size sub rfl ok z cr li bs At m cm As1 sl e1 w5 (TT.out.frame (fun j _ hj => HB5.out.block j hj) HB5.out.size) ESL.out.symm (S1.out.below HB5.out) HSs.out).mono ?_
        rintro _ w6 ⟨⟨dk, dc, dl, dA, dn, dcc, dAs, dns, dcs⟩, rfl, ho6, hb6⟩
        unfold ItV.val
        dsimp only
        have HS6 := Lib.hid (HS5.out.below hb6)
        have HB6 : Hid (Below w.heap.size w w6) := Lib.hid (HB5.out.trans (hb6.mono HB5.out.size))
        have b67 : Below w6.heap.size w6 (w6.alloc (.cells #[.int .i64 dk, .bool dc, .bool dl, .slice dA dn dcc, .slice dAs dns dcs] 76)) := (Below.refl _ _).alloc (Nat.le_refl _) _
        have HS7 := Lib.hid (HS6.out.below b67)
        have HB7 : Hid (Below w.heap.size w (w6.alloc (.cells #[.int .i64 dk, .bool dc, .bool dl, .slice dA dn dcc, .slice dAs dns dcs] 76))) := Lib.hid (HB6.out.trans (b67.mono HB6.out.size))
        have lov := fun j e => (HS.out.lt j e)
        have HD7 : Hid (ItsO (fun j => w.heap.size ≤ j ∧ u6.ownBlock ≠ some j) (w6.alloc (.cells #[.int .i64 dk, .bool dc, .bool dl, .slice dA dn dcc, .slice dAs dns dcs] 76)) [⟨dk, dc, dl, dA, dn, dcc, dAs, dns, dcs⟩] (.cons z cr li bs sub .nil)) :=
          Lib.hid ((ho6.frame (fun j _ hj => b67.block j hj)).weak (fun j hj _ => by
            have h1 : w5.heap.size ≤ j := hj
            have h2 := HB.out.size
            have h3 := Z5.out
            exact ⟨by omega, fun e => by have := lov j e; omega⟩))
        have HR7 := Lib.hid (Rd.lit w6 (cellsI [⟨dk, dc, dl, dA, dn, dcc, dAs, dns, dcs⟩]) 76)
        have hdl : ds.length ≤ 100000 := by rw [ItsO.len _ ds HS7.out.its]; have := pickF_len ks P; have := HPl.out; omega
        clear ho6 hb6 b67 lov p0 p1 p2 p3 p4 HS5
        go_wp2_with (at_builtin; refine wpList_appI _ rfl (.tmp 20) (.tmp 23) rfl 0 _ ds rfl HS7.out.row (some ⟨w6.heap.size, 0, none⟩) 1 1 [⟨dk, dc, dl, dA, dn, dcc, dAs, dns, dcs⟩] rfl rfl HR7.out (by omega) (Nat.zero_le _) ?_; intro v12 w12 ho12 hg12 hv12; have HS12 := Lib.hid (HS7.out.more HD7.out ho12 hg12 hv12 HB7.out.size); have HB12 := Lib.hid (HB7.out.grown hg12 HB7.out.size (fun k e => HS7.out.ok_ k e)); clear ho12 hg12 hv12)
        go_roundw
        case rel => exact ⟨q + 1, rest, _, _, by go_num, HKb, R1b, HSb, HFb, hcr, Lib.hid (by rw [Fo.len_app, HPl.out]; rfl), Lib.hid (by rw [hpk.out]; exact HS12.out), HB12⟩
        case measure => simp [intOf]; omega
      · have d0 : decide (z ∈ ks) = false := decide_eq_false hin
        cases cr with
        | true =>
          have e0 : T = (7, .nil) := by rw [ET.out, pickT, HFb.out, critF_app, critF_app]; simp [critF, hin]
          have E0 := Lib.hid e0
          clear e0 hin
          go_wp2_with (fail)
          go_ret2
          exact ⟨_, by rw [E0.out]; rfl, by rw [E0.out]; exact FoO.nil_ _ _, HB5.out⟩
        | false =>
          have hpk : Hid (pickF ks (P.app (.cons z false li bs sub .nil)) = pickF ks P) := Lib.hid (by rw [pickF_app]; simp only [pickF, if_neg hin]; exact Fo.app_nil _)
          have hcr : Hid (critF ks (P.app (.cons z false li bs sub .nil)) = false) := Lib.hid (by rw [critF_app, HCr.out]; simp [critF])
          clear hin
          go_wp2_with (fail)
          go_roundw
          case rel => exact ⟨q + 1, rest, _, ds, by go_num, HKb, R1b, HSb, HFb, hcr, Lib.hid (by rw [Fo.len_app, HPl.out]; rfl), Lib.hid (by rw [hpk.out]; exact HS5.out), HB5⟩
          case measure => simp [intOf]; omega
end Go.Proofs.Ytcffinkkfdfcaaa

/- Going over the items of a list kind by kind, as plain data. Conditions: none. -/
namespace Go.Proofs.Ytcffinkkfdfcaaa
open Go Go.RowKit

/-- The items; the kind asked last; the first fault. -/
structure FS where
  l : Fo
  at_ : Nat
  err : Nat
def zerI : Fo := .cons 0 false false [] .nil .nil
def itB : Fo → List UInt8
  | .nil => []
  | .cons _ _ _ bs _ _ => bs
def itL : Fo → Bool
  | .nil => false
  | .cons _ _ li _ _ _ => li
def itS : Fo → Fo
  | .nil => .nil
  | .cons _ _ _ _ s _ => s
def badS (s : FS) (b : Bool) : FS := if s.err = 0 ∧ b = true then { s with err := 3 } else s
def nxI (s : FS) : Fo := if s.err = 0 then getI ((s.at_ + 1 : Nat) : Int) s.l else zerI
def nxB (s : FS) : Bool := if s.err = 0 then hasI ((s.at_ + 1 : Nat) : Int) s.l else false
def nxS (s : FS) (must : Bool) : FS := ⟨s.l, s.at_ + 1, if s.err = 0 ∧ nxB s = false ∧ must = true then 12 else s.err⟩
def zerB (n : Nat) : List UInt8 := List.replicate n 0
/-- The next item's bytes, n of them; the state behind. -/
def byB (s : FS) (n : Nat) : List UInt8 := if nxB s = true ∧ itL (nxI s) = false ∧ (itB (nxI s)).length = n then itB (nxI s) else zerB n
def byS (s : FS) (n : Nat) : FS := if nxB s = true then badS (nxS s true) (itL (nxI s) || !decide ((itB (nxI s)).length = n)) else nxS s true
theorem byB_len (s : FS) (n : Nat) : (byB s n).length = n := by
  unfold byB; split
  · next h => exact h.2.2
  · simp [zerB]
theorem nxB_err {s : FS} (h : nxB s = true) : s.err = 0 := by
  unfold nxB at h; split at h
  · assumption
  · cases h
theorem badS_l (s : FS) (b : Bool) : (badS s b).l = s.l := by unfold badS; split <;> rfl
theorem badS_at (s : FS) (b : Bool) : (badS s b).at_ = s.at_ := by unfold badS; split <;> rfl
theorem nxS_l (s : FS) (m : Bool) : (nxS s m).l = s.l := rfl
theorem nxS_at (s : FS) (m : Bool) : (nxS s m).at_ = s.at_ + 1 := rfl
theorem byS_l (s : FS) (n : Nat) : (byS s n).l = s.l := by
  unfold byS; split
  · rw [badS_l]; rfl
  · rfl
theorem byS_at (s : FS) (n : Nat) : (byS s n).at_ = s.at_ + 1 := by
  unfold byS; split
  · rw [badS_at]; rfl
  · rfl
theorem nxS_ok {s : FS} {m : Bool} (h : nxB s = true) : (nxS s m).err = 0 := by
  have h0 := nxB_err h
  simp [nxS, h, h0]
theorem nxS_sticks {s : FS} {m : Bool} (h : s.err ≠ 0) : (nxS s m).err = s.err := by simp [nxS, h]
theorem badS_sticks {s : FS} {b : Bool} (h : s.err ≠ 0) : badS s b = s := by simp [badS, h]
theorem byS_sticks {s : FS} {n : Nat} (h : s.err ≠ 0) : (byS s n).err = s.err := by
  have hb : nxB s = false := by simp [nxB, h]
  simp [byS, hb, nxS_sticks h]
/-- The bytes of the next items, each of its size; the state behind them. -/
def szG : FS → List Nat → List (List UInt8) × FS
  | s, [] => ([], s)
  | s, n :: ns => (byB s n :: (szG (byS s n) ns).1, (szG (byS s n) ns).2)
theorem szG_sticks : ∀ (ns : List Nat) (s : FS), s.err ≠ 0 → (szG s ns).2.err = s.err
  | [], _, _ => rfl
  | n :: ns, s, h => by
    have h1 := byS_sticks (n := n) h
    rw [szG]
    show (szG (byS s n) ns).2.err = s.err
    rw [szG_sticks ns _ (by rw [h1]; exact h), h1]
theorem szG_len : ∀ (ns : List Nat) (s : FS), (szG s ns).1.length = ns.length
  | [], _ => rfl
  | n :: ns, s => by rw [szG]; simp [szG_len ns]
/-- Kinds 1 to k. -/
def kindsL (k : Nat) : List Int := (List.range k).map fun i => ((i + 1 : Nat) : Int)
def knS (l : Fo) (k : Nat) (e : Nat) : FS := if e ≠ 0 then ⟨.nil, 0, e⟩ else ⟨(pickT (kindsL k) l).2, 0, (pickT (kindsL k) l).1⟩
def opS (bs : List UInt8) (k : Nat) : FS := knS (decT bs).2 k (decT bs).1
/-- The next item's number; the state behind. -/
def nuN (s : FS) : Nat := if nxB s = true then (varR ⟨itB (nxI s), 0, 0, none⟩).1 else 0
def nuS (s : FS) (must : Bool) : FS := if nxB s = true then badS (nxS s must) (itL (nxI s) || (decide (endR (varR ⟨itB (nxI s), 0, 0, none⟩).2 ≠ 0) || (!must && decide (nuN s = 0)))) else nxS s must
theorem nuS_l (s : FS) (m : Bool) : (nuS s m).l = s.l := by
  unfold nuS; split
  · rw [badS_l]; rfl
  · rfl
theorem nuS_at (s : FS) (m : Bool) : (nuS s m).at_ = s.at_ + 1 := by
  unfold nuS; split
  · rw [badS_at]; rfl
  · rfl
theorem nuS_sticks {s : FS} {m : Bool} (h : s.err ≠ 0) : (nuS s m).err = s.err := by
  have hb : nxB s = false := by simp [nxB, h]
  simp [nuS, hb, nxS_sticks h]
theorem pickF_size (ks : List Int) : ∀ (f : Fo), (pickF ks f).size ≤ f.size
  | .nil => Nat.le_refl _
  | .cons k cr li bs sub rest => by
    have := pickF_size ks rest
    rw [pickF]
    split <;> simp only [Fo.size] <;> omega
theorem pickT_size (ks : List Int) (f : Fo) : (pickT ks f).2.size ≤ f.size := by
  unfold pickT
  split
  · simp [Fo.size]
  · exact pickF_size ks f
end Go.Proofs.Ytcffinkkfdfcaaa

/- What body.partMay and the reference's May answer. Conditions: none. -/
namespace Go.Proofs.Ytcffinkkfdfcaaa
open Go Go.RowKit

set_option maxRecDepth 100000 in
set_option maxHeartbeats 4000000 in
theorem partMay_c (id : Nat) (ix ct : Int) (A : Option Addr) (n c : Nat) (w : World) : Calls Try.prog 63 #[.agg #[.int .u32 (id : Int), .int .i64 ix, .int .i64 ct, .slice A n c]] w fun r w' => r = .returned (.bool (partB ix ct n)) ∧ Below w.heap.size w w' := by
  have kb : Below w.heap.size w (w.alloc (.cells #[.int .u32 (id : Int), .int .i64 ix, .int .i64 ct, .slice A n c] 27)) := (Below.refl _ _).alloc (Nat.le_refl _) _
  by_cases h0 : 1 ≤ ct
  · skip
    by_cases h1 : ct ≤ 128
    · skip
      by_cases h2 : 0 ≤ ix
      · skip
        by_cases h3 : ix < ct
        · skip
          by_cases h4 : n ≤ 448
          · skip
            by_cases h5 : n = 448
            · skip
              have hm : partB ix ct n = true := decide_eq_true (by unfold partP; omega)
              rw [hm]; clear hm
              have d0 : (1 : Int) ≤ ct := by omega
              have d1 : decide ((1 : Int) ≤ ct) = true := decide_eq_true (by omega)
              have d2 : decide (ct < (1 : Int)) = false := decide_eq_false (by omega)
              have d3 : ct ≤ (128 : Int) := by omega
              have d4 : decide (ct ≤ (128 : Int)) = true := decide_eq_true (by omega)
              have d5 : decide ((128 : Int) < ct) = false := decide_eq_false (by omega)
              have d6 : (0 : Int) ≤ ix := by omega
              have d7 : decide ((0 : Int) ≤ ix) = true := decide_eq_true (by omega)
              have d8 : decide (ix < (0 : Int)) = false := decide_eq_false (by omega)
              have d9 : ix < ct := by omega
              have d10 : decide (ix < ct) = true := decide_eq_true (by omega)
              have d11 : decide (ct ≤ ix) = false := decide_eq_false (by omega)
              have d12 : (n : Int) ≤ 448 := by omega
              have d13 : decide ((n : Int) ≤ 448) = true := decide_eq_true (by omega)
              have d14 : decide ((448 : Int) < (n : Int)) = false := decide_eq_false (by omega)
              have d15 : ((n : Int) == 448) = true := by rw [beq_iff_eq]; omega
              clear h0 h1 h2 h3 h4 h5
              go_enter Try.func63, Try.ntmps63
              go_wp2
              go_ret
              exact ⟨rfl, kb⟩
            · skip
              by_cases h6 : ix = ct - 1
              · skip
                have hm : partB ix ct n = true := decide_eq_true (by unfold partP; omega)
                rw [hm]; clear hm
                have d0 : (1 : Int) ≤ ct := by omega
                have d1 : decide ((1 : Int) ≤ ct) = true := decide_eq_true (by omega)
                have d2 : decide (ct < (1 : Int)) = false := decide_eq_false (by omega)
                have d3 : ct ≤ (128 : Int) := by omega
                have d4 : decide (ct ≤ (128 : Int)) = true := decide_eq_true (by omega)
                have d5 : decide ((128 : Int) < ct) = false := decide_eq_false (by omega)
                have d6 : (0 : Int) ≤ ix := by omega
                have d7 : decide ((0 : Int) ≤ ix) = true := decide_eq_true (by omega)
                have d8 : decide (ix < (0 : Int)) = false := decide_eq_false (by omega)
                have d9 : ix < ct := by omega
                have d10 : decide (ix < ct) = true := decide_eq_true (by omega)
                have d11 : decide (ct ≤ ix) = false := decide_eq_false (by omega)
                have d12 : (n : Int) ≤ 448 := by omega
                have d13 : decide ((n : Int) ≤ 448) = true := decide_eq_true (by omega)
                have d14 : decide ((448 : Int) < (n : Int)) = false := decide_eq_false (by omega)
                have d15 : ((n : Int) == 448) = false := by rw [beq_eq_false_iff_ne]; omega
                have d16 : (ix == (ct - 1)) = true := by rw [beq_iff_eq]; omega
                clear h0 h1 h2 h3 h4 h5 h6
                go_enter Try.func63, Try.ntmps63
                go_wp2
                go_ret
                exact ⟨rfl, kb⟩
              · skip
                have hm : partB ix ct n = false := decide_eq_false (by unfold partP; omega)
                rw [hm]; clear hm
                have d0 : (1 : Int) ≤ ct := by omega
                have d1 : decide ((1 : Int) ≤ ct) = true := decide_eq_true (by omega)
                have d2 : decide (ct < (1 : Int)) = false := decide_eq_false (by omega)
                have d3 : ct ≤ (128 : Int) := by omega
                have d4 : decide (ct ≤ (128 : Int)) = true := decide_eq_true (by omega)
                have d5 : decide ((128 : Int) < ct) = false := decide_eq_false (by omega)
                have d6 : (0 : Int) ≤ ix := by omega
                have d7 : decide ((0 : Int) ≤ ix) = true := decide_eq_true (by omega)
                have d8 : decide (ix < (0 : Int)) = false := decide_eq_false (by omega)
                have d9 : ix < ct := by omega
                have d10 : decide (ix < ct) = true := decide_eq_true (by omega)
                have d11 : decide (ct ≤ ix) = false := decide_eq_false (by omega)
                have d12 : (n : Int) ≤ 448 := by omega
                have d13 : decide ((n : Int) ≤ 448) = true := decide_eq_true (by omega)
                have d14 : decide ((448 : Int) < (n : Int)) = false := decide_eq_false (by omega)
                have d15 : ((n : Int) == 448) = false := by rw [beq_eq_false_iff_ne]; omega
                have d16 : (ix == (ct - 1)) = false := by rw [beq_eq_false_iff_ne]; omega
                clear h0 h1 h2 h3 h4 h5 h6
                go_enter Try.func63, Try.ntmps63
                go_wp2
                go_ret
                exact ⟨rfl, kb⟩
          · skip
            have hm : partB ix ct n = false := decide_eq_false (by unfold partP; omega)
            rw [hm]; clear hm
            have d0 : (1 : Int) ≤ ct := by omega
            have d1 : decide ((1 : Int) ≤ ct) = true := decide_eq_true (by omega)
            have d2 : decide (ct < (1 : Int)) = false := decide_eq_false (by omega)
            have d3 : ct ≤ (128 : Int) := by omega
            have d4 : decide (ct ≤ (128 : Int)) = true := decide_eq_true (by omega)
            have d5 : decide ((128 : Int) < ct) = false := decide_eq_false (by omega)
            have d6 : (0 : Int) ≤ ix := by omega
            have d7 : decide ((0 : Int) ≤ ix) = true := decide_eq_true (by omega)
            have d8 : decide (ix < (0 : Int)) = false := decide_eq_false (by omega)
            have d9 : ix < ct := by omega
            have d10 : decide (ix < ct) = true := decide_eq_true (by omega)
            have d11 : decide (ct ≤ ix) = false := decide_eq_false (by omega)
            have d12 : (448 : Int) < (n : Int) := by omega
            have d13 : decide ((n : Int) ≤ 448) = false := decide_eq_false (by omega)
            have d14 : decide ((448 : Int) < (n : Int)) = true := decide_eq_true (by omega)
            clear h0 h1 h2 h3 h4
            go_enter Try.func63, Try.ntmps63
            go_wp2
            go_ret
            exact ⟨rfl, kb⟩
        · skip
          have hm : partB ix ct n = false := decide_eq_false (by unfold partP; omega)
          rw [hm]; clear hm
          have d0 : (1 : Int) ≤ ct := by omega
          have d1 : decide ((1 : Int) ≤ ct) = true := decide_eq_true (by omega)
          have d2 : decide (ct < (1 : Int)) = false := decide_eq_false (by omega)
          have d3 : ct ≤ (128 : Int) := by omega
          have d4 : decide (ct ≤ (128 : Int)) = true := decide_eq_true (by omega)
          have d5 : decide ((128 : Int) < ct) = false := decide_eq_false (by omega)
          have d6 : (0 : Int) ≤ ix := by omega
          have d7 : decide ((0 : Int) ≤ ix) = true := decide_eq_true (by omega)
          have d8 : decide (ix < (0 : Int)) = false := decide_eq_false (by omega)
          have d9 : ct ≤ ix := by omega
          have d10 : decide (ix < ct) = false := decide_eq_false (by omega)
          have d11 : decide (ct ≤ ix) = true := decide_eq_true (by omega)
          clear h0 h1 h2 h3
          go_enter Try.func63, Try.ntmps63
          go_wp2
          go_ret
          exact ⟨rfl, kb⟩
      · skip
        have hm : partB ix ct n = false := decide_eq_false (by unfold partP; omega)
        rw [hm]; clear hm
        have d0 : (1 : Int) ≤ ct := by omega
        have d1 : decide ((1 : Int) ≤ ct) = true := decide_eq_true (by omega)
        have d2 : decide (ct < (1 : Int)) = false := decide_eq_false (by omega)
        have d3 : ct ≤ (128 : Int) := by omega
        have d4 : decide (ct ≤ (128 : Int)) = true := decide_eq_true (by omega)
        have d5 : decide ((128 : Int) < ct) = false := decide_eq_false (by omega)
        have d6 : ix < (0 : Int) := by omega
        have d7 : decide ((0 : Int) ≤ ix) = false := decide_eq_false (by omega)
        have d8 : decide (ix < (0 : Int)) = true := decide_eq_true (by omega)
        clear h0 h1 h2
        go_enter Try.func63, Try.ntmps63
        go_wp2
        go_ret
        exact ⟨rfl, kb⟩
    · skip
      have hm : partB ix ct n = false := decide_eq_false (by unfold partP; omega)
      rw [hm]; clear hm
      have d0 : (1 : Int) ≤ ct := by omega
      have d1 : decide ((1 : Int) ≤ ct) = true := decide_eq_true (by omega)
      have d2 : decide (ct < (1 : Int)) = false := decide_eq_false (by omega)
      have d3 : (128 : Int) < ct := by omega
      have d4 : decide (ct ≤ (128 : Int)) = false := decide_eq_false (by omega)
      have d5 : decide ((128 : Int) < ct) = true := decide_eq_true (by omega)
      clear h0 h1
      go_enter Try.func63, Try.ntmps63
      go_wp2
      go_ret
      exact ⟨rfl, kb⟩
  · skip
    have hm : partB ix ct n = false := decide_eq_false (by unfold partP; omega)
    rw [hm]; clear hm
    have d0 : ct < (1 : Int) := by omega
    have d1 : decide ((1 : Int) ≤ ct) = false := decide_eq_false (by omega)
    have d2 : decide (ct < (1 : Int)) = true := decide_eq_true (by omega)
    clear h0
    go_enter Try.func63, Try.ntmps63
    go_wp2
    go_ret
    exact ⟨rfl, kb⟩
set_option maxRecDepth 100000 in
set_option maxHeartbeats 4000000 in
theorem may20_c (id : Nat) (ix ct : Int) (A : Option Addr) (n c : Nat) (w : World) : Calls Try.prog 64 #[.agg #[.int .u32 (id : Int), .int .i64 ix, .int .i64 ct, .slice A n c]] w fun r w' => r = .returned (.bool (partB ix ct n)) ∧ Below w.heap.size w w' := by
  have kb : Below w.heap.size w (w.alloc (.cells #[.int .u32 (id : Int), .int .i64 ix, .int .i64 ct, .slice A n c] 27)) := (Below.refl _ _).alloc (Nat.le_refl _) _
  by_cases h0 : 1 ≤ ct
  · skip
    by_cases h1 : ct ≤ 128
    · skip
      by_cases h2 : 0 ≤ ix
      · skip
        by_cases h3 : ix < ct
        · skip
          by_cases h4 : n ≤ 448
          · skip
            by_cases h5 : ix = ct - 1
            · skip
              have hm : partB ix ct n = true := decide_eq_true (by unfold partP; omega)
              rw [hm]; clear hm
              have d0 : (1 : Int) ≤ ct := by omega
              have d1 : decide ((1 : Int) ≤ ct) = true := decide_eq_true (by omega)
              have d2 : decide (ct < (1 : Int)) = false := decide_eq_false (by omega)
              have d3 : ct ≤ (128 : Int) := by omega
              have d4 : decide (ct ≤ (128 : Int)) = true := decide_eq_true (by omega)
              have d5 : decide ((128 : Int) < ct) = false := decide_eq_false (by omega)
              have d6 : (0 : Int) ≤ ix := by omega
              have d7 : decide ((0 : Int) ≤ ix) = true := decide_eq_true (by omega)
              have d8 : decide (ix < (0 : Int)) = false := decide_eq_false (by omega)
              have d9 : ix < ct := by omega
              have d10 : decide (ix < ct) = true := decide_eq_true (by omega)
              have d11 : decide (ct ≤ ix) = false := decide_eq_false (by omega)
              have d12 : (n : Int) ≤ 448 := by omega
              have d13 : decide ((n : Int) ≤ 448) = true := decide_eq_true (by omega)
              have d14 : decide ((448 : Int) < (n : Int)) = false := decide_eq_false (by omega)
              have d15 : (ix == (ct - 1)) = true := by rw [beq_iff_eq]; omega
              clear h0 h1 h2 h3 h4 h5
              go_enter Try.func64, Try.ntmps64
              go_wp2
              go_ret
              exact ⟨rfl, kb⟩
            · skip
              by_cases h6 : n = 448
              · skip
                have hm : partB ix ct n = true := decide_eq_true (by unfold partP; omega)
                rw [hm]; clear hm
                have d0 : (1 : Int) ≤ ct := by omega
                have d1 : decide ((1 : Int) ≤ ct) = true := decide_eq_true (by omega)
                have d2 : decide (ct < (1 : Int)) = false := decide_eq_false (by omega)
                have d3 : ct ≤ (128 : Int) := by omega
                have d4 : decide (ct ≤ (128 : Int)) = true := decide_eq_true (by omega)
                have d5 : decide ((128 : Int) < ct) = false := decide_eq_false (by omega)
                have d6 : (0 : Int) ≤ ix := by omega
                have d7 : decide ((0 : Int) ≤ ix) = true := decide_eq_true (by omega)
                have d8 : decide (ix < (0 : Int)) = false := decide_eq_false (by omega)
                have d9 : ix < ct := by omega
                have d10 : decide (ix < ct) = true := decide_eq_true (by omega)
                have d11 : decide (ct ≤ ix) = false := decide_eq_false (by omega)
                have d12 : (n : Int) ≤ 448 := by omega
                have d13 : decide ((n : Int) ≤ 448) = true := decide_eq_true (by omega)
                have d14 : decide ((448 : Int) < (n : Int)) = false := decide_eq_false (by omega)
                have d15 : (ix == (ct - 1)) = false := by rw [beq_eq_false_iff_ne]; omega
                have d16 : ((n : Int) == 448) = true := by rw [beq_iff_eq]; omega
                clear h0 h1 h2 h3 h4 h5 h6
                go_enter Try.func64, Try.ntmps64
                go_wp2
                go_ret
                exact ⟨rfl, kb⟩
              · skip
                have hm : partB ix ct n = false := decide_eq_false (by unfold partP; omega)
                rw [hm]; clear hm
                have d0 : (1 : Int) ≤ ct := by omega
                have d1 : decide ((1 : Int) ≤ ct) = true := decide_eq_true (by omega)
                have d2 : decide (ct < (1 : Int)) = false := decide_eq_false (by omega)
                have d3 : ct ≤ (128 : Int) := by omega
                have d4 : decide (ct ≤ (128 : Int)) = true := decide_eq_true (by omega)
                have d5 : decide ((128 : Int) < ct) = false := decide_eq_false (by omega)
                have d6 : (0 : Int) ≤ ix := by omega
                have d7 : decide ((0 : Int) ≤ ix) = true := decide_eq_true (by omega)
                have d8 : decide (ix < (0 : Int)) = false := decide_eq_false (by omega)
                have d9 : ix < ct := by omega
                have d10 : decide (ix < ct) = true := decide_eq_true (by omega)
                have d11 : decide (ct ≤ ix) = false := decide_eq_false (by omega)
                have d12 : (n : Int) ≤ 448 := by omega
                have d13 : decide ((n : Int) ≤ 448) = true := decide_eq_true (by omega)
                have d14 : decide ((448 : Int) < (n : Int)) = false := decide_eq_false (by omega)
                have d15 : (ix == (ct - 1)) = false := by rw [beq_eq_false_iff_ne]; omega
                have d16 : ((n : Int) == 448) = false := by rw [beq_eq_false_iff_ne]; omega
                clear h0 h1 h2 h3 h4 h5 h6
                go_enter Try.func64, Try.ntmps64
                go_wp2
                go_ret
                exact ⟨rfl, kb⟩
          · skip
            have hm : partB ix ct n = false := decide_eq_false (by unfold partP; omega)
            rw [hm]; clear hm
            have d0 : (1 : Int) ≤ ct := by omega
            have d1 : decide ((1 : Int) ≤ ct) = true := decide_eq_true (by omega)
            have d2 : decide (ct < (1 : Int)) = false := decide_eq_false (by omega)
            have d3 : ct ≤ (128 : Int) := by omega
            have d4 : decide (ct ≤ (128 : Int)) = true := decide_eq_true (by omega)
            have d5 : decide ((128 : Int) < ct) = false := decide_eq_false (by omega)
            have d6 : (0 : Int) ≤ ix := by omega
            have d7 : decide ((0 : Int) ≤ ix) = true := decide_eq_true (by omega)
            have d8 : decide (ix < (0 : Int)) = false := decide_eq_false (by omega)
            have d9 : ix < ct := by omega
            have d10 : decide (ix < ct) = true := decide_eq_true (by omega)
            have d11 : decide (ct ≤ ix) = false := decide_eq_false (by omega)
            have d12 : (448 : Int) < (n : Int) := by omega
            have d13 : decide ((n : Int) ≤ 448) = false := decide_eq_false (by omega)
            have d14 : decide ((448 : Int) < (n : Int)) = true := decide_eq_true (by omega)
            clear h0 h1 h2 h3 h4
            go_enter Try.func64, Try.ntmps64
            go_wp2
            go_ret
            exact ⟨rfl, kb⟩
        · skip
          have hm : partB ix ct n = false := decide_eq_false (by unfold partP; omega)
          rw [hm]; clear hm
          have d0 : (1 : Int) ≤ ct := by omega
          have d1 : decide ((1 : Int) ≤ ct) = true := decide_eq_true (by omega)
          have d2 : decide (ct < (1 : Int)) = false := decide_eq_false (by omega)
          have d3 : ct ≤ (128 : Int) := by omega
          have d4 : decide (ct ≤ (128 : Int)) = true := decide_eq_true (by omega)
          have d5 : decide ((128 : Int) < ct) = false := decide_eq_false (by omega)
          have d6 : (0 : Int) ≤ ix := by omega
          have d7 : decide ((0 : Int) ≤ ix) = true := decide_eq_true (by omega)
          have d8 : decide (ix < (0 : Int)) = false := decide_eq_false (by omega)
          have d9 : ct ≤ ix := by omega
          have d10 : decide (ix < ct) = false := decide_eq_false (by omega)
          have d11 : decide (ct ≤ ix) = true := decide_eq_true (by omega)
          clear h0 h1 h2 h3
          go_enter Try.func64, Try.ntmps64
          go_wp2
          go_ret
          exact ⟨rfl, kb⟩
      · skip
        have hm : partB ix ct n = false := decide_eq_false (by unfold partP; omega)
        rw [hm]; clear hm
        have d0 : (1 : Int) ≤ ct := by omega
        have d1 : decide ((1 : Int) ≤ ct) = true := decide_eq_true (by omega)
        have d2 : decide (ct < (1 : Int)) = false := decide_eq_false (by omega)
        have d3 : ct ≤ (128 : Int) := by omega
        have d4 : decide (ct ≤ (128 : Int)) = true := decide_eq_true (by omega)
        have d5 : decide ((128 : Int) < ct) = false := decide_eq_false (by omega)
        have d6 : ix < (0 : Int) := by omega
        have d7 : decide ((0 : Int) ≤ ix) = false := decide_eq_false (by omega)
        have d8 : decide (ix < (0 : Int)) = true := decide_eq_true (by omega)
        clear h0 h1 h2
        go_enter Try.func64, Try.ntmps64
        go_wp2
        go_ret
        exact ⟨rfl, kb⟩
    · skip
      have hm : partB ix ct n = false := decide_eq_false (by unfold partP; omega)
      rw [hm]; clear hm
      have d0 : (1 : Int) ≤ ct := by omega
      have d1 : decide ((1 : Int) ≤ ct) = true := decide_eq_true (by omega)
      have d2 : decide (ct < (1 : Int)) = false := decide_eq_false (by omega)
      have d3 : (128 : Int) < ct := by omega
      have d4 : decide (ct ≤ (128 : Int)) = false := decide_eq_false (by omega)
      have d5 : decide ((128 : Int) < ct) = true := decide_eq_true (by omega)
      clear h0 h1
      go_enter Try.func64, Try.ntmps64
      go_wp2
      go_ret
      exact ⟨rfl, kb⟩
  · skip
    have hm : partB ix ct n = false := decide_eq_false (by unfold partP; omega)
    rw [hm]; clear hm
    have d0 : ct < (1 : Int) := by omega
    have d1 : decide ((1 : Int) ≤ ct) = false := decide_eq_false (by omega)
    have d2 : decide (ct < (1 : Int)) = true := decide_eq_true (by omega)
    clear h0
    go_enter Try.func64, Try.ntmps64
    go_wp2
    go_ret
    exact ⟨rfl, kb⟩
end Go.Proofs.Ytcffinkkfdfcaaa

/- What body.dataMay and the reference's Same of one part answer. Conditions: none. -/
namespace Go.Proofs.Ytcffinkkfdfcaaa
open Go Go.RowKit

/-- Data's nine cells. -/
def cells9 (st ec ak th : Nat) (has : Bool) (id : Nat) (ix ct : Int) (A : Option Addr) (n c : Nat) : Array Value := #[.int .u16 (st : Int), .int .u16 (ec : Int), .int .u64 (ak : Int), .int .u64 (th : Int), .bool has, .int .u32 (id : Int), .int .i64 ix, .int .i64 ct, .slice A n c]
set_option maxRecDepth 100000 in
set_option maxHeartbeats 4000000 in
theorem dataMay_c (st ec ak th : Nat) (has : Bool) (id : Nat) (ix ct : Int) (A : Option Addr) (n c : Nat) (w : World) : Calls Try.prog 32 #[.agg #[.int .u16 (st : Int), .int .u16 (ec : Int), .int .u64 (ak : Int), .int .u64 (th : Int), .bool has, .int .u32 (id : Int), .int .i64 ix, .int .i64 ct, .slice A n c]] w fun r w' => r = .returned (.bool (dataB has id ix ct n)) ∧ Below w.heap.size w w' := by
  have kb : Below w.heap.size w (w.alloc (.cells #[.int .u16 (st : Int), .int .u16 (ec : Int), .int .u64 (ak : Int), .int .u64 (th : Int), .bool has, .int .u32 (id : Int), .int .i64 ix, .int .i64 ct, .slice A n c] 29)) := (Below.refl _ _).alloc (Nat.le_refl _) _
  cases has with
  | true =>
    go_enter Try.func32, Try.ntmps32
    go_wp2_with (fail)
    refine (partMay_c id ix ct A n c _).mono ?_
    rintro _ w1 ⟨rfl, hb⟩
    have K1 := Lib.hid (kb.trans (hb.mono kb.size))
    clear hb
    go_wp2
    go_ret
    exact ⟨rfl, K1.out⟩
  | false =>
    by_cases h1 : id = 0
    · by_cases h2 : ix = 0
      · by_cases h3 : ct = 0
        · by_cases h4 : n = 0
          · have hm : dataB false id ix ct n = true := decide_eq_true (by unfold noneP; omega)
            rw [hm]; clear hm
            subst h1 h2 h3 h4
            go_enter Try.func32, Try.ntmps32
            go_wp2
            go_ret
            exact ⟨rfl, kb⟩
          · have hm : dataB false id ix ct n = false := decide_eq_false (by unfold noneP; omega)
            rw [hm]; clear hm
            have d1 : ((n : Int) == 0) = false := by rw [beq_eq_false_iff_ne]; omega
            clear h4
            subst h1 h2 h3
            go_enter Try.func32, Try.ntmps32
            go_wp2
            go_ret
            exact ⟨rfl, kb⟩
        · have hm : dataB false id ix ct n = false := decide_eq_false (by unfold noneP; omega)
          rw [hm]; clear hm
          have d1 : (ct == 0) = false := by rw [beq_eq_false_iff_ne]; omega
          clear h3
          subst h1 h2
          go_enter Try.func32, Try.ntmps32
          go_wp2
          go_ret
          exact ⟨rfl, kb⟩
      · have hm : dataB false id ix ct n = false := decide_eq_false (by unfold noneP; omega)
        rw [hm]; clear hm
        have d1 : (ix == 0) = false := by rw [beq_eq_false_iff_ne]; omega
        clear h2
        subst h1
        go_enter Try.func32, Try.ntmps32
        go_wp2
        go_ret
        exact ⟨rfl, kb⟩
    · have hm : dataB false id ix ct n = false := decide_eq_false (by unfold noneP; omega)
      rw [hm]; clear hm
      have d1 : ((id : Int) == 0) = false := by rw [beq_eq_false_iff_ne]; omega
      clear h1
      go_enter Try.func32, Try.ntmps32
      go_wp2
      go_ret
      exact ⟨rfl, kb⟩
end Go.Proofs.Ytcffinkkfdfcaaa
