/- Parts one behind the other: How a law's arguments are opened: integers, bools, strings, slices of bytes; How a law's argument is opened: a screen by value; slices of cells and of texts; Tools for the walks over screens: sound screens, an answer in memory of its own, Same, a cell turned; What Full and Encode (16) answer, the code's and the reference's; Tools for the walk of rows.Apply: the state behind the first numbers; the title's part; bits; texts out of bytes. Conditions: as told at each. -/
import Derived.Test.YtipofokinjkclaaDoorPE1
import Derived.SizedLaws
import Derived.Deep.Slices
import Derived.Lib.SmallJoins
import Derived.Test.YtipofokinjkclaaDoorPE11
import Derived.Deep.Fields
import Derived.Test.YtipofokinjkclaaDoorPE12
import Derived.Test.YtipofokinjkclaaDoorPE4
import Derived.Test.YtipofokinjkclaaDoorPE18
import Derived.Test.YtipofokinjkclaaDoorPE14
import Derived.Test.YtipofokinjkclaaDoorPE15
import Derived.Test.YtipofokinjkclaaDoorPE17
import Derived.Laws.BytesArg

set_option linter.unusedVariables false
set_option linter.unusedSimpArgs false
/- How a law's arguments are opened: integers, bools, strings, slices of bytes. Conditions: none. -/
namespace Go.Proofs.YtipofokinjkclaaDoor
open Go Go.RowKit Go.ChangeShapes Go.WideShapes

theorem opn_int {H : Type} {enc : TypeId × Value → H} {P : Program} {W : World} {base t : Nat} {k : IntKind} {v : Value} {d : DataW H} {p : List MemPlace} (ht : P.underlying t = some (.int k))
    (hv : Value.okWide P W .any base t v) (hj : DataW.Trod enc P W 0 (fun _ => true) true t v d p) : ∃ a, v = .int k a ∧ (Lit.int k a).wf = true := by
  obtain ⟨a, h1, _, _, h2⟩ := open_int ht hv hj
  exact ⟨a, h1, h2⟩
/-- The values of a slice of bytes. -/
theorem rd_of_ints {W : World} {a : Addr} {zs : List Int} {len : Nat} (hl : len ≤ zs.length) (hcell : ∀ i, i < zs.length → W.cell? (a.add i) = some (.int .u8 (zs.getD i 0))) (hwz : ∀ n ∈ zs, (Lit.int .u8 n).wf = true) :
    ∃ bs : List UInt8, bs.length = len ∧ Rd W (some a) (bs.map bv) := by
  refine ⟨(zs.take len).map (fun z => UInt8.ofNat z.toNat), by simp; omega, ?_⟩
  rcases Nat.eq_zero_or_pos len with h0 | h0
  · subst h0; exact .inl (by simp)
  · obtain ⟨b, off, spot⟩ := a
    have h1 := hcell 0 (by omega)
    have hs : spot = none := by simpa [Addr.add] using World.cell?_spot h1
    subst hs
    refine .inr ⟨b, off, rfl, ?_, fun k hk => ?_⟩
    · exact World.block_lt_of_cell? W ⟨b, off, none⟩ (by simpa [Addr.add] using h1)
    · have hk' : k < zs.length := by simp at hk; omega
      have h2 := hcell k hk'
      rw [Addr.add_lit] at h2
      rw [h2]
      have hb := bounds_u8 (hwz zs[k] (List.getElem_mem hk'))
      simp only [List.getElem_map, List.getElem_take, bv, List.getD_eq_getElem?_getD, List.getElem?_eq_getElem hk', Option.getD_some, UInt8.toNat_ofNat']
      congr 2
      omega

theorem opn_bytes {H : Type} {enc : TypeId × Value → H} {P : Program} {W : World} {base t e j : Nat} {v : Value} {d : DataW H} {p : List MemPlace} {ts : List TypeId} {ds : List (DataW H)} (ht : P.underlying t = some (.slice e)) (he : P.underlying e = some (.int .u8)) (hc : P.cellsOf e = 1) (hb : P.bytesOf e = 1)
    (hv : Value.okWide P W .any base t v) (hj : DataW.Trod enc P W 0 (fun _ => true) true t v d p) (hsz : (DataW.weightsEach P ts ds).all (· ≤ reachBytes) = true) (h1 : ts[j]? = some t) (h2 : ds[j]? = some d) :
    ∃ (A : Option Addr) (n c : Nat) (bs : List UInt8), v = .slice A n c ∧ bs.length = n ∧ Rd W A (bs.map bv) ∧ n ≤ c ∧ c ≤ maxLen ∧ n ≤ 140737488351232 := by
  obtain ⟨a0, len, cap, rfl⟩ := okWide_slice ht hv
  obtain ⟨fuel, hf⟩ := hj
  rcases open_ints ht he hc hf with ⟨hcs, _⟩ | ⟨x, l, c, zs, hcs, _, hl, hm, hz, hx, hcell, hwz⟩
  · simp [Value.cells] at hcs
    obtain ⟨rfl, rfl, rfl⟩ := hcs
    exact ⟨none, 0, 0, [], rfl, rfl, .inl rfl, Nat.le_refl _, Nat.zero_le _, by decide⟩
  · simp [Value.cells] at hcs
    obtain ⟨rfl, rfl, rfl⟩ := hcs
    simp only [Prod.mk.injEq] at hx
    obtain ⟨rfl, _⟩ := hx
    simp only [if_true] at hz
    have hs := sized_slice hsz h1 h2 ht
    rw [hb] at hs
    simp only [lits, List.length_map, List.length_take, List.length_drop, reachBytes] at hs
    obtain ⟨bs, g1, g2⟩ := rd_of_ints (len := len) (by omega) hcell hwz
    exact ⟨some x, len, cap, bs, rfl, g1, g2, hl, hm, by omega⟩

theorem list_of_all {α : Type} {Q : Nat → α → Prop} (n : Nat) (h : ∀ i, i < n → ∃ x, Q i x) : ∃ l : List α, l.length = n ∧ ∀ i (hi : i < l.length), Q i l[i] := by
  induction n with
  | zero => exact ⟨[], rfl, fun i hi => absurd hi (by simp)⟩
  | succ n ih =>
    obtain ⟨l, h1, h2⟩ := ih (fun i hi => h i (by omega))
    obtain ⟨x, hx⟩ := h n (by omega)
    refine ⟨l ++ [x], by simp [h1], fun i hi => ?_⟩
    rcases Nat.lt_or_ge i l.length with hlt | hge
    · rw [List.getElem_append_left hlt]; exact h2 i hlt
    · have : i = n := by simp at hi; omega
      subst this
      rw [List.getElem_append_right hge]
      simpa using hx

/-- The address reads as these pairs. -/
def RdP (w : World) (A : Option Addr) (zs : List (Int × Int)) : Prop :=
  zs = [] ∨ ∃ b off, A = some ⟨b, off, none⟩ ∧ b < w.heap.size ∧ ∀ k (h : k < zs.length), w.cell? ⟨b, off + k * 2, none⟩ = some (.int .i64 zs[k].1) ∧ w.cell? ⟨b, off + k * 2 + 1, none⟩ = some (.int .i64 zs[k].2)
theorem RdP.below {w w' : World} {A : Option Addr} {zs : List (Int × Int)} (h : RdP w A zs) (hb : Below w.heap.size w w') : RdP w' A zs := by
  rcases h with h | ⟨b, off, hA, hlt, hc⟩
  · exact .inl h
  · exact .inr ⟨b, off, hA, Nat.lt_of_lt_of_le hlt hb.size, fun k hk => ⟨(hb.cell (p := ⟨b, _, none⟩) hlt).trans (hc k hk).1, (hb.cell (p := ⟨b, _, none⟩) hlt).trans (hc k hk).2⟩⟩

end Go.Proofs.YtipofokinjkclaaDoor


/- How a law's argument is opened: a screen by value; slices of cells and of texts. Conditions: none. -/
namespace Go.Proofs.YtipofokinjkclaaDoor
open Go Go.RowKit Go.ChangeShapes Go.WideShapes

theorem weightsAll_in {H : Type} {P : Program} {e : TypeId} : ∀ {l : List (DataW H)} {d : DataW H}, d ∈ l → ∀ n ∈ d.weights P e, n ∈ DataW.weightsAll P e l
  | d' :: r, d, hd, n, hn => by
    simp only [DataW.weightsAll, List.mem_append]
    rcases List.mem_cons.1 hd with rfl | h
    · exact Or.inl hn
    · exact Or.inr (weightsAll_in h n hn)
/-- The fields of a pen's type. -/
structure PeT (P : Program) (t : TypeId) (f0 f1 f2 f3 : Field) : Prop where
  hs : P.underlying t = some (.struct #[f0, f1, f2, f3])
  hC : P.cellsOf t = 4
  hone : Deep.oneCellFields P #[f0, f1, f2, f3] = true
  h0 : P.underlying f0.type = some (.int .u32)
  h1 : P.underlying f1.type = some (.int .u32)
  h2 : P.underlying f2.type = some (.int .u8)
  h3 : P.underlying f3.type = some (.int .u16)
/-- The fields of a cell's type. -/
structure CeT (P : Program) (t : TypeId) (f0 f1 f2 : Field) (pt : TypeId) (g0 g1 g2 g3 : Field) : Prop where
  hs : P.underlying t = some (.struct #[f0, f1, f2])
  hC : P.cellsOf t = 6
  o0 : f0.offset = 0
  o1 : f1.offset = 1
  o2 : f2.offset = 2
  k0 : P.cellsOf f0.type = 1
  k1 : P.cellsOf f1.type = 1
  h0 : P.underlying f0.type = some (.int .i32)
  h1 : P.underlying f1.type = some (.int .u8)
  h2 : f2.type = pt
  T : PeT P pt g0 g1 g2 g3
/-- The fields of a screen's type. -/
structure ScT (P : Program) (t : TypeId) (f0 f1 f2 f3 f4 f5 f6 f7 f8 : Field) (et st : TypeId) (c0 c1 c2 : Field) (pt : TypeId) (g0 g1 g2 g3 : Field) : Prop where
  hs : P.underlying t = some (.struct #[f0, f1, f2, f3, f4, f5, f6, f7, f8])
  hC : P.cellsOf t = 9
  hone : Deep.oneCellFields P #[f0, f1, f2, f3, f4, f5, f6, f7, f8] = true
  h0 : P.underlying f0.type = some (.int .i64)
  h1 : P.underlying f1.type = some (.int .i64)
  h2 : P.underlying f2.type = some (.slice et)
  hB : P.bytesOf et = 20
  T : CeT P et c0 c1 c2 pt g0 g1 g2 g3
  h3 : P.underlying f3.type = some (.int .i64)
  h4 : P.underlying f4.type = some (.int .i64)
  h5 : P.underlying f5.type = some .bool
  h6 : P.underlying f6.type = some (.int .u8)
  h7 : P.underlying f7.type = some .string
  h8 : P.underlying f8.type = some (.slice st)
  hst : P.underlying st = some .string
  cst : P.cellsOf st = 1
  bst : P.bytesOf st = 16

/-- A cell's numbers are such as its types hold. -/
def CeOk (d : CeD) : Prop := (-2147483648 ≤ d.r ∧ d.r ≤ 2147483647) ∧ (0 ≤ d.w ∧ d.w ≤ 255) ∧ (0 ≤ d.fg ∧ d.fg ≤ 4294967295) ∧ (0 ≤ d.bg ∧ d.bg ≤ 4294967295) ∧ (0 ≤ d.at_ ∧ d.at_ ≤ 255) ∧ (0 ≤ d.ln ∧ d.ln ≤ 65535)
theorem wf_i64 {a : Int} (w : (Lit.int .i64 a).wf = true) : -9223372036854775808 ≤ a ∧ a ≤ 9223372036854775807 := by
  simp only [Lit.wf, IntKind.min, IntKind.max, IntKind.signed, IntKind.bits, Bool.and_eq_true, decide_eq_true_eq] at w
  exact ⟨by simpa using w.1, by simpa using w.2⟩
theorem wf_i32 {a : Int} (w : (Lit.int .i32 a).wf = true) : -2147483648 ≤ a ∧ a ≤ 2147483647 := by
  simp only [Lit.wf, IntKind.min, IntKind.max, IntKind.signed, IntKind.bits, Bool.and_eq_true, decide_eq_true_eq] at w
  exact ⟨by simpa using w.1, by simpa using w.2⟩
theorem wf_u8 {a : Int} (w : (Lit.int .u8 a).wf = true) : 0 ≤ a ∧ a ≤ 255 := by
  simp only [Lit.wf, IntKind.min, IntKind.max, IntKind.signed, IntKind.bits, Bool.and_eq_true, decide_eq_true_eq] at w
  exact ⟨by simpa using w.1, by simpa using w.2⟩
theorem wf_u16 {a : Int} (w : (Lit.int .u16 a).wf = true) : 0 ≤ a ∧ a ≤ 65535 := by
  simp only [Lit.wf, IntKind.min, IntKind.max, IntKind.signed, IntKind.bits, Bool.and_eq_true, decide_eq_true_eq] at w
  exact ⟨by simpa using w.1, by simpa using w.2⟩
theorem wf_u32 {a : Int} (w : (Lit.int .u32 a).wf = true) : 0 ≤ a ∧ a ≤ 4294967295 := by
  simp only [Lit.wf, IntKind.min, IntKind.max, IntKind.signed, IntKind.bits, Bool.and_eq_true, decide_eq_true_eq] at w
  exact ⟨by simpa using w.1, by simpa using w.2⟩

theorem open_pen {H : Type} {enc : TypeId × Value → H} {P : Program} {W : World} {t fuel : Nat} {f0 f1 f2 f3 : Field} (T : PeT P t f0 f1 f2 f3) {cs : List Value} {x : DataW H × List MemPlace}
    (hf : DataW.trod enc P W 0 (fun _ => true) true fuel t cs = some x) :
    ∃ fg bg a ln : Int, cs = [.int .u32 fg, .int .u32 bg, .int .u8 a, .int .u16 ln] ∧ (0 ≤ fg ∧ fg ≤ 4294967295) ∧ (0 ≤ bg ∧ bg ≤ 4294967295) ∧ (0 ≤ a ∧ a ≤ 255) ∧ (0 ≤ ln ∧ ln ≤ 65535) := by
  obtain ⟨ys, n', _, _, hl4, hlen', hgs⟩ := DataW.trod_struct T.hs hf
  rw [T.hC] at hl4
  obtain ⟨o0, k0⟩ := Deep.hone_of T.hone 0 f0 rfl
  obtain ⟨o1, k1⟩ := Deep.hone_of T.hone 1 f1 rfl
  obtain ⟨o2, k2⟩ := Deep.hone_of T.hone 2 f2 rfl
  obtain ⟨o3, k3⟩ := Deep.hone_of T.hone 3 f3 rfl
  match cs, hl4, ys, hlen' with
  | [u0, u1, u2, u3], _, [y0, y1, y2, y3], _ =>
    have q0 := hgs 0 f0 rfl
    have q1 := hgs 1 f1 rfl
    have q2 := hgs 2 f2 rfl
    have q3 := hgs 3 f3 rfl
    rw [o0, k0] at q0
    rw [o1, k1] at q1
    rw [o2, k2] at q2
    rw [o3, k3] at q3
    obtain ⟨a0, e0, _, w0⟩ := DataW.trod_int T.h0 q0
    obtain ⟨a1, e1, _, w1⟩ := DataW.trod_int T.h1 q1
    obtain ⟨a2, e2, _, w2⟩ := DataW.trod_int T.h2 q2
    obtain ⟨a3, e3, _, w3⟩ := DataW.trod_int T.h3 q3
    simp at e0 e1 e2 e3
    subst e0 e1 e2 e3
    exact ⟨a0, a1, a2, a3, rfl, wf_u32 w0, wf_u32 w1, wf_u8 w2, wf_u16 w3⟩
theorem open_cell {H : Type} {enc : TypeId × Value → H} {P : Program} {W : World} {t pt fuel : Nat} {f0 f1 f2 g0 g1 g2 g3 : Field} (T : CeT P t f0 f1 f2 pt g0 g1 g2 g3) {cs : List Value} {x : DataW H × List MemPlace}
    (hf : DataW.trod enc P W 0 (fun _ => true) true fuel t cs = some x) : ∃ d : CeD, cs = d.cells ∧ CeOk d := by
  obtain ⟨ys, n, _, _, hl, hlen, hg⟩ := DataW.trod_struct T.hs hf
  rw [T.hC] at hl
  match cs, hl, ys, hlen with
  | [u0, u1, u2, u3, u4, u5], _, [y0, y1, y2], _ =>
    have q0 := hg 0 f0 rfl
    have q1 := hg 1 f1 rfl
    have q2 := hg 2 f2 rfl
    rw [T.o0, T.k0] at q0
    rw [T.o1, T.k1] at q1
    rw [T.o2, T.h2, T.T.hC] at q2
    obtain ⟨a0, e0, _, w0⟩ := DataW.trod_int T.h0 q0
    obtain ⟨a1, e1, _, w1⟩ := DataW.trod_int T.h1 q1
    obtain ⟨fg, bg, a, ln, e2, r⟩ := open_pen T.T q2
    simp at e0 e1 e2
    obtain ⟨z1, z2, z3, z4⟩ := e2
    subst e0 e1 z1 z2 z3 z4
    exact ⟨⟨a0, a1, fg, bg, a, ln⟩, rfl, wf_i32 w0, wf_u8 w1, r⟩
theorem open_cells {H : Type} {enc : TypeId × Value → H} {P : Program} {W : World} {t et pt fuel : Nat} {f0 f1 f2 g0 g1 g2 g3 : Field} (ht : P.underlying t = some (.slice et)) (hB : P.bytesOf et = 20) (T : CeT P et f0 f1 f2 pt g0 g1 g2 g3) {u : Value} {y : DataW H × List MemPlace}
    (hf : DataW.trod enc P W 0 (fun _ => true) true fuel t [u] = some y) :
    ∃ (A : Option Addr) (n c : Nat) (ds : List CeD), u = .slice A n c ∧ ds.length = n ∧ RdC W A ds ∧ n ≤ c ∧ c ≤ maxLen ∧ (∀ d ∈ ds, CeOk d) ∧ ((∀ k ∈ y.1.weights P t, k ≤ reachBytes) → n * 20 ≤ reachBytes) := by
  rcases Deep.open_slice ht hf with ⟨hcs, _⟩ | ⟨a, len, cap, m, n, D, Pl, hcs, _, hl, hm, hmm, hx, hcell⟩
  · injection hcs with hcs _
    subst hcs
    exact ⟨none, 0, 0, [], rfl, rfl, .inl rfl, Nat.le_refl _, Nat.zero_le _, by simp, fun _ => by decide⟩
  · injection hcs with hcs _
    subst hcs
    simp only [if_true] at hmm
    obtain rfl : cap = m := hmm.symm
    have each : ∀ i, i < len → ∃ d : CeD, (∀ q (hq : q < 6), W.cell? (a.add (i * 6 + q)) = (d.cells)[q]?) ∧ CeOk d := by
      intro i hi
      obtain ⟨cs', g1, g2⟩ := hcell i (by omega)
      rw [T.hC] at g1
      obtain ⟨_, hlen, hg⟩ := World.cells?_some g1
      obtain ⟨d, hcs, hok⟩ := open_cell T g2
      refine ⟨d, fun q hq => ?_, hok⟩
      rw [← Deep.add_add]
      subst hcs
      have := hg q (by simpa [CeD.cells] using hq)
      rw [this]
    obtain ⟨ds, hz1, hz2⟩ := list_of_all len each
    have hcellz : ∀ i (hi : i < ds.length) q, q < 6 → W.cell? (a.add (i * 6 + q)) = (cellsC ds)[i * 6 + q]? := by
      intro i hi q hq
      rw [cellsC_get _ i hi q hq, (hz2 i hi).1 q hq]
    refine ⟨some a, len, cap, ds, rfl, hz1, ?_, hl, hm, fun d hd => ?_, fun hw => ?_⟩
    · rcases Nat.eq_zero_or_pos len with h0 | h0
      · left
        have : ds = [] := List.eq_nil_of_length_eq_zero (by omega)
        rw [this]; rfl
      · have h := hcellz 0 (by omega) 0 (by decide)
        rw [List.getElem?_eq_getElem (by rw [cellsC_length]; omega), show a.add (0 * 6 + 0) = a by simp [Addr.add]] at h
        have hsp := World.cell?_spot h
        have hlt := World.block_lt_of_cell? W a h
        obtain ⟨b, off, spot⟩ := a
        simp only at hsp
        subst hsp
        refine .inr ⟨b, off, rfl, hlt, fun k hk => ?_⟩
        have hk' : k < ds.length * 6 := by rw [cellsC_length] at hk; exact hk
        have h := hcellz (k / 6) (by omega) (k % 6) (Nat.mod_lt _ (by decide))
        rw [show k / 6 * 6 + k % 6 = k by omega, Addr.add_lit, List.getElem?_eq_getElem hk] at h
        exact h
    · obtain ⟨i, hi, rfl⟩ := List.mem_iff_getElem.1 hd
      exact (hz2 i hi).2
    · subst hx
      have h := hw ((((List.range len).map D).length + ((List.range (cap - len)).map fun j => D (len + j)).length) * 20) (by
        simp only [DataW.weights, ht, List.mem_cons]
        left
        rw [hB])
      simp only [List.length_map, List.length_range, reachBytes] at h ⊢
      omega
theorem open_strs {H : Type} {enc : TypeId × Value → H} {P : Program} {W : World} {t st fuel : Nat} (ht : P.underlying t = some (.slice st)) (hs : P.underlying st = some .string) (hc : P.cellsOf st = 1) (hB : P.bytesOf st = 16) {u : Value} {y : DataW H × List MemPlace}
    (hf : DataW.trod enc P W 0 (fun _ => true) true fuel t [u] = some y) :
    ∃ (A : Option Addr) (n c : Nat) (ss : List ByteArray), u = .slice A n c ∧ ss.length = n ∧ RdT W A ss ∧ n ≤ c ∧ c ≤ maxLen ∧ ((∀ k ∈ y.1.weights P t, k ≤ reachBytes) → n * 16 ≤ reachBytes ∧ ∀ s ∈ ss, s.size ≤ reachBytes) := by
  rcases Deep.open_slice1 ht hc hf with ⟨hcs, _⟩ | ⟨a, len, cap, m, n, V, D, Pl, hcs, _, hl, hm, hmm, hx, hcell⟩
  · injection hcs with hcs _
    subst hcs
    exact ⟨none, 0, 0, [], rfl, rfl, .inl rfl, Nat.le_refl _, Nat.zero_le _, fun _ => ⟨by decide, by simp⟩⟩
  · injection hcs with hcs _
    subst hcs
    simp only [if_true] at hmm
    obtain rfl : cap = m := hmm.symm
    have each : ∀ i, i < len → ∃ s : ByteArray, W.cell? (a.add i) = some (.string s) ∧ D i = .lit (.string s.data.toList) := by
      intro i hi
      obtain ⟨g1, g2⟩ := hcell i (by omega)
      obtain ⟨s, e1, e2, _⟩ := DataW.trod_string hs g2
      simp only [List.cons.injEq, and_true] at e1
      simp only [Prod.mk.injEq] at e2
      exact ⟨s, by rw [g1, e1], e2.1⟩
    obtain ⟨ss, hz1, hz2⟩ := list_of_all len each
    refine ⟨some a, len, cap, ss, rfl, hz1, ?_, hl, hm, fun hw => ⟨?_, fun s hs' => ?_⟩⟩
    · rcases Nat.eq_zero_or_pos len with h0 | h0
      · left
        have : ss = [] := List.eq_nil_of_length_eq_zero (by omega)
        rw [this]; rfl
      · have h := (hz2 0 (by omega)).1
        rw [show a.add 0 = a by simp [Addr.add]] at h
        have hsp := World.cell?_spot h
        have hlt := World.block_lt_of_cell? W a h
        obtain ⟨b, off, spot⟩ := a
        simp only at hsp
        subst hsp
        refine .inr ⟨b, off, rfl, hlt, fun k hk => ?_⟩
        have hk' : k < ss.length := by rw [strV, List.length_map] at hk; exact hk
        have h := (hz2 k hk').1
        rw [Addr.add_lit] at h
        rw [h]; simp [strV]
    · subst hx
      have h := hw ((((List.range len).map D).length + ((List.range (cap - len)).map fun j => D (len + j)).length) * 16) (by
        simp only [DataW.weights, ht, List.mem_cons]
        left
        rw [hB])
      simp only [List.length_map, List.length_range, reachBytes] at h ⊢
      omega
    · obtain ⟨i, hi, rfl⟩ := List.mem_iff_getElem.1 hs'
      subst hx
      have h := hw (ss[i].data.toList.length) (by
        simp only [DataW.weights, ht, List.mem_cons, List.mem_append]
        refine Or.inr (Or.inl (weightsAll_in (d := D i) (List.mem_map.2 ⟨i, List.mem_range.2 (by omega), rfl⟩) _ ?_))
        rw [(hz2 i hi).2]
        simp [DataW.weights])
      rw [show ss[i].size = ss[i].data.toList.length from (Array.length_toList).symm]
      exact h
/-- What is known of a screen that is handed in. -/
structure ScO (W : World) (s : ScD) (A : Option Addr) (n c : Nat) (L : Option Addr) (m cm : Nat) : Prop where
  hn : s.cells.length = n
  rd : RdC W A s.cells
  nc : n ≤ c
  cml : c ≤ maxLen
  nl : n ≤ 7036874417561
  hm : s.links.length = m
  rt : RdT W L s.links
  mc : m ≤ cm
  dm : cm ≤ maxLen
  ml : m ≤ 8796093022000
  us : ∀ u ∈ s.links, u.size ≤ 140737488351232
  ce : ∀ d ∈ s.cells, CeOk d
  tl : s.title.size ≤ 140737488351232
  b0 : -9223372036854775808 ≤ s.cols ∧ s.cols ≤ 9223372036854775807
  b1 : -9223372036854775808 ≤ s.rows ∧ s.rows ≤ 9223372036854775807
  b3 : -9223372036854775808 ≤ s.x ∧ s.x ≤ 9223372036854775807
  b4 : -9223372036854775808 ≤ s.y ∧ s.y ≤ 9223372036854775807
  b6 : 0 ≤ s.mouse ∧ s.mouse ≤ 255
theorem open_scr {H : Type} {enc : TypeId × Value → H} {P : Program} {W : World} {t et st pt fuel : Nat} {f0 f1 f2 f3 f4 f5 f6 f7 f8 c0 c1 c2 g0 g1 g2 g3 : Field} (T : ScT P t f0 f1 f2 f3 f4 f5 f6 f7 f8 et st c0 c1 c2 pt g0 g1 g2 g3) {cs : List Value} {x : DataW H × List MemPlace}
    (hf : DataW.trod enc P W 0 (fun _ => true) true fuel t cs = some x) (hw : ∀ n ∈ x.1.weights P t, n ≤ reachBytes) :
    ∃ (s : ScD) (A : Option Addr) (n c : Nat) (L : Option Addr) (m cm : Nat), cs = (scC s A n c L m cm).toList ∧ ScO W s A n c L m cm := by
  obtain ⟨ys, n', _, rfl, hl9, hlen', hgs⟩ := DataW.trod_struct T.hs hf
  rw [T.hC] at hl9
  have hk := Deep.hone_of T.hone
  match cs, hl9, ys, hlen' with
  | [u0, u1, u2, u3, u4, u5, u6, u7, u8], _, [y0, y1, y2, y3, y4, y5, y6, y7, y8], _ =>
    have q0 := hgs 0 f0 rfl
    have q1 := hgs 1 f1 rfl
    have q2 := hgs 2 f2 rfl
    have q3 := hgs 3 f3 rfl
    have q4 := hgs 4 f4 rfl
    have q5 := hgs 5 f5 rfl
    have q6 := hgs 6 f6 rfl
    have q7 := hgs 7 f7 rfl
    have q8 := hgs 8 f8 rfl
    rw [(hk 0 f0 rfl).1, (hk 0 f0 rfl).2] at q0
    rw [(hk 1 f1 rfl).1, (hk 1 f1 rfl).2] at q1
    rw [(hk 2 f2 rfl).1, (hk 2 f2 rfl).2] at q2
    rw [(hk 3 f3 rfl).1, (hk 3 f3 rfl).2] at q3
    rw [(hk 4 f4 rfl).1, (hk 4 f4 rfl).2] at q4
    rw [(hk 5 f5 rfl).1, (hk 5 f5 rfl).2] at q5
    rw [(hk 6 f6 rfl).1, (hk 6 f6 rfl).2] at q6
    rw [(hk 7 f7 rfl).1, (hk 7 f7 rfl).2] at q7
    rw [(hk 8 f8 rfl).1, (hk 8 f8 rfl).2] at q8
    have hwe : ∀ (j : Nat) (f : Field) (y : DataW H × List MemPlace), (#[f0, f1, f2, f3, f4, f5, f6, f7, f8] : Array Field)[j]? = some f → ([y0, y1, y2, y3, y4, y5, y6, y7, y8] : List (DataW H × List MemPlace))[j]? = some y → ∀ n ∈ y.1.weights P f.type, n ≤ reachBytes := by
      intro j f y hj hy' n hn
      refine hw n ?_
      simp only [DataW.weights, T.hs]
      refine DataW.weights_mem_each (j := j) (t := f.type) (d := y.1) ?_ ?_ n hn
      · rw [List.getElem?_map]
        have : ([f0, f1, f2, f3, f4, f5, f6, f7, f8] : List Field)[j]? = some f := by simpa using hj
        show Option.map _ (([f0, f1, f2, f3, f4, f5, f6, f7, f8] : List Field)[j]?) = _
        rw [this]; rfl
      · rw [List.getElem?_map, hy']; rfl
    obtain ⟨a0, e0, _, w0⟩ := DataW.trod_int T.h0 q0
    obtain ⟨a1, e1, _, w1⟩ := DataW.trod_int T.h1 q1
    obtain ⟨a3, e3, _, w3⟩ := DataW.trod_int T.h3 q3
    obtain ⟨a4, e4, _, w4⟩ := DataW.trod_int T.h4 q4
    obtain ⟨a5, e5, _⟩ := DataW.trod_bool T.h5 q5
    obtain ⟨a6, e6, _, w6⟩ := DataW.trod_int T.h6 q6
    obtain ⟨a7, e7, y7', w7⟩ := DataW.trod_string T.h7 q7
    obtain ⟨A, n, c, ds, e2, r1, r2, r3, r4, r5, r6⟩ := open_cells T.h2 T.hB T.T (show DataW.trod enc P W 0 (fun _ => true) true n' f2.type [u2] = some y2 from q2)
    obtain ⟨L, m, cm, ss, e8, s1, s2, s3, s4, s5⟩ := open_strs T.h8 T.hst T.cst T.bst (show DataW.trod enc P W 0 (fun _ => true) true n' f8.type [u8] = some y8 from q8)
    have r6' := r6 (fun k hk => hwe 2 f2 y2 rfl rfl k hk)
    obtain ⟨s6, s7⟩ := s5 (fun k hk => hwe 8 f8 y8 rfl rfl k hk)
    have t7 : a7.size ≤ reachBytes := by
      have := hwe 7 f7 y7 rfl rfl a7.data.toList.length (by rw [y7']; simp [DataW.weights])
      rw [show a7.size = a7.data.toList.length from (Array.length_toList).symm]
      exact this
    simp at e0 e1 e3 e4 e5 e6 e7
    subst e0 e1 e2 e3 e4 e5 e6 e7 e8
    refine ⟨⟨a0, a1, ds, a3, a4, a5, a6, a7, ss⟩, A, n, c, L, m, cm, rfl, r1, r2, r3, r4, ?_, s1, s2, s3, s4, ?_, s7, r5, t7, wf_i64 w0, wf_i64 w1, wf_i64 w3, wf_i64 w4, wf_u8 w6⟩
    · simp only [reachBytes] at r6'; omega
    · simp only [reachBytes] at s6; omega
theorem opn_scr {H : Type} {enc : TypeId × Value → H} {P : Program} {W : World} {base t et st pt j : Nat} {f0 f1 f2 f3 f4 f5 f6 f7 f8 c0 c1 c2 g0 g1 g2 g3 : Field} (T : ScT P t f0 f1 f2 f3 f4 f5 f6 f7 f8 et st c0 c1 c2 pt g0 g1 g2 g3) {v : Value} {d : DataW H} {p : List MemPlace} {ts : List TypeId} {ds : List (DataW H)}
    (hv : Value.okWide P W .any base t v) (hj : DataW.Trod enc P W 0 (fun _ => true) true t v d p) (hsz : (DataW.weightsEach P ts ds).all (· ≤ reachBytes) = true) (k1 : ts[j]? = some t) (k2 : ds[j]? = some d) :
    ∃ (s : ScD) (A : Option Addr) (n c : Nat) (L : Option Addr) (m cm : Nat), v = .agg (scC s A n c L m cm) ∧ ScO W s A n c L m cm := by
  obtain ⟨cs, rfl, hsz2⟩ := okWide_struct T.hs hv
  obtain ⟨fuel, hf⟩ := hj
  obtain ⟨s, A, n, c, L, m, cm, hcs, r⟩ := open_scr T hf (fun n hn => of_decide_eq_true (List.all_eq_true.1 hsz n (DataW.weights_mem_each k1 k2 n hn)))
  refine ⟨s, A, n, c, L, m, cm, ?_, r⟩
  congr 1
  apply Array.ext'
  simpa [Value.cells] using hcs
/-- One that isn't great can be gone through. -/
theorem ScO.small {W : World} {s : ScD} {A : Option Addr} {n c : Nat} {L : Option Addr} {m cm : Nat} (h : ScO W s A n c L m cm) (h1 : n ≤ 60000) (h2 : m ≤ 60000) (h3 : s.title.size ≤ 1000000) : ScR W s A n c L m cm :=
  ⟨h.hn, h.rd, h.nc, h1, h.hm, h.rt, h.mc, h2, fun u hu => Nat.le_trans (h.us u hu) (by decide), fun d hd => by have := h.ce d hd; exact ⟨this.2.2.2.2.2.1, by have := this.2.2.2.2.2.2; omega⟩, h3⟩
end Go.Proofs.YtipofokinjkclaaDoor


/- Tools for the walks over screens: sound screens, an answer in memory of its own, Same, a cell turned. Conditions: none. -/
namespace Go.Proofs.YtipofokinjkclaaDoor
open Go Go.RowKit Go.Lib

theorem OwnC.parts {w : World} {B n c : Nat} {A : Option Addr} {ds : List CeD} (h : OwnC w B (.slice A n c) ds) : ds.length = n ∧ RdC w A ds ∧ n ≤ c ∧ (∀ a, A = some a → B ≤ a.block ∧ a.block < w.heap.size ∧ a.off = 0 ∧ a.spot = none) ∧ (A = none → c = 0) := by
  obtain ⟨A2, c2, e, h1, _, h3, h4, h5⟩ := h.form
  injection e with e1 e2 e3
  subst e1 e2 e3
  exact ⟨rfl, h3, h1, h4, h5⟩
theorem OwnT.parts {w : World} {B n c : Nat} {A : Option Addr} {ss : List ByteArray} (h : OwnT w B (.slice A n c) ss) : ss.length = n ∧ RdT w A ss ∧ n ≤ c ∧ (∀ a, A = some a → B ≤ a.block ∧ a.block < w.heap.size ∧ a.off = 0 ∧ a.spot = none) := by
  obtain ⟨A2, c2, e, h1, _, h3, h4⟩ := OwnT.form h
  injection e with e1 e2 e3
  subst e1 e2 e3
  exact ⟨rfl, h3, h1, h4⟩
/-- A screen that is no greater than is gone through, its numbers such as its types hold. -/
structure Sound (s : ScD) : Prop where
  nl : s.cells.length ≤ 60000
  ml : s.links.length ≤ 60000
  us : ∀ u ∈ s.links, u.size ≤ 140737488355328
  ok : okLn s.cells
  tl : s.title.size ≤ 1000000
  col : ∀ d ∈ s.cells, 0 ≤ d.fg ∧ 0 ≤ d.bg
theorem Sound.read {s : ScD} (h : Sound s) {w : World} {B B' n c m d : Nat} {A L : Option Addr} (hc : OwnC w B (.slice A n c) s.cells) (ht : OwnT w B' (.slice L m d) s.links) : ScR w s A n c L m d := by
  obtain ⟨c1, c2, c3, _⟩ := hc.parts
  obtain ⟨t1, t2, t3, _⟩ := OwnT.parts ht
  exact ⟨c1, c2, c3, by rw [← c1]; exact h.nl, t1, t2, t3, by rw [← t1]; exact h.ml, h.us, h.ok, h.tl⟩
/-- An answer: a screen in memory of its own. -/
def ScrV (w : World) (B : Nat) (s : ScD) (v : Value) : Prop := ∃ A n c L m d, v = .agg (scC s A n c L m d) ∧ OwnC w B (.slice A n c) s.cells ∧ OwnT w B (.slice L m d) s.links ∧ (∀ a b, A = some a → L = some b → a.block ≠ b.block)
theorem ScrV.below {w w' : World} {B : Nat} {s : ScD} {v : Value} (h : ScrV w B s v) (hb : Below w.heap.size w w') : ScrV w' B s v := by
  obtain ⟨A, n, c, L, m, d, e, h1, h2, h3⟩ := h
  exact ⟨A, n, c, L, m, d, e, OwnC.below h1 hb, Own.below h2 hb, h3⟩
theorem same_c (s t : ScD) (A : Option Addr) (n c : Nat) (L : Option Addr) (m cm : Nat) (B : Option Addr) (k d : Nat) (M : Option Addr) (l dm : Nat) (w : World) (h1 : ScR w s A n c L m cm) (h2 : ScR w t B k d M l dm) :
    Calls Tryd.prog 27 #[.agg (scC s A n c L m cm), .agg (scC t B k d M l dm)] w fun e w' => e = .returned (.bool (sameS s t)) ∧ Below w.heap.size w w' :=
  refSameS_c s A n c L m cm t B k d M l dm w h1.hn h1.rd h1.hm h1.rt h2.hn h2.rd h2.hm h2.rt (by have := h1.nl; omega) (by have := h1.ml; omega)
/-! ### Cells turned -/
theorem cellsC_rune : ∀ (ds : List CeD) (i : Nat) (h : i < ds.length) (x : Int), (cellsC ds).set (i * 6) (.int .i32 x) = cellsC (ds.set i ⟨x, ds[i].w, ds[i].fg, ds[i].bg, ds[i].at_, ds[i].ln⟩)
  | d :: ds, 0, _, x => rfl
  | d :: ds, i + 1, h, x => by
    have ih := cellsC_rune ds i (by simpa using h) x
    have e0 : (i + 1) * 6 - d.cells.length = i * 6 := by simp [CeD.cells]; omega
    rw [cellsC_cons, List.set_append_right _ _ (by simp [CeD.cells]; omega), e0, ih]
    rfl
theorem OwnC.rune {w : World} {B g n c : Nat} {ds : List CeD} (h : OwnC w B (.slice (some ⟨g, 0, none⟩) n c) ds) (i : Nat) (hi : i < ds.length) (x : Int) : OwnC (w.setCell ⟨g, i * 6, none⟩ (.int .i32 x)) B (.slice (some ⟨g, 0, none⟩) n c) (ds.set i ⟨x, ds[i].w, ds[i].fg, ds[i].bg, ds[i].at_, ds[i].ln⟩) := by
  have hl := h.len.1
  have h2 := (h.to_n.stored (i * 6) (.int .i32 x)).1
  rw [cellsC_rune ds i hi x] at h2
  unfold OwnC
  rw [List.length_set, ← hl]
  exact h2
end Go.Proofs.YtipofokinjkclaaDoor


/- What Full and Encode (16) answer, the code's and the reference's. Conditions: the screens' parts can be read; the tables lie where they were laid. -/
namespace Go.Proofs.YtipofokinjkclaaDoor
open Go Go.RowKit Go.Lib

theorem Fit16.cen {s : ScD} {C R : Nat} (h : Fit16 s C R) (hc : ∀ d ∈ s.cells, CeOk d) : ∀ d ∈ s.cells, CeN d := fun d hd => by
  have h1 := h.rune d hd
  obtain ⟨_, _, h2, h3⟩ := h.ce d hd
  obtain ⟨_, _, ⟨g1, _⟩, ⟨g2, _⟩, ⟨g3, g4⟩, _⟩ := hc d hd
  exact ⟨by omega, h1.2, g1, by omega, g2, by omega, g3, g4⟩
theorem Fit16.fits {s : ScD} {C R : Nat} (h : Fit16 s C R) : fitsI (C : Int) (R : Int) = true := by
  have h1 := h.c1; have h2 := h.c2; have h3 := h.r1; have h4 := h.r2
  simp only [fitsI, Bool.and_eq_true, decide_eq_true_eq]
  omega
theorem blank_sound16 {C R : Nat} (h : fitsI (C : Int) (R : Int) = true) : Sound (blankS C R) := by
  have hn := fitsI_nat h
  obtain ⟨C', R', e1, e2, c1, c2, r1, r2⟩ := hn
  have hm := Nat.mul_le_mul (show C ≤ 80 by omega) (show R ≤ 24 by omega)
  have e : ((C : Int) * (R : Int)).toNat = C * R := by rw [← Int.natCast_mul]; rfl
  have mem : ∀ d ∈ (blankS C R).cells, d = blankD := fun d hd => List.eq_of_mem_replicate hd
  exact ⟨by show (List.replicate ((C : Int) * (R : Int)).toNat blankD).length ≤ 60000; rw [List.length_replicate, e]; omega, Nat.zero_le _, fun u hu => (by cases hu), fun d hd => by rw [mem d hd]; decide, Nat.zero_le _, fun d hd => by rw [mem d hd]; decide⟩
theorem blank_read16 {w : World} {B C R N c : Nat} {A : Option Addr} (hf : fitsI (C : Int) (R : Int) = true) (hN : N = C * R) (h : OwnC w B (.slice A N c) (List.replicate N blankD)) : ScR w (blankS C R) A N c none 0 0 := by
  have e : ((C : Int) * (R : Int)).toNat = N := by rw [← Int.natCast_mul, hN]; rfl
  have h2 : OwnC w B (.slice A N c) (blankS C R).cells := by
    show OwnC w B (.slice A N c) (List.replicate ((C : Int) * (R : Int)).toNat blankD)
    rw [e]; exact h
  exact (blank_sound16 hf).read h2 (World.ownsRow_nil _ 0 _ _)
set_option maxRecDepth 100000 in
set_option maxHeartbeats 16000000 in
theorem full16_c (b : ScD) (A : Option Addr) (n c : Nat) (L : Option Addr) (m cm : Nat) (w : World) (hs : ScR w b A n c L m cm) (hc : ∀ d ∈ b.cells, CeOk d) (hU : TabU w) :
    Calls Tryd.prog 22 #[.agg (scC b A n c L m cm)] w fun e w' => ∃ v, e = .returned (.tuple #[v, .int .i64 ((full16 b).2 : Int)]) ∧ OwnB w' w.heap.size v (full16 b).1 ∧ Below w.heap.size w w' := by
  obtain ⟨X, eX⟩ : ∃ X, X = scC b A n c L m cm := ⟨_, rfl⟩
  rw [← eX]
  obtain ⟨W0, eW0⟩ : ∃ W0, W0 = w.alloc (.cells X 25) := ⟨_, rfl⟩
  obtain ⟨p, ep⟩ : ∃ p, p = w.heap.size := ⟨_, rfl⟩
  have hb0 : Below w.heap.size w W0 := by rw [eW0]; exact (Below.refl _ _).alloc (Nat.le_refl _) _
  have HP0 : Hid (ScB W0 p b A n c L m cm) := Lib.hid (by rw [eW0, ep, eX]; exact heap_alloc_new _ _)
  have EW0 := Lib.hid eW0
  have EP := Lib.hid ep
  have HB0 := Lib.hid hb0
  have HR0 := Lib.hid (hs.below hb0)
  have HU0 := Lib.hid (hU.next hb0)
  have HCO := Lib.hid hc
  obtain ⟨Z, eZ⟩ : ∃ Z, full16 b = Z := ⟨_, rfl⟩
  rw [eZ]
  unfold full16 at eZ
  clear eX eW0 ep hb0 hs hU hc
  obtain ⟨b1, e1⟩ : ∃ t, fit16 b = t := ⟨_, rfl⟩
  rw [e1] at eZ
  have E1 := Lib.hid e1
  have EZ := Lib.hid eZ
  clear eZ e1
  go_enter Tryd.func22, Tryd.ntmps22
  go_upto_region 1 with (fail)
  rw [← EW0.out, ← EP.out]
  cases b1
  · go_wp2_with (first
      | (refine wpList_load_row rfl 25 (.tmp 1) rfl p rfl 25 _ (0, 0) _ HP0.out Tryd.underlying25 rfl (info_sc.trans rfl) ?_)
      | (go_at_call 25; (refine (fits16_c b A n c L m cm W0 HR0.out  HU0.out).mono ?_); rintro _ w1 ⟨rfl, hb1⟩; rw [E1.out]; have HB1 := Lib.hid (HB0.out.trans (hb1.mono HB0.out.size)); clear hb1))
    go_ret2
    exact ⟨_, by rw [← EZ.out] <;> rfl, by rw [← EZ.out]; exact Own.nil_ _ _ _, HB1.out⟩
  · obtain ⟨C, R, hf⟩ := fit16_of E1.out
    have HF := Lib.hid hf
    have HFI := Lib.hid hf.fits
    obtain ⟨N, eN⟩ : ∃ N, N = C * R := ⟨_, rfl⟩
    have HN := Lib.hid eN
    have HZ : Hid ((layB (blankS C R) b 4, 0) = Z) := Lib.hid (by rw [← EZ.out, hf.c, hf.r]; rfl)
    clear hf eN
    go_upto_region 4 with (first
      | (refine wpList_load_row rfl 25 (.tmp 1) rfl p rfl 25 _ (0, 0) _ HP0.out Tryd.underlying25 rfl (info_sc.trans rfl) ?_)
      | (go_at_call 25; (refine (fits16_c b A n c L m cm W0 HR0.out  HU0.out).mono ?_); rintro _ w1 ⟨rfl, hb1⟩; rw [E1.out]; have HB1 := Lib.hid (HB0.out.trans (hb1.mono HB0.out.size)); have HR1 := Lib.hid (HR0.out.below hb1); have HP1 := Lib.hid (HP0.out.below hb1); have x0 : w1.cell? ⟨p, 0, none⟩ = some (.int .i64 (C : Int)) := by { rw [← HF.out.c]; exact HP1.out.nine.1 }; have x1 : w1.cell? ⟨p, 1, none⟩ = some (.int .i64 (R : Int)) := by { rw [← HF.out.r]; exact HP1.out.nine.2.1 }; clear hb1)
      | (go_at_call 34; (refine (projBlank_c C R N w1 HFI.out HN.out).mono ?_); rintro _ w2 ⟨A2, c2, rfl, ho2, hb2⟩; have HS2 := Lib.hid (blank_read16 HFI.out HN.out ho2); have HB2 := Lib.hid (HB1.out.trans (hb2.mono HB1.out.size)); have HR2 := Lib.hid (HR1.out.below hb2); have HP2 := Lib.hid (HP1.out.below hb2); clear ho2 hb2)
      | (refine wpList_store_rowTo rfl 25 (.tmp 4) (.tmp 15) rfl rfl w2.heap.size (scC (blankS C R) A2 N c2 none 0 0) rfl rfl 25 _ (heap_alloc_new w2 _) (info_sc.trans rfl) rfl (sc_one _ _ _ _ _ _ _) ?_))
    generalize eX : World.alloc w2 _ = X3
    have hx : Below w2.heap.size w2 X3 := by rw [← eX]; exact (Below.refl _ _).alloc (Nat.le_refl _) _
    obtain ⟨old, hq2⟩ : ∃ old, X3.heap[w2.heap.size]? = some (.cells old 25 (0, 0)) := ⟨_, by rw [← eX]; exact heap_alloc_new _ _⟩
    obtain ⟨g, eg⟩ : ∃ g, g = w2.heap.size := ⟨_, rfl⟩
    obtain ⟨W3, eW3⟩ : ∃ W, W = X3.setRow w2.heap.size (scC (blankS C R) A2 N c2 none 0 0) := ⟨_, rfl⟩
    rw [← eW3, ← eg]
    have HG3 : Hid (ScB W3 g (blankS C R) A2 N c2 none 0 0) := Lib.hid (by rw [eW3, eg]; exact setRow_heap _ _ _ _ _ _ hq2)
    have hb3 : Below w2.heap.size w2 W3 := by rw [eW3]; exact below_setRow hx (Nat.le_refl _) _
    have HB3 := Lib.hid (HB2.out.trans (hb3.mono HB2.out.size))
    have HS3 := Lib.hid (HS2.out.below hb3)
    have HR3 := Lib.hid (HR2.out.below hb3)
    have HP3 := Lib.hid (HP2.out.below hb3)
    clear eX hx hq2 eg eW3 hb3 x0 x1
    go_wp2_with (first
      | (refine wpList_load_row rfl 25 (.tmp 4) rfl g rfl 25 _ (0, 0) _ HG3.out Tryd.underlying25 rfl (info_sc.trans rfl) ?_)
      | (refine wpList_load_row rfl 25 (.tmp 1) rfl p rfl 25 _ (0, 0) _ HP3.out Tryd.underlying25 rfl (info_sc.trans rfl) ?_)
      | (go_at_call 48; (refine (lay_c (blankS C R) b A2 N c2 none 0 0 A n c L m cm C R 4 W3 HS3.out HR3.out HF.out (HF.out.cen HCO.out) (by rw [HS3.out.hn, HN.out]) (by decide)).mono ?_); rintro _ w4 ⟨v4, rfl, ho4, hb4⟩; have HO4 := Lib.hid (Own.low ho4 HB3.out.size); have HB4 := Lib.hid (HB3.out.trans (hb4.mono HB3.out.size)); clear ho4 hb4))
    go_ret2
    exact ⟨_, by rw [← HZ.out] <;> rfl, by rw [← HZ.out]; exact HO4.out, HB4.out⟩
set_option maxRecDepth 100000 in
set_option maxHeartbeats 16000000 in
theorem enc16_c (a b : ScD) (A1 : Option Addr) (n1 c1 : Nat) (L1 : Option Addr) (m1 k1 : Nat) (A : Option Addr) (n c : Nat) (L : Option Addr) (m cm : Nat) (w : World) (ha : ScR w a A1 n1 c1 L1 m1 k1) (hs : ScR w b A n c L m cm) (hc : ∀ d ∈ b.cells, CeOk d) (hU : TabU w) :
    Calls Tryd.prog 20 #[.agg (scC a A1 n1 c1 L1 m1 k1), .agg (scC b A n c L m cm)] w fun e w' => ∃ v, e = .returned (.tuple #[v, .int .i64 ((enc16 a b).2 : Int)]) ∧ OwnB w' w.heap.size v (enc16 a b).1 ∧ Below w.heap.size w w' := by
  obtain ⟨X, eX⟩ : ∃ X, X = scC a A1 n1 c1 L1 m1 k1 := ⟨_, rfl⟩
  obtain ⟨Y, eY⟩ : ∃ Y, Y = scC b A n c L m cm := ⟨_, rfl⟩
  rw [← eX, ← eY]
  obtain ⟨W0, eW0⟩ : ∃ W0, W0 = (w.alloc (.cells X 25)).alloc (.cells Y 25) := ⟨_, rfl⟩
  obtain ⟨p, ep⟩ : ∃ p, p = w.heap.size := ⟨_, rfl⟩
  obtain ⟨q, eq⟩ : ∃ q, q = w.heap.size + 1 := ⟨_, rfl⟩
  have hb0 : Below w.heap.size w W0 := by rw [eW0]; exact ((Below.refl _ _).alloc (Nat.le_refl _) _).alloc (by simp) _
  have HP0 : Hid (ScB W0 p a A1 n1 c1 L1 m1 k1) := Lib.hid (by rw [eW0, ep, eX]; exact (Below.heap_alloc _ _ _ (by simp)).trans (heap_alloc_new _ _))
  have HQ0 : Hid (ScB W0 q b A n c L m cm) := Lib.hid (by rw [eW0, eq, eY]; exact heap_alloc2_new _ _ _)
  have EW0 := Lib.hid eW0
  have EP := Lib.hid ep
  have EQ := Lib.hid eq
  have HB0 := Lib.hid hb0
  have HA0 := Lib.hid (ha.below hb0)
  have HR0 := Lib.hid (hs.below hb0)
  have HU0 := Lib.hid (hU.next hb0)
  have HCO := Lib.hid hc
  obtain ⟨Z, eZ⟩ : ∃ Z, enc16 a b = Z := ⟨_, rfl⟩
  rw [eZ]
  unfold enc16 at eZ
  clear eX eY eW0 ep eq hb0 ha hs hU hc
  obtain ⟨b1, e1⟩ : ∃ t, fit16 a = t := ⟨_, rfl⟩
  obtain ⟨b2, e2⟩ : ∃ t, fit16 b = t := ⟨_, rfl⟩
  rw [e1, e2] at eZ
  have E1 := Lib.hid e1
  have E2 := Lib.hid e2
  have EZ := Lib.hid eZ
  clear eZ e1 e2
  go_enter Tryd.func20, Tryd.ntmps20
  go_upto_region 1 with (fail)
  rw [← EW0.out, ← EQ.out, ← EP.out]
  cases b1
  · go_wp2_with (first
      | (refine wpList_load_row rfl 25 (.tmp 2) rfl p rfl 25 _ (0, 0) _ HP0.out Tryd.underlying25 rfl (info_sc.trans rfl) ?_)
      | (go_at_call 25; (refine (fits16_c a A1 n1 c1 L1 m1 k1 W0 HA0.out  HU0.out).mono ?_); rintro _ w1 ⟨rfl, hb1⟩; rw [E1.out]; have HB1 := Lib.hid (HB0.out.trans (hb1.mono HB0.out.size)); clear hb1))
    go_ret2
    exact ⟨_, by rw [← EZ.out] <;> rfl, by rw [← EZ.out]; exact Own.nil_ _ _ _, HB1.out⟩
  · cases b2
    · go_wp2_with (first
        | (refine wpList_load_row rfl 25 (.tmp 2) rfl p rfl 25 _ (0, 0) _ HP0.out Tryd.underlying25 rfl (info_sc.trans rfl) ?_)
        | ((with_reducible refine wpList_openG (o := ⟨some 11, _, _, _, _, _⟩) rfl ?_); (refine wpList_load_row rfl 25 (.tmp 3) rfl q rfl 25 _ (0, 0) _ HQ1.out Tryd.underlying25 rfl (info_sc.trans rfl) ?_))
        | (go_at_call 25; (refine (fits16_c b A n c L m cm w1 HR1.out  HU1.out).mono ?_); rintro _ w2 ⟨rfl, hb2⟩; rw [E2.out]; have HB2 := Lib.hid (HB1.out.trans (hb2.mono HB1.out.size)); clear hb2)
        | (go_at_call 25; (refine (fits16_c a A1 n1 c1 L1 m1 k1 W0 HA0.out  HU0.out).mono ?_); rintro _ w1 ⟨rfl, hb1⟩; rw [E1.out]; have HB1 := Lib.hid (HB0.out.trans (hb1.mono HB0.out.size)); have HR1 := Lib.hid (HR0.out.below hb1); have HQ1 := Lib.hid (HQ0.out.below hb1); have HU1 := Lib.hid (HU0.out.next hb1); clear hb1))
      go_ret2
      exact ⟨_, by rw [← EZ.out] <;> rfl, by rw [← EZ.out]; exact Own.nil_ _ _ _, HB2.out⟩
    · obtain ⟨C1, R1, hf1⟩ := fit16_of E1.out
      obtain ⟨C, R, hf⟩ := fit16_of E2.out
      have HF1 := Lib.hid hf1
      have HF := Lib.hid hf
      clear hf1 hf
      go_upto_if 6 with (first
        | (refine wpList_load_row rfl 25 (.tmp 2) rfl p rfl 25 _ (0, 0) _ HP0.out Tryd.underlying25 rfl (info_sc.trans rfl) ?_)
        | ((with_reducible refine wpList_openG (o := ⟨some 11, _, _, _, _, _⟩) rfl ?_); (refine wpList_load_row rfl 25 (.tmp 3) rfl q rfl 25 _ (0, 0) _ HQ1.out Tryd.underlying25 rfl (info_sc.trans rfl) ?_))
        | (go_at_call 25; (refine (fits16_c b A n c L m cm w1 HR1.out  HU1.out).mono ?_); rintro _ w2 ⟨rfl, hb2⟩; rw [E2.out]; have HB2 := Lib.hid (HB1.out.trans (hb2.mono HB1.out.size)); have HR2 := Lib.hid (HR1.out.below hb2); have HA2 := Lib.hid (HA1.out.below hb2); have HQ2 := Lib.hid (HQ1.out.below hb2); have HP2 := Lib.hid (HP1.out.below hb2); have HU2 := Lib.hid (HU1.out.next hb2); clear hb2)
        | (go_at_call 25; (refine (fits16_c a A1 n1 c1 L1 m1 k1 W0 HA0.out  HU0.out).mono ?_); rintro _ w1 ⟨rfl, hb1⟩; rw [E1.out]; have HB1 := Lib.hid (HB0.out.trans (hb1.mono HB0.out.size)); have HR1 := Lib.hid (HR0.out.below hb1); have HA1 := Lib.hid (HA0.out.below hb1); have HQ1 := Lib.hid (HQ0.out.below hb1); have HP1 := Lib.hid (HP0.out.below hb1); have HU1 := Lib.hid (HU0.out.next hb1); clear hb1))
      have x0 : w2.cell? ⟨p, 0, none⟩ = some (.int .i64 (C1 : Int)) := by rw [← HF1.out.c]; exact HP2.out.nine.1
      have x1 : w2.cell? ⟨p, 1, none⟩ = some (.int .i64 (R1 : Int)) := by rw [← HF1.out.r]; exact HP2.out.nine.2.1
      have y0 : w2.cell? ⟨q, 0, none⟩ = some (.int .i64 (C : Int)) := by rw [← HF.out.c]; exact HQ2.out.nine.1
      have y1 : w2.cell? ⟨q, 1, none⟩ = some (.int .i64 (R : Int)) := by rw [← HF.out.r]; exact HQ2.out.nine.2.1
      by_cases hC : C1 = C
      · have hC' : ((C1 : Int) == (C : Int)) = true := by rw [hC]; exact beq_self_eq_true _
        have hCn : ((C1 : Int) != (C : Int)) = false := by rw [bne, hC']; rfl
        by_cases hR : R1 = R
        · have hR' : ((R1 : Int) == (R : Int)) = true := by rw [hR]; exact beq_self_eq_true _
          have hRn : ((R1 : Int) != (R : Int)) = false := by rw [bne, hR']; rfl
          have HZ : Hid ((layB a b 0, 0) = Z) := Lib.hid (by rw [← EZ.out, HF1.out.c, HF1.out.r, HF.out.c, HF.out.r, hC', hR']; rfl)
          have HAL : Hid (a.cells.length = C * R) := Lib.hid (by rw [HF1.out.len, hC, hR])
          clear hC hR
          go_wp2_with (first
            | (refine wpList_load_row rfl 25 (.tmp 2) rfl p rfl 25 _ (0, 0) _ HP2.out Tryd.underlying25 rfl (info_sc.trans rfl) ?_)
            | (refine wpList_load_row rfl 25 (.tmp 3) rfl q rfl 25 _ (0, 0) _ HQ2.out Tryd.underlying25 rfl (info_sc.trans rfl) ?_)
            | (go_at_call 48; (refine (lay_c a b A1 n1 c1 L1 m1 k1 A n c L m cm C R 0 w2 HA2.out HR2.out HF.out (HF.out.cen HCO.out) HAL.out (by decide)).mono ?_); rintro _ w4 ⟨v4, rfl, ho4, hb4⟩; have HO4 := Lib.hid (Own.low ho4 HB2.out.size); have HB4 := Lib.hid (HB2.out.trans (hb4.mono HB2.out.size)); clear ho4 hb4))
          go_ret2
          exact ⟨_, by rw [← HZ.out] <;> rfl, by rw [← HZ.out]; exact HO4.out, HB4.out⟩
        · have hR' : ((R1 : Int) == (R : Int)) = false := by rw [beq_eq_false_iff_ne]; omega
          have hRn : ((R1 : Int) != (R : Int)) = true := by rw [bne, hR']; rfl
          have HZ : Hid (full16 b = Z) := Lib.hid (by rw [← EZ.out, HF1.out.c, HF1.out.r, HF.out.c, HF.out.r, hC', hR']; rfl)
          clear hC hR
          go_wp2_with (first
            | (refine wpList_load_row rfl 25 (.tmp 3) rfl q rfl 25 _ (0, 0) _ HQ2.out Tryd.underlying25 rfl (info_sc.trans rfl) ?_)
            | (go_at_call 22; (refine (full16_c b A n c L m cm w2 HR2.out HCO.out  HU2.out).mono ?_); rintro _ w4 ⟨v4, rfl, ho4, hb4⟩; have HO4 := Lib.hid (Own.low ho4 HB2.out.size); have HB4 := Lib.hid (HB2.out.trans (hb4.mono HB2.out.size)); clear ho4 hb4))
          go_ret2
          exact ⟨_, by rw [← HZ.out] <;> rfl, by rw [← HZ.out]; exact HO4.out, HB4.out⟩
      · have hC' : ((C1 : Int) == (C : Int)) = false := by rw [beq_eq_false_iff_ne]; omega
        have hCn : ((C1 : Int) != (C : Int)) = true := by rw [bne, hC']; rfl
        have HZ : Hid (full16 b = Z) := Lib.hid (by rw [← EZ.out, HF1.out.c, HF1.out.r, HF.out.c, HF.out.r, hC']; rfl)
        clear hC
        go_wp2_with (first
          | (refine wpList_load_row rfl 25 (.tmp 3) rfl q rfl 25 _ (0, 0) _ HQ2.out Tryd.underlying25 rfl (info_sc.trans rfl) ?_)
          | (go_at_call 22; (refine (full16_c b A n c L m cm w2 HR2.out HCO.out  HU2.out).mono ?_); rintro _ w4 ⟨v4, rfl, ho4, hb4⟩; have HO4 := Lib.hid (Own.low ho4 HB2.out.size); have HB4 := Lib.hid (HB2.out.trans (hb4.mono HB2.out.size)); clear ho4 hb4))
        go_ret2
        exact ⟨_, by rw [← HZ.out] <;> rfl, by rw [← HZ.out]; exact HO4.out, HB4.out⟩
end Go.Proofs.YtipofokinjkclaaDoor


/- Tools for the walk of rows.Apply: the state behind the first numbers; the title's part; bits; texts out of bytes. Conditions: none. -/
namespace Go.Proofs.YtipofokinjkclaaDoor
open Go Go.RowKit Go.Lib

theorem Stays.setRow (S : Nat → Prop) (w : World) (g : Nat) (vs : Array Value) (h : S g) : Stays S w (w.setRow g vs) := by
  have hb := below_setRow (B := 0) (Below.refl 0 w) (Nat.zero_le g) vs
  exact ⟨hb.os, hb.tape, hb.output, hb.size, fun k _ hs => setRow_other w g k vs (fun e => hs (e ▸ h))⟩
theorem own_at2 {w : World} {B n c : Nat} {A : Option Addr} {ds : List CeD} (h : OwnC w B (.slice A n c) ds) (h0 : 0 < ds.length) : ∃ b, A = some ⟨b, 0, none⟩ := by
  obtain ⟨h1, _, h2, h3, h4⟩ := h.parts
  cases hA : A with
  | none =>
    have := h4 hA
    omega
  | some a =>
    obtain ⟨_, _, g1, g2⟩ := h3 a hA
    obtain ⟨bb, oo, ss⟩ := a
    cases g1; cases g2
    exact ⟨bb, rfl⟩
theorem and_bits {f : Nat} (h : f ≤ 7) : (bits BinOp.and .i64 (f : Int) 4 == 0) = decide (f < 4) ∧ (bits BinOp.and .i64 (f : Int) 1 != 0) = (f % 2 == 1) ∧ (bits BinOp.and .i64 (f : Int) 2 != 0) = decide (f / 2 % 2 = 1) := by
  have h8 : f = 0 ∨ f = 1 ∨ f = 2 ∨ f = 3 ∨ f = 4 ∨ f = 5 ∨ f = 6 ∨ f = 7 := by omega
  rcases h8 with rfl | rfl | rfl | rfl | rfl | rfl | rfl | rfl <;> exact ⟨by kernel_rfl, by kernel_rfl, by kernel_rfl⟩
theorem strOf_bytes (bs : List UInt8) : strOfNums (bs.map fun x => (x.toNat : Int)) = ⟨bs.toArray⟩ := by
  unfold strOfNums
  rw [List.map_map]
  have e : ((fun n : Int => UInt8.ofNat n.toNat) ∘ fun x : UInt8 => (x.toNat : Int)) = id := by
    funext x
    simp
  rw [e, List.map_id]
/-- Bytes as a text. -/
theorem conv_text (w : World) (A : Option Addr) (c n : Nat) (bs : List UInt8) (hn : bs.length = n) (hr : Rd w A (bs.map bv)) (hA : ∀ a, A = some a → a.off = 0 ∧ a.spot = none) : (convert 29 9 (.slice A n c)).run Tryd.prog w = .ok (.string ⟨bs.toArray⟩) w := by
  subst hn
  cases A with
  | none =>
    have h0 : bs = [] := by
      rcases hr with h | ⟨b, off, h, _⟩
      · exact List.map_eq_nil_iff.1 h
      · cases h
    subst h0
    exact run_convert_bytes_nil w 29 5 Tryd.underlying29 Tryd.underlying5 0 c 9 Tryd.underlying9
  | some a =>
    obtain ⟨b, off, spot⟩ := a
    obtain ⟨h1, h2⟩ := hA _ rfl
    simp only at h1 h2
    subst h1 h2
    have e := run_convert_bytes_arg (P := Tryd.prog) w 29 5 Tryd.underlying29 Tryd.underlying5 b 0 bs.length c (bs.map fun x => (x.toNat : Int)) (by rw [List.length_map]) (fun i hi => by
      rcases hr with h | ⟨b', off, e, hb, h⟩
      · rw [List.map_eq_nil_iff.1 h] at hi; exact absurd hi (Nat.not_lt_zero _)
      · injection e with e
        injection e with e1 e2
        subst e1 e2
        rw [h i (by rw [List.length_map]; exact hi), List.getElem_map]
        congr 1
        unfold bv List.getD
        rw [List.getElem?_map, List.getElem?_eq_getElem hi]
        rfl) 9 Tryd.underlying9
    rw [e, strOf_bytes]
/-- The state of Apply behind its first numbers: the answer's block q, the reader's pointer b6, the reader r, the screen's block g, its cells gs. -/
structure ApS (w : World) (q b6 r g gs : Nat) (gA : Option Addr) (C R : Nat) (s : ScD) (n c : Nat) (L : Option Addr) (d : Nat) (st : RS) (wx : World) : Prop where
  bel : Below w.heap.size w wx
  hq : ScB wx q scZ none 0 0 none 0 0
  hc : wx.heap[b6]? = some (.cells #[.pointer (some ⟨r, 0, none⟩)] 92 (0, 0))
  rd : Rdr wx r st
  ga : st.gA = gA
  sg : ScB wx g s (some ⟨gs, 0, none⟩) n c L 0 d
  own : OwnC wx w.heap.size (.slice (some ⟨gs, 0, none⟩) n c) s.cells
  ln : n = C * R
  gne : gs ≠ g
  ord : w.heap.size ≤ q ∧ q < r ∧ r < b6 ∧ b6 < g ∧ b6 < gs
  gaf : ∀ a, gA = some a → q < a.block ∧ a.block < b6
  fit : 1 ≤ C ∧ C ≤ 80 ∧ 1 ≤ R ∧ R ≤ 24
  cc : s.cols = (C : Int)
  rr : s.rows = (R : Int)
  lk : s.links = []
  ok : okLn s.cells
  tl : s.title.size ≤ 1000000
section
variable {w wx : World} {q b6 r g gs : Nat} {gA : Option Addr} {C R : Nat} {s : ScD} {n c : Nat} {L : Option Addr} {d : Nat} {st : RS}
theorem ApS.cell (h : ApS w q b6 r g gs gA C R s n c L d st wx) : wx.cell? ⟨b6, 0, none⟩ = some (.pointer (some ⟨r, 0, none⟩)) := heap_cell h.hc 0
/-- The cursor and whether it is hidden. -/
theorem ApS.xyh (h : ApS w q b6 r g gs gA C R s n c L d st wx) (x y : Int) (b : Bool) :
    ApS w q b6 r g gs gA C R ⟨s.cols, s.rows, s.cells, x, y, b, s.mouse, s.title, s.links⟩ n c L d st (((wx.setCell ⟨g, 3, none⟩ (.int .i64 x)).setCell ⟨g, 4, none⟩ (.int .i64 y)).setCell ⟨g, 5, none⟩ (.bool b)) := by
  have ho := h.ord
  have hg := h.gne
  have k : Stays (fun k => k = g) wx (((wx.setCell ⟨g, 3, none⟩ (.int .i64 x)).setCell ⟨g, 4, none⟩ (.int .i64 y)).setCell ⟨g, 5, none⟩ (.bool b)) := ((Stays.set (fun k => k = g) wx ⟨g, 3, none⟩ _ rfl).trans (Stays.set (fun k => k = g) _ ⟨g, 4, none⟩ _ rfl)).trans (Stays.set (fun k => k = g) _ ⟨g, 5, none⟩ _ rfl)
  have h1 := heap_set (i := 3) (u := .int .i64 x) h.sg
  have h2 := heap_set (i := 4) (u := .int .i64 y) h1
  have h3 := heap_set (i := 5) (u := .bool b) h2
  exact ⟨h.bel.trans (k.below h.bel.size (fun j hj e => by omega)), k.scB h.hq (by omega), (k.block b6 (heap_lt h.hc) (by omega)).trans h.hc, k.rdr h.rd (by omega) (fun a ha => by have := h.gaf a (h.ga ▸ ha); omega), h.ga, h3, k.keepC h.own (fun j ej => by injection ej with ej; have : gs = j := ej; omega), h.ln, h.gne, h.ord, h.gaf, h.fit, h.cc, h.rr, h.lk, h.ok, h.tl⟩
/-- A title, behind what the reader has read. -/
theorem ApS.title (h : ApS w q b6 r g gs gA C R s n c L d st wx) {wy : World} {st2 : RS} (hk : Stays (fun k => k = r) wx wy) (hr : Rdr wy r st2) (hga : st2.gA = gA) (t : ByteArray) (ht : t.size ≤ 1000000) :
    ApS w q b6 r g gs gA C R ⟨s.cols, s.rows, s.cells, s.x, s.y, s.hid, s.mouse, t, s.links⟩ n c L d st2 (wy.setCell ⟨g, 7, none⟩ (.string t)) := by
  have ho := h.ord
  have hg := h.gne
  have k2 : Stays (fun k => k = g) wy (wy.setCell ⟨g, 7, none⟩ (.string t)) := Stays.set _ wy ⟨g, 7, none⟩ _ rfl
  have h1 := heap_set (i := 7) (u := .string t) (hk.scB h.sg (by omega))
  have hb : Below w.heap.size w wy := h.bel.trans (hk.below h.bel.size (fun j hj e => by omega))
  have hown := hk.keepC h.own (fun j ej => by injection ej with ej; have : gs = j := ej; omega)
  exact ⟨hb.trans (k2.below hb.size (fun j hj e => by omega)), k2.scB (hk.scB h.hq (by omega)) (by omega), (k2.block b6 (heap_lt ((hk.block b6 (heap_lt h.hc) (by omega)).trans h.hc)) (by omega)).trans ((hk.block b6 (heap_lt h.hc) (by omega)).trans h.hc), k2.rdr hr (by omega) (fun a ha => by have := h.gaf a (hga ▸ ha); omega), hga, h1, k2.keepC hown (fun j ej => by injection ej with ej; have : gs = j := ej; omega), h.ln, h.gne, h.ord, h.gaf, h.fit, h.cc, h.rr, h.lk, h.ok, ht⟩
end
/-- The title read, by the reader. -/
theorem tit_read (s : ScD) (C R f : Nat) (t : ByteArray) (st : RS) (hs : st.err = 0) (hat : st.at_ ≤ st.b.length) (hf : f / 2 % 2 = 1) :
    (match titP f t st.rest with | none => (scZ, 2) | some (t', l2) => end16 ⟨s.cols, s.rows, s.cells, s.x, s.y, s.hid, s.mouse, t', s.links⟩ (readP C R l2 s.cells)) =
    end16 ⟨s.cols, s.rows, s.cells, s.x, s.y, s.hid, s.mouse, ⟨(takeR (numR st 1).2 ((numR st 1).1 : Int)).1.toArray⟩, s.links⟩ (readF C R (takeR (numR st 1).2 ((numR st 1).1 : Int)).2 s.cells) ∧
    (takeR (numR st 1).2 ((numR st 1).1 : Int)).1.length ≤ 255 ∧ (takeR (numR st 1).2 ((numR st 1).1 : Int)).2.gA = st.gA := by
  have tg : ∀ (x : RS) (k : Int), (takeR x k).2.gA = x.gA := fun x k => by
    unfold takeR
    split
    · rfl
    · split
      · rfl
      · split <;> rfl
  cases hr : st.rest with
  | nil =>
    rw [num1_nil hs hr]
    simp only []
    have e : takeR { st with err := 2 } ((0 : Nat) : Int) = ([], { st with err := 2 }) := by rw [takeR, if_pos (by simp)]
    rw [e]
    refine ⟨?_, by simp, rfl⟩
    unfold titP
    rw [if_pos hf]
    simp only []
    rw [readF, if_neg (by simp), end16, if_neg (by simp)]
  | cons k l =>
    obtain ⟨s1, e1, a1, b1, g1, _⟩ := num1_cons hs hr
    have hl0 := rest_len st
    rw [hr, List.length_cons] at hl0
    have e0 := num_ok (s := st) (k := 1) hs (by decide) (by decide) (by rw [hr, List.length_cons]; omega)
    rw [e1] at e0
    have hs1 : s1 = { st with at_ := st.at_ + (1 : Int).toNat } := (Prod.mk.inj e0).2
    have hat1 : s1.at_ ≤ s1.b.length := by rw [hs1]; show st.at_ + 1 ≤ st.b.length; omega
    clear e0 hs1
    rw [e1]
    simp only []
    have hl := rest_len s1
    rw [b1] at hl
    unfold titP
    rw [if_pos hf]
    simp only []
    by_cases hlt : l.length < k.toNat
    · have e : takeR s1 (k.toNat : Int) = ([], { s1 with err := 2 }) := by rw [takeR, if_neg (by omega), if_neg (by omega), if_pos (by omega)]
      rw [e, if_pos hlt]
      refine ⟨?_, by simp, g1⟩
      simp only []
      rw [readF, if_neg (by simp), end16, if_neg (by simp)]
    · have e : takeR s1 (k.toNat : Int) = (l.take k.toNat, { s1 with at_ := s1.at_ + k.toNat }) := by
        rw [takeR, if_neg (by omega), if_neg (by omega), if_neg (by omega)]
        simp only [Int.toNat_natCast]
        rw [← b1]; rfl
      rw [e, if_neg hlt]
      have hk := UInt8.toNat_lt k
      refine ⟨?_, by simp only [List.length_take]; omega, g1⟩
      simp only []
      rw [readF, if_pos a1, rest_step, b1]
/-- No title told. -/
theorem tit_none (s : ScD) (C R f : Nat) (st : RS) (hs : st.err = 0) (hf : ¬ f / 2 % 2 = 1) :
    (match titP f s.title st.rest with | none => (scZ, 2) | some (t', l2) => end16 ⟨s.cols, s.rows, s.cells, s.x, s.y, s.hid, s.mouse, t', s.links⟩ (readP C R l2 s.cells)) = end16 s (readF C R st s.cells) := by
  unfold titP
  rw [if_neg hf]
  simp only []
  rw [readF, if_pos hs]
end Go.Proofs.YtipofokinjkclaaDoor

