/- Parts one behind the other: What the reference's cellBytes answers: nine bytes of a cell; What the reference's diff (16) answers: the diff by rows; How a law's arguments are opened: integers, bools, strings, slices of bytes; How a law's argument is opened: a screen by value; slices of cells and of texts. Conditions: as told at each. -/
import Derived.Test.YtndjggabdajbfaaGreatDoorPG15
import Derived.Test.YtndjggabdajbfaaGreatDoorPG8
import Derived.Deep.DeepCutAuto
import Derived.Test.YtndjggabdajbfaaGreatDoorPG1
import Derived.SizedLaws
import Derived.Deep.Slices
import Derived.Lib.SmallJoins
import Derived.Test.YtndjggabdajbfaaGreatDoorPG11
import Derived.Deep.Fields

set_option linter.unusedVariables false
set_option linter.unusedSimpArgs false
/- What the reference's cellBytes answers: nine bytes of a cell. Conditions: numbers that fit. -/
namespace Go.Proofs.YtndjggabdajbfaaGreatDoor
open Go Go.RowKit Go.Lib

theorem u64_small {n : Nat} (h : n ≤ 4294967295) : U64 n := by unfold U64; omega
end Go.Proofs.YtndjggabdajbfaaGreatDoor



/- What the reference's diff (16) answers: the diff by rows. Conditions: the second screen fits, the first has as many cells. -/
namespace Go.Proofs.YtndjggabdajbfaaGreatDoor
open Go Go.RowKit Go.Lib

end Go.Proofs.YtndjggabdajbfaaGreatDoor



/- How a law's arguments are opened: integers, bools, strings, slices of bytes. Conditions: none. -/
namespace Go.Proofs.YtndjggabdajbfaaGreatDoor
open Go Go.RowKit Go.ChangeShapes Go.WideShapes

/-- The values of a slice of bytes. -/
theorem rd_of_ints {W : World} {a : Addr} {zs : List Int} {len : Nat} (hl : len ≤ zs.length) (hcell : ∀ i, i < zs.length → W.cell? (a.add i) = some (.int .u8 (zs.getD i 0))) (hwz : ∀ n ∈ zs, (Lit.int .u8 n).wf = true) :
    ∃ bs : List UInt8, bs.length = len ∧ Rd W (some a) (bs.map bv) := by
  refine ⟨(zs.take len).map (fun z => UInt8.ofNat z.toNat), by simp; omega, ?_⟩
  rcases Nat.eq_zero_or_pos len with h0 | h0
  · subst h0; exact .inl (by simp)
  · obtain ⟨b, off, spot⟩ := a
    have h1 := hcell 0 (by omega)
    have hs : spot = none := by simpa [Addr.add] using World.cell?_spot h1
    subst hs
    refine .inr ⟨b, off, rfl, ?_, fun k hk => ?_⟩
    · exact World.block_lt_of_cell? W ⟨b, off, none⟩ (by simpa [Addr.add] using h1)
    · have hk' : k < zs.length := by simp at hk; omega
      have h2 := hcell k hk'
      rw [Addr.add_lit] at h2
      rw [h2]
      have hb := bounds_u8 (hwz zs[k] (List.getElem_mem hk'))
      simp only [List.getElem_map, List.getElem_take, bv, List.getD_eq_getElem?_getD, List.getElem?_eq_getElem hk', Option.getD_some, UInt8.toNat_ofNat']
      congr 2
      omega

theorem opn_bytes {H : Type} {enc : TypeId × Value → H} {P : Program} {W : World} {base t e j : Nat} {v : Value} {d : DataW H} {p : List MemPlace} {ts : List TypeId} {ds : List (DataW H)} (ht : P.underlying t = some (.slice e)) (he : P.underlying e = some (.int .u8)) (hc : P.cellsOf e = 1) (hb : P.bytesOf e = 1)
    (hv : Value.okWide P W .any base t v) (hj : DataW.Trod enc P W 0 (fun _ => true) true t v d p) (hsz : (DataW.weightsEach P ts ds).all (· ≤ reachBytes) = true) (h1 : ts[j]? = some t) (h2 : ds[j]? = some d) :
    ∃ (A : Option Addr) (n c : Nat) (bs : List UInt8), v = .slice A n c ∧ bs.length = n ∧ Rd W A (bs.map bv) ∧ n ≤ c ∧ c ≤ maxLen ∧ n ≤ 140737488351232 := by
  obtain ⟨a0, len, cap, rfl⟩ := okWide_slice ht hv
  obtain ⟨fuel, hf⟩ := hj
  rcases open_ints ht he hc hf with ⟨hcs, _⟩ | ⟨x, l, c, zs, hcs, _, hl, hm, hz, hx, hcell, hwz⟩
  · simp [Value.cells] at hcs
    obtain ⟨rfl, rfl, rfl⟩ := hcs
    exact ⟨none, 0, 0, [], rfl, rfl, .inl rfl, Nat.le_refl _, Nat.zero_le _, by decide⟩
  · simp [Value.cells] at hcs
    obtain ⟨rfl, rfl, rfl⟩ := hcs
    simp only [Prod.mk.injEq] at hx
    obtain ⟨rfl, _⟩ := hx
    simp only [if_true] at hz
    have hs := sized_slice hsz h1 h2 ht
    rw [hb] at hs
    simp only [lits, List.length_map, List.length_take, List.length_drop, reachBytes] at hs
    obtain ⟨bs, g1, g2⟩ := rd_of_ints (len := len) (by omega) hcell hwz
    exact ⟨some x, len, cap, bs, rfl, g1, g2, hl, hm, by omega⟩

theorem list_of_all {α : Type} {Q : Nat → α → Prop} (n : Nat) (h : ∀ i, i < n → ∃ x, Q i x) : ∃ l : List α, l.length = n ∧ ∀ i (hi : i < l.length), Q i l[i] := by
  induction n with
  | zero => exact ⟨[], rfl, fun i hi => absurd hi (by simp)⟩
  | succ n ih =>
    obtain ⟨l, h1, h2⟩ := ih (fun i hi => h i (by omega))
    obtain ⟨x, hx⟩ := h n (by omega)
    refine ⟨l ++ [x], by simp [h1], fun i hi => ?_⟩
    rcases Nat.lt_or_ge i l.length with hlt | hge
    · rw [List.getElem_append_left hlt]; exact h2 i hlt
    · have : i = n := by simp at hi; omega
      subst this
      rw [List.getElem_append_right hge]
      simpa using hx

end Go.Proofs.YtndjggabdajbfaaGreatDoor



/- How a law's argument is opened: a screen by value; slices of cells and of texts. Conditions: none. -/
namespace Go.Proofs.YtndjggabdajbfaaGreatDoor
open Go Go.RowKit Go.ChangeShapes Go.WideShapes

theorem weightsAll_in {H : Type} {P : Program} {e : TypeId} : ∀ {l : List (DataW H)} {d : DataW H}, d ∈ l → ∀ n ∈ d.weights P e, n ∈ DataW.weightsAll P e l
  | d' :: r, d, hd, n, hn => by
    simp only [DataW.weightsAll, List.mem_append]
    rcases List.mem_cons.1 hd with rfl | h
    · exact Or.inl hn
    · exact Or.inr (weightsAll_in h n hn)
/-- The fields of a pen's type. -/
structure PeT (P : Program) (t : TypeId) (f0 f1 f2 f3 : Field) : Prop where
  hs : P.underlying t = some (.struct #[f0, f1, f2, f3])
  hC : P.cellsOf t = 4
  hone : Deep.oneCellFields P #[f0, f1, f2, f3] = true
  h0 : P.underlying f0.type = some (.int .u32)
  h1 : P.underlying f1.type = some (.int .u32)
  h2 : P.underlying f2.type = some (.int .u8)
  h3 : P.underlying f3.type = some (.int .u16)
/-- The fields of a cell's type. -/
structure CeT (P : Program) (t : TypeId) (f0 f1 f2 : Field) (pt : TypeId) (g0 g1 g2 g3 : Field) : Prop where
  hs : P.underlying t = some (.struct #[f0, f1, f2])
  hC : P.cellsOf t = 6
  o0 : f0.offset = 0
  o1 : f1.offset = 1
  o2 : f2.offset = 2
  k0 : P.cellsOf f0.type = 1
  k1 : P.cellsOf f1.type = 1
  h0 : P.underlying f0.type = some (.int .i32)
  h1 : P.underlying f1.type = some (.int .u8)
  h2 : f2.type = pt
  T : PeT P pt g0 g1 g2 g3
/-- The fields of a screen's type. -/
structure ScT (P : Program) (t : TypeId) (f0 f1 f2 f3 f4 f5 f6 f7 f8 : Field) (et st : TypeId) (c0 c1 c2 : Field) (pt : TypeId) (g0 g1 g2 g3 : Field) : Prop where
  hs : P.underlying t = some (.struct #[f0, f1, f2, f3, f4, f5, f6, f7, f8])
  hC : P.cellsOf t = 9
  hone : Deep.oneCellFields P #[f0, f1, f2, f3, f4, f5, f6, f7, f8] = true
  h0 : P.underlying f0.type = some (.int .i64)
  h1 : P.underlying f1.type = some (.int .i64)
  h2 : P.underlying f2.type = some (.slice et)
  hB : P.bytesOf et = 20
  T : CeT P et c0 c1 c2 pt g0 g1 g2 g3
  h3 : P.underlying f3.type = some (.int .i64)
  h4 : P.underlying f4.type = some (.int .i64)
  h5 : P.underlying f5.type = some .bool
  h6 : P.underlying f6.type = some (.int .u8)
  h7 : P.underlying f7.type = some .string
  h8 : P.underlying f8.type = some (.slice st)
  hst : P.underlying st = some .string
  cst : P.cellsOf st = 1
  bst : P.bytesOf st = 16

/-- A cell's numbers are such as its types hold. -/
def CeOk (d : CeD) : Prop := (-2147483648 ≤ d.r ∧ d.r ≤ 2147483647) ∧ (0 ≤ d.w ∧ d.w ≤ 255) ∧ (0 ≤ d.fg ∧ d.fg ≤ 4294967295) ∧ (0 ≤ d.bg ∧ d.bg ≤ 4294967295) ∧ (0 ≤ d.at_ ∧ d.at_ ≤ 255) ∧ (0 ≤ d.ln ∧ d.ln ≤ 65535)
theorem wf_i64 {a : Int} (w : (Lit.int .i64 a).wf = true) : -9223372036854775808 ≤ a ∧ a ≤ 9223372036854775807 := by
  simp only [Lit.wf, IntKind.min, IntKind.max, IntKind.signed, IntKind.bits, Bool.and_eq_true, decide_eq_true_eq] at w
  exact ⟨by simpa using w.1, by simpa using w.2⟩
theorem wf_i32 {a : Int} (w : (Lit.int .i32 a).wf = true) : -2147483648 ≤ a ∧ a ≤ 2147483647 := by
  simp only [Lit.wf, IntKind.min, IntKind.max, IntKind.signed, IntKind.bits, Bool.and_eq_true, decide_eq_true_eq] at w
  exact ⟨by simpa using w.1, by simpa using w.2⟩
theorem wf_u8 {a : Int} (w : (Lit.int .u8 a).wf = true) : 0 ≤ a ∧ a ≤ 255 := by
  simp only [Lit.wf, IntKind.min, IntKind.max, IntKind.signed, IntKind.bits, Bool.and_eq_true, decide_eq_true_eq] at w
  exact ⟨by simpa using w.1, by simpa using w.2⟩
theorem wf_u16 {a : Int} (w : (Lit.int .u16 a).wf = true) : 0 ≤ a ∧ a ≤ 65535 := by
  simp only [Lit.wf, IntKind.min, IntKind.max, IntKind.signed, IntKind.bits, Bool.and_eq_true, decide_eq_true_eq] at w
  exact ⟨by simpa using w.1, by simpa using w.2⟩
theorem wf_u32 {a : Int} (w : (Lit.int .u32 a).wf = true) : 0 ≤ a ∧ a ≤ 4294967295 := by
  simp only [Lit.wf, IntKind.min, IntKind.max, IntKind.signed, IntKind.bits, Bool.and_eq_true, decide_eq_true_eq] at w
  exact ⟨by simpa using w.1, by simpa using w.2⟩

theorem open_pen {H : Type} {enc : TypeId × Value → H} {P : Program} {W : World} {t fuel : Nat} {f0 f1 f2 f3 : Field} (T : PeT P t f0 f1 f2 f3) {cs : List Value} {x : DataW H × List MemPlace}
    (hf : DataW.trod enc P W 0 (fun _ => true) true fuel t cs = some x) :
    ∃ fg bg a ln : Int, cs = [.int .u32 fg, .int .u32 bg, .int .u8 a, .int .u16 ln] ∧ (0 ≤ fg ∧ fg ≤ 4294967295) ∧ (0 ≤ bg ∧ bg ≤ 4294967295) ∧ (0 ≤ a ∧ a ≤ 255) ∧ (0 ≤ ln ∧ ln ≤ 65535) := by
  obtain ⟨ys, n', _, _, hl4, hlen', hgs⟩ := DataW.trod_struct T.hs hf
  rw [T.hC] at hl4
  obtain ⟨o0, k0⟩ := Deep.hone_of T.hone 0 f0 rfl
  obtain ⟨o1, k1⟩ := Deep.hone_of T.hone 1 f1 rfl
  obtain ⟨o2, k2⟩ := Deep.hone_of T.hone 2 f2 rfl
  obtain ⟨o3, k3⟩ := Deep.hone_of T.hone 3 f3 rfl
  match cs, hl4, ys, hlen' with
  | [u0, u1, u2, u3], _, [y0, y1, y2, y3], _ =>
    have q0 := hgs 0 f0 rfl
    have q1 := hgs 1 f1 rfl
    have q2 := hgs 2 f2 rfl
    have q3 := hgs 3 f3 rfl
    rw [o0, k0] at q0
    rw [o1, k1] at q1
    rw [o2, k2] at q2
    rw [o3, k3] at q3
    obtain ⟨a0, e0, _, w0⟩ := DataW.trod_int T.h0 q0
    obtain ⟨a1, e1, _, w1⟩ := DataW.trod_int T.h1 q1
    obtain ⟨a2, e2, _, w2⟩ := DataW.trod_int T.h2 q2
    obtain ⟨a3, e3, _, w3⟩ := DataW.trod_int T.h3 q3
    simp at e0 e1 e2 e3
    subst e0 e1 e2 e3
    exact ⟨a0, a1, a2, a3, rfl, wf_u32 w0, wf_u32 w1, wf_u8 w2, wf_u16 w3⟩
theorem open_cell {H : Type} {enc : TypeId × Value → H} {P : Program} {W : World} {t pt fuel : Nat} {f0 f1 f2 g0 g1 g2 g3 : Field} (T : CeT P t f0 f1 f2 pt g0 g1 g2 g3) {cs : List Value} {x : DataW H × List MemPlace}
    (hf : DataW.trod enc P W 0 (fun _ => true) true fuel t cs = some x) : ∃ d : CeD, cs = d.cells ∧ CeOk d := by
  obtain ⟨ys, n, _, _, hl, hlen, hg⟩ := DataW.trod_struct T.hs hf
  rw [T.hC] at hl
  match cs, hl, ys, hlen with
  | [u0, u1, u2, u3, u4, u5], _, [y0, y1, y2], _ =>
    have q0 := hg 0 f0 rfl
    have q1 := hg 1 f1 rfl
    have q2 := hg 2 f2 rfl
    rw [T.o0, T.k0] at q0
    rw [T.o1, T.k1] at q1
    rw [T.o2, T.h2, T.T.hC] at q2
    obtain ⟨a0, e0, _, w0⟩ := DataW.trod_int T.h0 q0
    obtain ⟨a1, e1, _, w1⟩ := DataW.trod_int T.h1 q1
    obtain ⟨fg, bg, a, ln, e2, r⟩ := open_pen T.T q2
    simp at e0 e1 e2
    obtain ⟨z1, z2, z3, z4⟩ := e2
    subst e0 e1 z1 z2 z3 z4
    exact ⟨⟨a0, a1, fg, bg, a, ln⟩, rfl, wf_i32 w0, wf_u8 w1, r⟩
theorem open_cells {H : Type} {enc : TypeId × Value → H} {P : Program} {W : World} {t et pt fuel : Nat} {f0 f1 f2 g0 g1 g2 g3 : Field} (ht : P.underlying t = some (.slice et)) (hB : P.bytesOf et = 20) (T : CeT P et f0 f1 f2 pt g0 g1 g2 g3) {u : Value} {y : DataW H × List MemPlace}
    (hf : DataW.trod enc P W 0 (fun _ => true) true fuel t [u] = some y) :
    ∃ (A : Option Addr) (n c : Nat) (ds : List CeD), u = .slice A n c ∧ ds.length = n ∧ RdC W A ds ∧ n ≤ c ∧ c ≤ maxLen ∧ (∀ d ∈ ds, CeOk d) ∧ ((∀ k ∈ y.1.weights P t, k ≤ reachBytes) → n * 20 ≤ reachBytes) := by
  rcases Deep.open_slice ht hf with ⟨hcs, _⟩ | ⟨a, len, cap, m, n, D, Pl, hcs, _, hl, hm, hmm, hx, hcell⟩
  · injection hcs with hcs _
    subst hcs
    exact ⟨none, 0, 0, [], rfl, rfl, .inl rfl, Nat.le_refl _, Nat.zero_le _, by simp, fun _ => by decide⟩
  · injection hcs with hcs _
    subst hcs
    simp only [if_true] at hmm
    obtain rfl : cap = m := hmm.symm
    have each : ∀ i, i < len → ∃ d : CeD, (∀ q (hq : q < 6), W.cell? (a.add (i * 6 + q)) = (d.cells)[q]?) ∧ CeOk d := by
      intro i hi
      obtain ⟨cs', g1, g2⟩ := hcell i (by omega)
      rw [T.hC] at g1
      obtain ⟨_, hlen, hg⟩ := World.cells?_some g1
      obtain ⟨d, hcs, hok⟩ := open_cell T g2
      refine ⟨d, fun q hq => ?_, hok⟩
      rw [← Deep.add_add]
      subst hcs
      have := hg q (by simpa [CeD.cells] using hq)
      rw [this]
    obtain ⟨ds, hz1, hz2⟩ := list_of_all len each
    have hcellz : ∀ i (hi : i < ds.length) q, q < 6 → W.cell? (a.add (i * 6 + q)) = (cellsC ds)[i * 6 + q]? := by
      intro i hi q hq
      rw [cellsC_get _ i hi q hq, (hz2 i hi).1 q hq]
    refine ⟨some a, len, cap, ds, rfl, hz1, ?_, hl, hm, fun d hd => ?_, fun hw => ?_⟩
    · rcases Nat.eq_zero_or_pos len with h0 | h0
      · left
        have : ds = [] := List.eq_nil_of_length_eq_zero (by omega)
        rw [this]; rfl
      · have h := hcellz 0 (by omega) 0 (by decide)
        rw [List.getElem?_eq_getElem (by rw [cellsC_length]; omega), show a.add (0 * 6 + 0) = a by simp [Addr.add]] at h
        have hsp := World.cell?_spot h
        have hlt := World.block_lt_of_cell? W a h
        obtain ⟨b, off, spot⟩ := a
        simp only at hsp
        subst hsp
        refine .inr ⟨b, off, rfl, hlt, fun k hk => ?_⟩
        have hk' : k < ds.length * 6 := by rw [cellsC_length] at hk; exact hk
        have h := hcellz (k / 6) (by omega) (k % 6) (Nat.mod_lt _ (by decide))
        rw [show k / 6 * 6 + k % 6 = k by omega, Addr.add_lit, List.getElem?_eq_getElem hk] at h
        exact h
    · obtain ⟨i, hi, rfl⟩ := List.mem_iff_getElem.1 hd
      exact (hz2 i hi).2
    · subst hx
      have h := hw ((((List.range len).map D).length + ((List.range (cap - len)).map fun j => D (len + j)).length) * 20) (by
        simp only [DataW.weights, ht, List.mem_cons]
        left
        rw [hB])
      simp only [List.length_map, List.length_range, reachBytes] at h ⊢
      omega
theorem open_strs {H : Type} {enc : TypeId × Value → H} {P : Program} {W : World} {t st fuel : Nat} (ht : P.underlying t = some (.slice st)) (hs : P.underlying st = some .string) (hc : P.cellsOf st = 1) (hB : P.bytesOf st = 16) {u : Value} {y : DataW H × List MemPlace}
    (hf : DataW.trod enc P W 0 (fun _ => true) true fuel t [u] = some y) :
    ∃ (A : Option Addr) (n c : Nat) (ss : List ByteArray), u = .slice A n c ∧ ss.length = n ∧ RdT W A ss ∧ n ≤ c ∧ c ≤ maxLen ∧ ((∀ k ∈ y.1.weights P t, k ≤ reachBytes) → n * 16 ≤ reachBytes ∧ ∀ s ∈ ss, s.size ≤ reachBytes) := by
  rcases Deep.open_slice1 ht hc hf with ⟨hcs, _⟩ | ⟨a, len, cap, m, n, V, D, Pl, hcs, _, hl, hm, hmm, hx, hcell⟩
  · injection hcs with hcs _
    subst hcs
    exact ⟨none, 0, 0, [], rfl, rfl, .inl rfl, Nat.le_refl _, Nat.zero_le _, fun _ => ⟨by decide, by simp⟩⟩
  · injection hcs with hcs _
    subst hcs
    simp only [if_true] at hmm
    obtain rfl : cap = m := hmm.symm
    have each : ∀ i, i < len → ∃ s : ByteArray, W.cell? (a.add i) = some (.string s) ∧ D i = .lit (.string s.data.toList) := by
      intro i hi
      obtain ⟨g1, g2⟩ := hcell i (by omega)
      obtain ⟨s, e1, e2, _⟩ := DataW.trod_string hs g2
      simp only [List.cons.injEq, and_true] at e1
      simp only [Prod.mk.injEq] at e2
      exact ⟨s, by rw [g1, e1], e2.1⟩
    obtain ⟨ss, hz1, hz2⟩ := list_of_all len each
    refine ⟨some a, len, cap, ss, rfl, hz1, ?_, hl, hm, fun hw => ⟨?_, fun s hs' => ?_⟩⟩
    · rcases Nat.eq_zero_or_pos len with h0 | h0
      · left
        have : ss = [] := List.eq_nil_of_length_eq_zero (by omega)
        rw [this]; rfl
      · have h := (hz2 0 (by omega)).1
        rw [show a.add 0 = a by simp [Addr.add]] at h
        have hsp := World.cell?_spot h
        have hlt := World.block_lt_of_cell? W a h
        obtain ⟨b, off, spot⟩ := a
        simp only at hsp
        subst hsp
        refine .inr ⟨b, off, rfl, hlt, fun k hk => ?_⟩
        have hk' : k < ss.length := by rw [strV, List.length_map] at hk; exact hk
        have h := (hz2 k hk').1
        rw [Addr.add_lit] at h
        rw [h]; simp [strV]
    · subst hx
      have h := hw ((((List.range len).map D).length + ((List.range (cap - len)).map fun j => D (len + j)).length) * 16) (by
        simp only [DataW.weights, ht, List.mem_cons]
        left
        rw [hB])
      simp only [List.length_map, List.length_range, reachBytes] at h ⊢
      omega
    · obtain ⟨i, hi, rfl⟩ := List.mem_iff_getElem.1 hs'
      subst hx
      have h := hw (ss[i].data.toList.length) (by
        simp only [DataW.weights, ht, List.mem_cons, List.mem_append]
        refine Or.inr (Or.inl (weightsAll_in (d := D i) (List.mem_map.2 ⟨i, List.mem_range.2 (by omega), rfl⟩) _ ?_))
        rw [(hz2 i hi).2]
        simp [DataW.weights])
      rw [show ss[i].size = ss[i].data.toList.length from (Array.length_toList).symm]
      exact h
/-- What is known of a screen that is handed in. -/
structure ScO (W : World) (s : ScD) (A : Option Addr) (n c : Nat) (L : Option Addr) (m cm : Nat) : Prop where
  hn : s.cells.length = n
  rd : RdC W A s.cells
  nc : n ≤ c
  cml : c ≤ maxLen
  nl : n ≤ 7036874417561
  hm : s.links.length = m
  rt : RdT W L s.links
  mc : m ≤ cm
  dm : cm ≤ maxLen
  ml : m ≤ 8796093022000
  us : ∀ u ∈ s.links, u.size ≤ 140737488351232
  ce : ∀ d ∈ s.cells, CeOk d
  tl : s.title.size ≤ 140737488351232
  b0 : -9223372036854775808 ≤ s.cols ∧ s.cols ≤ 9223372036854775807
  b1 : -9223372036854775808 ≤ s.rows ∧ s.rows ≤ 9223372036854775807
  b3 : -9223372036854775808 ≤ s.x ∧ s.x ≤ 9223372036854775807
  b4 : -9223372036854775808 ≤ s.y ∧ s.y ≤ 9223372036854775807
  b6 : 0 ≤ s.mouse ∧ s.mouse ≤ 255
theorem open_scr {H : Type} {enc : TypeId × Value → H} {P : Program} {W : World} {t et st pt fuel : Nat} {f0 f1 f2 f3 f4 f5 f6 f7 f8 c0 c1 c2 g0 g1 g2 g3 : Field} (T : ScT P t f0 f1 f2 f3 f4 f5 f6 f7 f8 et st c0 c1 c2 pt g0 g1 g2 g3) {cs : List Value} {x : DataW H × List MemPlace}
    (hf : DataW.trod enc P W 0 (fun _ => true) true fuel t cs = some x) (hw : ∀ n ∈ x.1.weights P t, n ≤ reachBytes) :
    ∃ (s : ScD) (A : Option Addr) (n c : Nat) (L : Option Addr) (m cm : Nat), cs = (scC s A n c L m cm).toList ∧ ScO W s A n c L m cm := by
  obtain ⟨ys, n', _, rfl, hl9, hlen', hgs⟩ := DataW.trod_struct T.hs hf
  rw [T.hC] at hl9
  have hk := Deep.hone_of T.hone
  match cs, hl9, ys, hlen' with
  | [u0, u1, u2, u3, u4, u5, u6, u7, u8], _, [y0, y1, y2, y3, y4, y5, y6, y7, y8], _ =>
    have q0 := hgs 0 f0 rfl
    have q1 := hgs 1 f1 rfl
    have q2 := hgs 2 f2 rfl
    have q3 := hgs 3 f3 rfl
    have q4 := hgs 4 f4 rfl
    have q5 := hgs 5 f5 rfl
    have q6 := hgs 6 f6 rfl
    have q7 := hgs 7 f7 rfl
    have q8 := hgs 8 f8 rfl
    rw [(hk 0 f0 rfl).1, (hk 0 f0 rfl).2] at q0
    rw [(hk 1 f1 rfl).1, (hk 1 f1 rfl).2] at q1
    rw [(hk 2 f2 rfl).1, (hk 2 f2 rfl).2] at q2
    rw [(hk 3 f3 rfl).1, (hk 3 f3 rfl).2] at q3
    rw [(hk 4 f4 rfl).1, (hk 4 f4 rfl).2] at q4
    rw [(hk 5 f5 rfl).1, (hk 5 f5 rfl).2] at q5
    rw [(hk 6 f6 rfl).1, (hk 6 f6 rfl).2] at q6
    rw [(hk 7 f7 rfl).1, (hk 7 f7 rfl).2] at q7
    rw [(hk 8 f8 rfl).1, (hk 8 f8 rfl).2] at q8
    have hwe : ∀ (j : Nat) (f : Field) (y : DataW H × List MemPlace), (#[f0, f1, f2, f3, f4, f5, f6, f7, f8] : Array Field)[j]? = some f → ([y0, y1, y2, y3, y4, y5, y6, y7, y8] : List (DataW H × List MemPlace))[j]? = some y → ∀ n ∈ y.1.weights P f.type, n ≤ reachBytes := by
      intro j f y hj hy' n hn
      refine hw n ?_
      simp only [DataW.weights, T.hs]
      refine DataW.weights_mem_each (j := j) (t := f.type) (d := y.1) ?_ ?_ n hn
      · rw [List.getElem?_map]
        have : ([f0, f1, f2, f3, f4, f5, f6, f7, f8] : List Field)[j]? = some f := by simpa using hj
        show Option.map _ (([f0, f1, f2, f3, f4, f5, f6, f7, f8] : List Field)[j]?) = _
        rw [this]; rfl
      · rw [List.getElem?_map, hy']; rfl
    obtain ⟨a0, e0, _, w0⟩ := DataW.trod_int T.h0 q0
    obtain ⟨a1, e1, _, w1⟩ := DataW.trod_int T.h1 q1
    obtain ⟨a3, e3, _, w3⟩ := DataW.trod_int T.h3 q3
    obtain ⟨a4, e4, _, w4⟩ := DataW.trod_int T.h4 q4
    obtain ⟨a5, e5, _⟩ := DataW.trod_bool T.h5 q5
    obtain ⟨a6, e6, _, w6⟩ := DataW.trod_int T.h6 q6
    obtain ⟨a7, e7, y7', w7⟩ := DataW.trod_string T.h7 q7
    obtain ⟨A, n, c, ds, e2, r1, r2, r3, r4, r5, r6⟩ := open_cells T.h2 T.hB T.T (show DataW.trod enc P W 0 (fun _ => true) true n' f2.type [u2] = some y2 from q2)
    obtain ⟨L, m, cm, ss, e8, s1, s2, s3, s4, s5⟩ := open_strs T.h8 T.hst T.cst T.bst (show DataW.trod enc P W 0 (fun _ => true) true n' f8.type [u8] = some y8 from q8)
    have r6' := r6 (fun k hk => hwe 2 f2 y2 rfl rfl k hk)
    obtain ⟨s6, s7⟩ := s5 (fun k hk => hwe 8 f8 y8 rfl rfl k hk)
    have t7 : a7.size ≤ reachBytes := by
      have := hwe 7 f7 y7 rfl rfl a7.data.toList.length (by rw [y7']; simp [DataW.weights])
      rw [show a7.size = a7.data.toList.length from (Array.length_toList).symm]
      exact this
    simp at e0 e1 e3 e4 e5 e6 e7
    subst e0 e1 e2 e3 e4 e5 e6 e7 e8
    refine ⟨⟨a0, a1, ds, a3, a4, a5, a6, a7, ss⟩, A, n, c, L, m, cm, rfl, r1, r2, r3, r4, ?_, s1, s2, s3, s4, ?_, s7, r5, t7, wf_i64 w0, wf_i64 w1, wf_i64 w3, wf_i64 w4, wf_u8 w6⟩
    · simp only [reachBytes] at r6'; omega
    · simp only [reachBytes] at s6; omega
theorem opn_scr {H : Type} {enc : TypeId × Value → H} {P : Program} {W : World} {base t et st pt j : Nat} {f0 f1 f2 f3 f4 f5 f6 f7 f8 c0 c1 c2 g0 g1 g2 g3 : Field} (T : ScT P t f0 f1 f2 f3 f4 f5 f6 f7 f8 et st c0 c1 c2 pt g0 g1 g2 g3) {v : Value} {d : DataW H} {p : List MemPlace} {ts : List TypeId} {ds : List (DataW H)}
    (hv : Value.okWide P W .any base t v) (hj : DataW.Trod enc P W 0 (fun _ => true) true t v d p) (hsz : (DataW.weightsEach P ts ds).all (· ≤ reachBytes) = true) (k1 : ts[j]? = some t) (k2 : ds[j]? = some d) :
    ∃ (s : ScD) (A : Option Addr) (n c : Nat) (L : Option Addr) (m cm : Nat), v = .agg (scC s A n c L m cm) ∧ ScO W s A n c L m cm := by
  obtain ⟨cs, rfl, hsz2⟩ := okWide_struct T.hs hv
  obtain ⟨fuel, hf⟩ := hj
  obtain ⟨s, A, n, c, L, m, cm, hcs, r⟩ := open_scr T hf (fun n hn => of_decide_eq_true (List.all_eq_true.1 hsz n (DataW.weights_mem_each k1 k2 n hn)))
  refine ⟨s, A, n, c, L, m, cm, ?_, r⟩
  congr 1
  apply Array.ext'
  simpa [Value.cells] using hcs
/-- One that isn't great can be gone through. -/
theorem ScO.small {W : World} {s : ScD} {A : Option Addr} {n c : Nat} {L : Option Addr} {m cm : Nat} (h : ScO W s A n c L m cm) (h1 : n ≤ 60000) (h2 : m ≤ 60000) (h3 : s.title.size ≤ 1000000) : ScR W s A n c L m cm :=
  ⟨h.hn, h.rd, h.nc, h1, h.hm, h.rt, h.mc, h2, fun u hu => Nat.le_trans (h.us u hu) (by decide), fun d hd => by have := h.ce d hd; exact ⟨this.2.2.2.2.2.1, by have := this.2.2.2.2.2.2; omega⟩, h3⟩
end Go.Proofs.YtndjggabdajbfaaGreatDoor


