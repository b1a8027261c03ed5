/- Parts one behind the other: What color.Parts answers of any colour; What a row's list of tables says of the world: an array of arrays of integers, an array of integers, wherever they stand on the list; The four tables, out of what a row lists; a world that holds them, for the witness; What color.Parts and color.Far answer of any colours; What color.To256, To16 and Fit answer of any colours; What the reference's Parts answers of any colour; What the reference's Far answers of any colours; What the reference's Near, To256, To16 and Fit answer of any colours; What project.fit answers of any cell; What project.Screen answers of any screen; Plain: what the project layer's answer is worth: it may be; once is enough; few features; plain screens; blanks; What cell.Blank, the reference's Blank of a cell and grid.New answer; A new terminal's block; what frame and here answer of it; parse.New; What emul.New, links.Canon (cells without links), Term.Screen of a new terminal and project.Blank answer. Conditions: as told at each. -/
import Derived.Test.YtndjggabdajbfaaGreatDoorPG12
import Derived.Laws.BitsLemmas
import Derived.Lib.LaidTab
import Derived.Test.YtndjggabdajbfaaGreatDoorRows
import Derived.Deep.DeepHandedRow
import Derived.Great.BuildSlice
import Derived.Test.YtndjggabdajbfaaGreatDoorPG11
import Derived.Laws.ResultCell

set_option linter.unusedVariables false
set_option linter.unusedSimpArgs false
/- What color.Parts answers of any colour. Conditions: its tables lie where they were laid. -/
namespace Go.Proofs.YtndjggabdajbfaaGreatDoor
open Go Go.RowKit Go.Lib

end Go.Proofs.YtndjggabdajbfaaGreatDoor



/- What a row's list of tables says of the world: an array of arrays of integers, an array of integers, wherever they stand on the list. Conditions: none. -/
namespace Go.Proofs.YtndjggabdajbfaaGreatDoor
open Go Go.RowKit Go.Lib

theorem rows_cells {α : Type} (f : α → Value) (m : Nat) : ∀ (rows : List (List α)) (cs : List Value), cs.length = rows.length * m → (∀ i (h : i < rows.length), (cs.drop (i * m)).take m = rows[i].map f) → cs = rows.flatMap fun r => r.map f
  | [], cs, hl, _ => by
    have : cs = [] := List.eq_nil_of_length_eq_zero (by simpa using hl)
    rw [this]; rfl
  | r :: rs, cs, hl, h => by
    have h0 := h 0 (by simp)
    rw [Nat.zero_mul, List.drop_zero] at h0
    have hl2 : cs.length = rs.length * m + m := by rw [hl, List.length_cons, Nat.add_mul, Nat.one_mul]
    have ih := rows_cells f m rs (cs.drop m) (by rw [List.length_drop]; omega) (fun i hi => by
      have := h (i + 1) (by simpa using hi)
      rw [Nat.add_mul, Nat.one_mul] at this
      rw [List.drop_drop, Nat.add_comm m]
      exact this)
    show cs = r.map f ++ rs.flatMap fun r => r.map f
    rw [← ih]
    have h0' : cs.take m = r.map f := h0
    rw [← h0', List.take_append_drop]
section
variable {H : Type} {enc : TypeId × Value → H} {P : Program} {w : World} {base : Nat} {sp : Nat → Bool} {held : Bool}
theorem cells_of_rows {fuel : Nat} {t e i : TypeId} {n m : Nat} {k : IntKind} {cs : List Value} {rows : List (List Int)} {p : List MemPlace} (ht : P.underlying t = some (.array n e)) (he : P.underlying e = some (.array m i)) (hi : P.underlying i = some (.int k))
    (hci : P.cellsOf i = 1) (hce : P.cellsOf e = m) (hct : P.cellsOf t = n * m) (h : DataW.trod enc P w base sp held fuel t cs = some (.agg (rows.map (tabData k)), p)) : cs = rows.flatMap fun r => r.map fun z => Value.int k z := by
  cases fuel with
  | zero => simp [DataW.trod] at h
  | succ fuel =>
    simp only [DataW.trod, ht, hce] at h
    split at h
    · rename_i hl
      obtain ⟨xs, hm, hx⟩ := Option.map_eq_some_iff.1 h
      have hds : xs.map (·.1) = rows.map (tabData k) := by
        have := congrArg Prod.fst hx
        simpa using this
      have hxl : xs.length = n := by
        have := mapM_length hm
        rw [List.length_range] at this
        exact this
      have hrl : rows.length = n := by
        have := congrArg List.length hds
        simp at this
        omega
      have hcl : cs.length = n * m := by
        first
          | (rw [hct] at hl; exact hl)
          | (rw [hct] at hl; exact of_decide_eq_true hl)
          | (simpa [hct] using hl)
      refine rows_cells _ m rows cs (by rw [hrl]; exact hcl) (fun j hj => ?_)
      obtain ⟨b, hb, hf⟩ := mapM_at hm j j (by rw [List.getElem?_eq_getElem (by rw [List.length_range]; omega), List.getElem_range])
      have h2 : (xs.map (·.1))[j]? = some b.1 := by simp [hb]
      rw [hds, List.getElem?_map, List.getElem?_eq_getElem hj] at h2
      have h3 : tabData k rows[j] = b.1 := by simpa using h2
      have hf' : DataW.trod enc P w base sp held fuel e ((cs.drop (j * m)).take m) = some (tabData k rows[j], b.2) := by
        rw [h3]; exact hf
      exact cells_of_tab he hi hci hce hf'
    · cases h
end
/-- What a listed variable reads as. -/
theorem reads_of {P : Program} {w : World} : ∀ {l : List (String × DataW Unit)} {ps : List MemPlace}, DataW.LaidVars P w l ps → ∀ n d, (n, d) ∈ l →
    ∃ g t cs fuel p, P.globalNamed n = some g ∧ (P.globals[g]?).map (·.type) = some t ∧ w.var? P n = some cs ∧ DataW.trod (fun _ => ()) P w 0 (fun _ => true) false fuel t cs.toList = some (d, p)
  | [], _, _, _, _, hm => by cases hm
  | (n', d') :: r, ps, h, n, d, hm => by
    obtain ⟨g, t, cs, fuel, p, q, h1, h2, h3, h4, h5, _⟩ := h
    rcases List.mem_cons.1 hm with e | e
    · cases e
      exact ⟨g, t, cs, fuel, p, h1, h2, h3, h4⟩
    · exact reads_of h5 n d e
theorem tabAt_of {P : Program} {w : World} {n : String} {g : Nat} {cs : Array Value} {vs : List Value} (hg : P.globalNamed n = some g) (hv : w.var? P n = some cs) (hc : cs.toList = vs) (h0 : 0 < vs.length) : TabAt w g vs := by
  have hcell : ∀ i (h : i < vs.length), w.cell? ⟨g, i, none⟩ = some vs[i] := by
    intro i hi
    rw [World.var?_cell hg hv i]
    subst hc
    simp [List.getElem?_eq_getElem hi]
  exact ⟨World.block_lt_of_cell? w ⟨g, 0, none⟩ (hcell 0 h0), hcell⟩
theorem tab_rows {P : Program} {w : World} {l : List (String × DataW Unit)} {name : String} {g : Nat} {t e i : TypeId} {n m : Nat} {k : IntKind} {rows : List (List Int)} {vs : List Value} (h : laidMet P l w) (hm : (name, .agg (rows.map (tabData k))) ∈ l)
    (hg : P.globalNamed name = some g) (hty : (P.globals[g]?).map (·.type) = some t) (ht : P.underlying t = some (.array n e)) (he : P.underlying e = some (.array m i)) (hi : P.underlying i = some (.int k)) (hci : P.cellsOf i = 1) (hce : P.cellsOf e = m) (hct : P.cellsOf t = n * m)
    (hvs : (rows.flatMap fun r => r.map fun z => Value.int k z) = vs) (h0 : 0 < vs.length) : TabAt w g vs := by
  obtain ⟨ps, hl, _⟩ := h
  obtain ⟨g', t', cs, fuel, p, q1, q2, q3, q4⟩ := reads_of hl _ _ hm
  obtain rfl := Option.some.inj (hg.symm.trans q1)
  obtain rfl := Option.some.inj (hty.symm.trans q2)
  exact tabAt_of hg q3 ((cells_of_rows ht he hi hci hce hct q4).trans hvs) h0
end Go.Proofs.YtndjggabdajbfaaGreatDoor



/- The four tables, out of what a row lists; a world that holds them, for the witness. Conditions: none. -/
namespace Go.Proofs.YtndjggabdajbfaaGreatDoor
open Go Go.RowKit Go.ChangeShapes Go.WideShapes

theorem laid_none : (Rows.laid_spyglass_utf_none : DataW Unit) = .agg ((noneL.map fun p => [p.1, p.2]).map (Lib.tabData .i32)) := by kernel_rfl
theorem laid_wide : (Rows.laid_spyglass_utf_wide : DataW Unit) = .agg ((wideL.map fun p => [p.1, p.2]).map (Lib.tabData .i32)) := by kernel_rfl
theorem tabU_met {l : List (String × DataW Unit)} {W : World} (h : laidMet Tryz.prog l W) (h0 : ("spyglass/utf.none", Rows.laid_spyglass_utf_none) ∈ l) (h1 : ("spyglass/utf.wide", Rows.laid_spyglass_utf_wide) ∈ l) : TabU W := by
  rw [laid_none] at h0
  rw [laid_wide] at h1
  exact ⟨tab_rows h h0 (by kernel_rfl) (t := 123) (by kernel_rfl) Tryz.underlying123 Tryz.underlying122 Tryz.underlying21 (by kernel_rfl) (by kernel_rfl) (by kernel_rfl) (by kernel_rfl) (by decide),
    tab_rows h h1 (by kernel_rfl) (t := 124) (by kernel_rfl) Tryz.underlying124 Tryz.underlying122 Tryz.underlying21 (by kernel_rfl) (by kernel_rfl) (by kernel_rfl) (by kernel_rfl) (by decide)⟩
theorem tabs2_of {W : World} (h : laidMetH Tryz.prog [("spyglass/utf.none", Rows.laid_spyglass_utf_none), ("spyglass/utf.wide", Rows.laid_spyglass_utf_wide)] W) : TabU W :=
  tabU_met (show laidMet Tryz.prog [("spyglass/utf.none", Rows.laid_spyglass_utf_none), ("spyglass/utf.wide", Rows.laid_spyglass_utf_wide)] W from h) (by simp) (by simp)
def setRow0 (cs : Array Value) : Obj → Obj
  | .cells _ t frozen => .cells cs t frozen
  | o => o
/-- The same where the colours' tables are not there. -/
noncomputable def laidWorld2 (os : Os) : World :=
  { World.holding Tryz.prog os ⟨#[], #[], []⟩ with heap := (((World.holding Tryz.prog os ⟨#[], #[], []⟩).heap.modify 0 (setRow0 (rngV noneL).toArray)).modify 1 (setRow0 (rngV wideL).toArray)) }
end Go.Proofs.YtndjggabdajbfaaGreatDoor



/- What color.Parts and color.Far answer of any colours. Conditions: the tables lie where they were laid. -/
namespace Go.Proofs.YtndjggabdajbfaaGreatDoor
open Go Go.RowKit Go.Lib

end Go.Proofs.YtndjggabdajbfaaGreatDoor



/- What color.To256, To16 and Fit answer of any colours. Conditions: the tables lie where they were laid. -/
namespace Go.Proofs.YtndjggabdajbfaaGreatDoor
open Go Go.RowKit Go.Lib

end Go.Proofs.YtndjggabdajbfaaGreatDoor



/- What the reference's Parts answers of any colour. Conditions: none. -/
namespace Go.Proofs.YtndjggabdajbfaaGreatDoor
open Go Go.RowKit Go.Lib

end Go.Proofs.YtndjggabdajbfaaGreatDoor



/- What the reference's Far answers of any colours. Conditions: none. -/
namespace Go.Proofs.YtndjggabdajbfaaGreatDoor
open Go Go.RowKit Go.Lib

end Go.Proofs.YtndjggabdajbfaaGreatDoor



/- What the reference's Near, To256, To16 and Fit answer of any colours. Conditions: none. -/
namespace Go.Proofs.YtndjggabdajbfaaGreatDoor
open Go Go.RowKit Go.Lib

end Go.Proofs.YtndjggabdajbfaaGreatDoor



/- What project.fit answers of any cell. Conditions: the tables lie where they were laid. -/
namespace Go.Proofs.YtndjggabdajbfaaGreatDoor
open Go Go.RowKit Go.Lib

def CeD.arr (d : CeD) : Array Value := #[.int .i32 d.r, .int .u8 d.w, .int .u32 d.fg, .int .u32 d.bg, .int .u8 d.at_, .int .u16 d.ln]
theorem CeD.one (d : CeD) : d.arr.all (·.oneCell') = true := by
  unfold CeD.arr
  simp [Value.oneCell']
theorem info_cell : (Tryz.prog.info? 43).map (·.size) = some 6 := by kernel_rfl
end Go.Proofs.YtndjggabdajbfaaGreatDoor



/- What project.Screen answers of any screen. Conditions: its parts can be read; the tables lie where they were laid. -/
namespace Go.Proofs.YtndjggabdajbfaaGreatDoor
open Go Go.RowKit Go.Lib

theorem cells_load {w : World} {b o : Nat} {d : CeD} (h : CellsAt w b o d) : ∀ j v, d.cells[j]? = some v → w.cell? ((⟨b, o, none⟩ : Addr).add j) = some v := by
  intro j v hv
  obtain ⟨h0, h1, h2, h3, h4, h5⟩ := h
  rw [addr_add]
  match j with
  | 0 => rw [← hv]; exact h0
  | 1 => rw [← hv]; exact h1
  | 2 => rw [← hv]; exact h2
  | 3 => rw [← hv]; exact h3
  | 4 => rw [← hv]; exact h4
  | 5 => rw [← hv]; exact h5
  | j + 6 => simp [CeD.cells] at hv
theorem six_far (w : World) (b a0 a1 a2 a3 a4 a5 : Nat) (u0 u1 u2 u3 u4 u5 : Value) (j : Nat) (h : j ≠ b) :
    ((((((w.setCell ⟨b, a0, none⟩ u0).setCell ⟨b, a1, none⟩ u1).setCell ⟨b, a2, none⟩ u2).setCell ⟨b, a3, none⟩ u3).setCell ⟨b, a4, none⟩ u4).setCell ⟨b, a5, none⟩ u5).heap[j]? = w.heap[j]? :=
  (heap_far _ h).trans ((heap_far _ h).trans ((heap_far _ h).trans ((heap_far _ h).trans ((heap_far _ h).trans (heap_far _ h)))))
theorem six_below {B : Nat} {a w : World} (hb : Below B a w) (b a0 a1 a2 a3 a4 a5 : Nat) (u0 u1 u2 u3 u4 u5 : Value) (q : B ≤ b) :
    Below B a ((((((w.setCell ⟨b, a0, none⟩ u0).setCell ⟨b, a1, none⟩ u1).setCell ⟨b, a2, none⟩ u2).setCell ⟨b, a3, none⟩ u3).setCell ⟨b, a4, none⟩ u4).setCell ⟨b, a5, none⟩ u5) :=
  below_set (below_set (below_set (below_set (below_set (below_set hb b _ _ q) b _ _ q) b _ _ q) b _ _ q) b _ _ q) b _ _ q
end Go.Proofs.YtndjggabdajbfaaGreatDoor



/- Plain: what the project layer's answer is worth: it may be; once is enough; few features; plain screens; blanks. Conditions: none. -/
namespace Go.Proofs.YtndjggabdajbfaaGreatDoor
open Go Go.RowKit Go.Lib

theorem cellEq_self (d : CeD) : cellEq d d = true := by simp [cellEq, penEq]
theorem sameC_self : ∀ l : List CeD, sameC l l = true
  | [] => rfl
  | d :: l => by rw [sameC, cellEq_self, sameC_self l]; rfl
theorem sameT_self (l : List ByteArray) : sameT l l = true := by rw [sameT_iff]; exact decide_eq_true rfl
theorem sameS_self (s : ScD) : sameS s s = true := by
  unfold sameS
  rw [sameT_self, sameC_self]
  simp
/-! ### Once is enough -/
/-! ### What may be stays so -/
/-! ### Blanks -/
def blankD : CeD := ⟨32, 0, 0, 0, 0, 0⟩
def blankS (cols rows : Int) : ScD := ⟨cols, rows, List.replicate (cols * rows).toNat blankD, 0, 0, false, 0, ⟨#[]⟩, []⟩
/-- Cells of a screen that may be. -/
theorem rowP_may : ∀ (l : List CeD) (p : Option CeD), rowP p l = true → ∀ d ∈ l, mayC d = true
  | [], _, _, d, hd => by cases hd
  | c :: l, p, h, d, hd => by
    rw [rowP, Bool.and_eq_true] at h
    rcases List.mem_cons.1 hd with rfl | hd
    · have := h.1
      unfold goodP at this
      rw [Bool.and_eq_true] at this
      exact this.1
    · exact rowP_may l (some c) h.2 d hd
theorem rowsGo_may (cols : Nat) (l : List CeD) : ∀ (k y : Nat), rowsGo cols y k l = true → ∀ j, y * cols ≤ j → j < (y + k) * cols → ∀ (h : j < l.length), mayC l[j] = true
  | 0, y, _, j, h1, h2, _ => by simp at h2; omega
  | k + 1, y, h, j, h1, h2, hj => by
    rw [rowsGo, Bool.and_eq_true] at h
    rcases Nat.lt_or_ge j ((y + 1) * cols) with hlt | hge
    · have hm : rowP none (rowAt cols y l) = true := by
        have := h.1
        unfold rowMayP at this
        simp only [Bool.and_eq_true] at this
        exact this.2.2
      refine rowP_may _ _ hm _ ?_
      unfold rowAt
      have hlt' : j - y * cols < cols := by rw [Nat.add_mul, Nat.one_mul] at hlt; omega
      rw [List.mem_iff_getElem]
      refine ⟨j - y * cols, by rw [List.length_take, List.length_drop]; omega, ?_⟩
      rw [List.getElem_take, List.getElem_drop]
      congr 1; omega
    · exact rowsGo_may cols l k (y + 1) h.2 j hge (by rw [show y + 1 + k = y + (k + 1) by omega]; exact h2) hj
theorem gridP_may {cols rows : Int} {l : List CeD} (h : gridP cols rows l = true) : ∀ d ∈ l, mayC d = true := by
  unfold gridP fitsI at h
  simp only [Bool.and_eq_true, decide_eq_true_eq] at h
  obtain ⟨⟨h1, h2, h3, h4⟩, h5, h6⟩ := h
  intro d hd
  obtain ⟨j, hj, rfl⟩ := List.mem_iff_getElem.1 hd
  refine rowsGo_may _ _ _ _ h6 j (by omega) ?_ hj
  obtain ⟨c, rfl⟩ : ∃ c : Nat, cols = (c : Int) := ⟨cols.toNat, by omega⟩
  obtain ⟨r, rfl⟩ : ∃ r : Nat, rows = (r : Int) := ⟨rows.toNat, by omega⟩
  rw [Int.toNat_natCast, Int.toNat_natCast, Nat.zero_add, Nat.mul_comm]
  have : (l.length : Int) = ((c * r : Nat) : Int) := by rw [Int.natCast_mul]; exact h5
  have h7 : l.length = c * r := by exact_mod_cast this
  omega
theorem rightS_grid {s : ScD} (h : rightS s = true) : gridP s.cols s.rows s.cells = true := by
  unfold rightS at h
  simp only [Bool.and_eq_true] at h
  exact h.1
end Go.Proofs.YtndjggabdajbfaaGreatDoor



/- What cell.Blank, the reference's Blank of a cell and grid.New answer. Conditions: none. -/
namespace Go.Proofs.YtndjggabdajbfaaGreatDoor
open Go Go.RowKit Go.Lib

theorem results_row_tmp {P : Program} {fn : Func} {p u : Tmp} {ty : TypeId} (h : fn.results = #[.cell p ty, .tmp u]) (tmps : Array Value) (w : World) (g : Nat) (t : TypeId) (cs : Array Value) (fr : Nat × Nat) (d : TypeDesc) (Y : Value)
    (hp : tmps.getD p undef = .pointer (some ⟨g, 0, none⟩)) (hY : tmps.getD u undef = Y) (hg : w.heap[g]? = some (.cells cs t fr))
    (hu : P.underlying ty = some d) (hd : (match d with | .struct _ | .array _ _ => true | _ => false) = true) (hi : (P.info? ty).map (·.size) = some cs.size) :
    (results fn tmps).run P w = .ok (.tuple #[.agg cs, Y]) w := by
  rw [results_cell_tmp h, hp, hY]
  simp [asAddr, run_loadVar_row w g t ty cs fr d hg hu hd hi]
def penZ : Value := .agg #[.int .u32 0, .int .u32 0, .int .u8 0, .int .u16 0]
def gridA (C R : Int) (v : Value) : Array Value := #[.int .i64 C, .int .i64 R, v]
theorem gridA_one (C R : Int) (A : Option Addr) (n c : Nat) : (gridA C R (.slice A n c)).all (·.oneCell') = true := by
  unfold gridA
  simp [Value.oneCell']
theorem info_grid : (Tryz.prog.info? 72).map (·.size) = some 3 := by kernel_rfl
set_option maxRecDepth 100000 in
set_option maxHeartbeats 4000000 in
theorem cellBlank_c (w : World) : Calls Tryz.prog 92 #[penZ] w fun e w' => e = .returned blankD.val ∧ Below w.heap.size w w' := by
  obtain ⟨W0, eW0⟩ : ∃ W0, W0 = (w.alloc (.cells #[.int .u32 0, .int .u32 0, .int .u8 0, .int .u16 0] 41)).alloc (.cells (CeD.arr ⟨0, 0, 0, 0, 0, 0⟩) 43) := ⟨_, rfl⟩
  obtain ⟨p, ep⟩ : ∃ p, p = w.heap.size := ⟨_, rfl⟩
  obtain ⟨q, eq⟩ : ∃ q, q = w.heap.size + 1 := ⟨_, rfl⟩
  have hb0 : Below w.heap.size w W0 := by rw [eW0]; exact ((Below.refl _ _).alloc (Nat.le_refl _) _).alloc (by simp) _
  have hp0 : W0.heap[p]? = some (.cells #[.int .u32 0, .int .u32 0, .int .u8 0, .int .u16 0] 41 (0, 0)) := by rw [eW0, ep]; exact (Below.heap_alloc _ _ _ (by simp)).trans (heap_alloc_new _ _)
  have hq0 : W0.heap[q]? = some (.cells (CeD.arr ⟨0, 0, 0, 0, 0, 0⟩) 43 (0, 0)) := by rw [eW0, eq]; exact heap_alloc2_new _ _ _
  have eW0' : (w.alloc (.cells #[.int .u32 0, .int .u32 0, .int .u8 0, .int .u16 0] 41)).alloc (.cells #[.int .i32 0, .int .u8 0, .int .u32 0, .int .u32 0, .int .u8 0, .int .u16 0] 43) = W0 := by rw [eW0]; rfl
  have x1 : W0.cell? ⟨p, 1, none⟩ = some (.int .u32 0) := heap_cell hp0 1
  have EW0 := Lib.hid eW0'
  have EQ := Lib.hid eq
  have EP := Lib.hid ep
  have HQ0 := Lib.hid hq0
  have HB0 := Lib.hid hb0
  have HPQ : Hid (w.heap.size ≤ q) := Lib.hid (by omega)
  clear eW0 ep eq hb0 hp0 hq0 eW0'
  show Calls _ _ #[.agg #[.int .u32 0, .int .u32 0, .int .u8 0, .int .u16 0]] w _
  go_enter Tryz.func92, Tryz.ntmps92
  go_upto_region 1 with (fail)
  rw [EW0.out, ← EQ.out, ← EP.out]
  go_wp2_with (first
    | (refine wpList_store_rowTo rfl 43 (.tmp 2) (.tmp 6) rfl rfl q (CeD.arr ⟨32, 0, 0, 0, 0, 0⟩) rfl rfl 43 _ HQ0.out (info_cell.trans rfl) rfl (CeD.one _) ?_))
  refine bodyPost_ret (v := .agg (CeD.arr ⟨32, 0, 0, 0, 0, 0⟩)) (results_cell_row (p := 2) (ty := 43) rfl _ _ q 43 _ (0, 0) _ rfl (setRow_heap W0 q _ _ _ _ HQ0.out) Tryz.underlying43 rfl (info_cell.trans rfl)) rfl ?_
  exact ⟨rfl, below_setRow HB0.out HPQ.out _⟩
set_option maxRecDepth 100000 in
set_option maxHeartbeats 4000000 in
theorem refBlank08_c (w : World) : Calls Tryz.prog 69 #[penZ] w fun e w' => e = .returned blankD.val ∧ Below w.heap.size w w' := by
  obtain ⟨W0, eW0⟩ : ∃ W0, W0 = (w.alloc (.cells #[.int .u32 0, .int .u32 0, .int .u8 0, .int .u16 0] 41)).alloc (.cells (CeD.arr ⟨0, 0, 0, 0, 0, 0⟩) 43) := ⟨_, rfl⟩
  obtain ⟨p, ep⟩ : ∃ p, p = w.heap.size := ⟨_, rfl⟩
  obtain ⟨q, eq⟩ : ∃ q, q = w.heap.size + 1 := ⟨_, rfl⟩
  have hb0 : Below w.heap.size w W0 := by rw [eW0]; exact ((Below.refl _ _).alloc (Nat.le_refl _) _).alloc (by simp) _
  have hp0 : W0.heap[p]? = some (.cells #[.int .u32 0, .int .u32 0, .int .u8 0, .int .u16 0] 41 (0, 0)) := by rw [eW0, ep]; exact (Below.heap_alloc _ _ _ (by simp)).trans (heap_alloc_new _ _)
  have hq0 : W0.heap[q]? = some (.cells (CeD.arr ⟨0, 0, 0, 0, 0, 0⟩) 43 (0, 0)) := by rw [eW0, eq]; exact heap_alloc2_new _ _ _
  have eW0' : (w.alloc (.cells #[.int .u32 0, .int .u32 0, .int .u8 0, .int .u16 0] 41)).alloc (.cells #[.int .i32 0, .int .u8 0, .int .u32 0, .int .u32 0, .int .u8 0, .int .u16 0] 43) = W0 := by rw [eW0]; rfl
  have x1 : W0.cell? ⟨p, 1, none⟩ = some (.int .u32 0) := heap_cell hp0 1
  have EW0 := Lib.hid eW0'
  have EQ := Lib.hid eq
  have EP := Lib.hid ep
  have HQ0 := Lib.hid hq0
  have HB0 := Lib.hid hb0
  have HPQ : Hid (w.heap.size ≤ q) := Lib.hid (by omega)
  clear eW0 ep eq hb0 hp0 hq0 eW0'
  show Calls _ _ #[.agg #[.int .u32 0, .int .u32 0, .int .u8 0, .int .u16 0]] w _
  go_enter Tryz.func69, Tryz.ntmps69
  go_upto_region 1 with (fail)
  rw [EW0.out, ← EQ.out, ← EP.out]
  go_wp2_with (first
    | (refine wpList_store_rowTo rfl 43 (.tmp 2) (.tmp 6) rfl rfl q (CeD.arr ⟨32, 0, 0, 0, 0, 0⟩) rfl rfl 43 _ HQ0.out (info_cell.trans rfl) rfl (CeD.one _) ?_))
  refine bodyPost_ret (v := .agg (CeD.arr ⟨32, 0, 0, 0, 0, 0⟩)) (results_cell_row (p := 2) (ty := 43) rfl _ _ q 43 _ (0, 0) _ rfl (setRow_heap W0 q _ _ _ _ HQ0.out) Tryz.underlying43 rfl (info_cell.trans rfl)) rfl ?_
  exact ⟨rfl, below_setRow HB0.out HPQ.out _⟩
/-- k blanks, the rest as made. -/
def halfB (N k : Nat) : List CeD := List.replicate k blankD ++ List.replicate (N - k) CeD.zero
theorem halfB_len {N k : Nat} (h : k ≤ N) : (halfB N k).length = N := by simp [halfB]; omega
theorem halfB_set {N k : Nat} (h : k < N) : (halfB N k).set k blankD = halfB N (k + 1) := by
  unfold halfB
  rw [List.set_append_right _ _ (by simp), List.length_replicate, Nat.sub_self, show N - k = (N - (k + 1)) + 1 by omega, List.replicate_succ, List.set_cons_zero]
  rw [List.replicate_succ', List.append_assoc]; rfl
theorem halfB_end (N : Nat) : halfB N N = List.replicate N blankD := by simp [halfB]
set_option maxRecDepth 100000 in
set_option maxHeartbeats 16000000 in
theorem gridNew_c (C R N : Nat) (w : World) (hf : fitsI (C : Int) (R : Int) = true) (hN : N = C * R) :
    Calls Tryz.prog 76 #[.int .i64 (C : Int), .int .i64 (R : Int)] w fun e w' => ∃ b, e = .returned (.tuple #[.agg (gridA C R (.slice (some ⟨b, 0, none⟩) N N)), .int .i64 0]) ∧ OwnC w' w.heap.size (.slice (some ⟨b, 0, none⟩) N N) (List.replicate N blankD) ∧ Below w.heap.size w w' := by
  have hN2 : N ≤ 1920 := by
    simp only [fitsI, Bool.and_eq_true, decide_eq_true_eq] at hf
    have := Nat.mul_le_mul (show C ≤ 80 by omega) (show R ≤ 24 by omega)
    omega
  have eM : (C : Int) * (R : Int) = (N : Int) := by rw [hN]; exact (Int.natCast_mul C R).symm
  have m1 : (0 : Int) ≤ (C : Int) * (R : Int) := by omega
  have m2 : (C : Int) * (R : Int) ≤ 1920 := by omega
  have HF := Lib.hid hf
  have EM := Lib.hid eM
  obtain ⟨W0, eW0⟩ : ∃ W0, W0 = w.alloc (.cells (gridA 0 0 (.slice none 0 0)) 72) := ⟨_, rfl⟩
  obtain ⟨q, eq⟩ : ∃ q, q = w.heap.size := ⟨_, rfl⟩
  have HB0 : Hid (Below w.heap.size w W0) := Lib.hid (by rw [eW0]; exact (Below.refl _ _).alloc (Nat.le_refl _) _)
  have HQ0 : Hid (W0.heap[q]? = some (.cells (gridA 0 0 (.slice none 0 0)) 72 (0, 0))) := Lib.hid (by rw [eW0, eq]; exact heap_alloc_new _ _)
  have EW0 : Hid (w.alloc (.cells #[.int .i64 0, .int .i64 0, .slice none 0 0] 72) = W0) := Lib.hid (by rw [eW0]; rfl)
  have EQ := Lib.hid eq
  clear hf eM hN eW0 eq
  go_enter Tryz.func76, Tryz.ntmps76
  go_upto_region 1 with (fail)
  rw [EW0.out, ← EQ.out]
  go_upto_region 3 with (go_at_call 71; (with_reducible refine (fits_c (C : Int) (R : Int) W0).mono ?_); rintro _ wx ⟨rfl, hwx⟩; rw [hwx, HF.out]; clear hwx)
  go_upto_region 4 with (first
    | (at_make; refine wpList_makeC _ rfl (.tmp 17) (.tmp 17) rfl _ _ _ _ N rfl rfl EM.out EM.out (by omega) ?_; intro w1 h1 h2 _; have H1 := Lib.hid h1; have HB1 := Lib.hid h2; clear h1 h2)
    | (refine wpList_store_rowTo rfl 72 (.tmp 6) (.tmp 19) rfl rfl w1.heap.size (gridA (C : Int) (R : Int) (.slice (some ⟨W0.heap.size, 0, none⟩) N N)) rfl rfl 72 _ (heap_alloc_new w1 _) (info_grid.trans rfl) rfl (gridA_one _ _ _ _ _) ?_))
  obtain ⟨b, eb⟩ : ∃ b, b = W0.heap.size := ⟨_, rfl⟩
  rw [← eb] at H1 ⊢
  generalize eX : World.alloc w1 _ = X
  have hx : Below w1.heap.size w1 X := by rw [← eX]; exact (Below.refl _ _).alloc (Nat.le_refl _) _
  obtain ⟨old, hq2⟩ : ∃ old, X.heap[w1.heap.size]? = some (.cells old 72 (0, 0)) := ⟨_, by rw [← eX]; exact heap_alloc_new _ _⟩
  obtain ⟨g, eg⟩ : ∃ g, g = w1.heap.size := ⟨_, rfl⟩
  obtain ⟨W2, eW2⟩ : ∃ W2, W2 = X.setRow w1.heap.size (gridA (C : Int) (R : Int) (.slice (some ⟨b, 0, none⟩) N N)) := ⟨_, rfl⟩
  rw [← eW2, ← eg]
  have hfar : ∀ j, j < w1.heap.size → W2.heap[j]? = w1.heap[j]? := fun j hj => by rw [eW2]; exact (setRow_other _ _ _ _ (Nat.ne_of_lt hj)).trans (hx.block j hj)
  have HG2 : Hid (W2.heap[g]? = some (.cells (gridA (C : Int) (R : Int) (.slice (some ⟨b, 0, none⟩) N N)) 72 (0, 0))) := Lib.hid (by rw [eW2, eg]; exact setRow_heap _ _ _ _ _ _ hq2)
  have HO2 : Hid (OwnC W2 b (.slice (some ⟨b, 0, none⟩) N N) (halfB N 0)) := Lib.hid (by
    have h : OwnC w1 b (.slice (some ⟨b, 0, none⟩) N N) (halfB N 0) := by simpa [halfB] using H1.out
    exact OwnC.keep h (fun j e => hfar j (OwnC.lt h j e).2))
  have hB01 := HB0.out.trans (HB1.out.mono HB0.out.size)
  have HQ2 : Hid (W2.heap[q]? = some (.cells (gridA 0 0 (.slice none 0 0)) 72 (0, 0))) := Lib.hid ((hfar q (Nat.lt_of_lt_of_le (heap_lt HQ0.out) HB1.out.size)).trans (HB1.out.block q (heap_lt HQ0.out) |>.trans HQ0.out))
  have HB2 : Hid (Below w.heap.size w W2) := Lib.hid (by rw [eW2]; exact below_setRow (hB01.trans (hx.mono hB01.size)) hB01.size _)
  have HS : Hid (q < W0.heap.size ∧ b < g ∧ W0.heap.size ≤ b ∧ w.heap.size ≤ q ∧ w.heap.size ≤ W0.heap.size) := Lib.hid ⟨heap_lt HQ0.out, by rw [eg]; exact (OwnC.lt H1.out b rfl).2, (by omega), Nat.le_of_eq EQ.out.symm, HB0.out.size⟩
  have y2 : W2.cell? ⟨g, 2, none⟩ = some (.slice (some ⟨b, 0, none⟩) N N) := heap_cell HG2.out 2
  clear eX hx hq2 eg eW2 hfar hB01 eb m1 m2
  go_wp2_with (fail)
  clear y2
  go_loopw [23] (fun i wr => ∃ k : Nat, k ≤ N ∧ i = .int .i64 k ∧ Hid (OwnC wr b (.slice (some ⟨b, 0, none⟩) N N) (halfB N k)) ∧ Hid (wr.heap[g]? = some (.cells (gridA (C : Int) (R : Int) (.slice (some ⟨b, 0, none⟩) N N)) 72 (0, 0))) ∧ Hid (wr.heap[q]? = some (.cells (gridA 0 0 (.slice none 0 0)) 72 (0, 0))) ∧ Hid (Below w.heap.size w wr)) (fun i _ => N - (intOf i).toNat)
  case atStart => exact ⟨0, Nat.zero_le _, rfl, HO2, HG2, HQ2, HB2⟩
  case round =>
    obtain ⟨k, hk, rfl, HO, HG, HQ, HBW⟩ := hrel
    rcases Nat.lt_or_ge k N with hlt | hge
    · have hlt' : (k : Int) < (N : Int) := by omega
      obtain ⟨M, eM⟩ : ∃ M, M = halfB N k := ⟨_, rfl⟩
      have HML : Hid (M.length = N) := Lib.hid (by rw [eM]; exact halfB_len hk)
      have HM2 : Hid (M.set k blankD = halfB N (k + 1)) := Lib.hid (by rw [eM]; exact halfB_set hlt)
      have HOM : Hid (OwnC wr b (.slice (some ⟨b, 0, none⟩) N N) M) := Lib.hid (by rw [eM]; exact HO.out)
      have HBL : Hid (b < wr.heap.size) := Lib.hid (OwnC.lt HO.out b rfl).2
      clear eM HO
      go_upto_region 7 with (fail)
      refine wp_region_rt 34 6 [Rl.eq (.pointer (some ⟨g, 2, none⟩)), Rl.eq (.slice (some ⟨b, 0, none⟩) N N), Rl.eq (.int .i64 (k : Int)), Rl.eq (.agg #[.int .u32 0, .int .u32 0, .int .u8 0, .int .u16 0]), Rl.eq (.agg #[.int .i32 32, .int .u8 0, .int .u32 0, .int .u32 0, .int .u8 0, .int .u16 0]), Rl.eq (.pointer (some ⟨b, k * 6, none⟩))] [26, 27, 28, 29, 30, 31] (by kernel_rfl) rfl (by kernel_rfl) (by kernel_rfl) (by decide) (by kernel_rfl) (by kernel_rfl) ?_ ?_
      · simp only [List.take_succ_cons, List.take_zero]
        repeat (first | exact AllFrom.nil_ | (refine AllFrom.cons_ (by rfl) ?_ ?_; rotate_left))
        · intro f w' g_ hF hD
          have h6 : f 6 = .pointer (some ⟨g, 0, none⟩) := hF 6 (by kernel_rfl)
          rw [if_pos (wanted_none rfl)]
          clear hF hD
          exact gives_val (by simp only [execOp, evF, h6]; first | rfl | go_simp) ⟨Gr.refl _, rfl⟩
        · intro f w' g_ hF hD
          have h26 : f 26 = (.pointer (some ⟨g, 2, none⟩)) := hD 0 26 (by kernel_rfl) rfl
          rw [if_pos (wanted_none rfl)]
          clear hF hD
          have cl : w'.cell? ⟨g, 2, none⟩ = some (.slice (some ⟨b, 0, none⟩) N N) := heap_cell ((((show Below wr.heap.size wr w' from (below_drewN (Below.refl _ _) 1).trans g_)).block g (heap_lt HG.out)).trans HG.out) 2
          exact gives_val (by simp only [execOp, evF, h26]; go_simp) ⟨Gr.refl _, rfl⟩
        · intro f w' g_ hF hD
          have h7 : f 7 = .int .i64 (k : Int) := hF 7 (by kernel_rfl)
          rw [if_pos (wanted_none rfl)]
          clear hF hD
          exact gives_val (by simp only [execOp, evF, h7]; first | rfl | go_simp) ⟨Gr.refl _, rfl⟩
        · intro f w' g_ hF hD
          rw [if_pos (wanted_none rfl)]
          clear hF hD
          exact gives_build 41 _ rfl #[.int .u32 0, .int .u32 0, .int .u8 0, .int .u16 0] (by simp only [List.map_toArray, List.map_cons, List.map_nil, evF]; kernel_rfl) ⟨Gr.refl _, rfl⟩
        · intro f w' g_ hF hD
          have h29 : f 29 = (.agg #[.int .u32 0, .int .u32 0, .int .u8 0, .int .u16 0]) := hD 3 29 (by kernel_rfl) rfl
          rw [if_pos (wanted_none rfl)]
          clear hF hD
          refine gives_func rfl Tryz.func92 (by kernel_rfl) rfl (by simp only [List.map_toArray, List.map_cons, List.map_nil, evF, h29]; rfl) ((cellBlank_c w').mono ?_)
          rintro e w'' ⟨rfl, hb⟩
          exact ⟨_, rfl, hb, rfl⟩
        · intro f w' g_ hF hD
          have h27 : f 27 = (.slice (some ⟨b, 0, none⟩) N N) := hD 1 27 (by kernel_rfl) rfl
          have h28 : f 28 = (.int .i64 (k : Int)) := hD 2 28 (by kernel_rfl) rfl
          rw [if_pos (wanted_none rfl)]
          clear hF hD
          exact gives_val (by simp only [execOp, evF, h27, h28]; first | rfl | go_simp) ⟨Gr.refl _, rfl⟩
      intro f w4 gg hD
      have h30 : f 30 = .agg #[.int .i32 32, .int .u8 0, .int .u32 0, .int .u32 0, .int .u8 0, .int .u16 0] := hD 4 30 (by decide) rfl
      have h31 : f 31 = .pointer (some ⟨b, k * 6, none⟩) := hD 5 31 (by decide) rfl
      have kg : Below wr.heap.size wr w4 := (below_drewN (Below.refl _ _) 1).trans gg
      simp only [List.drop_succ_cons, List.drop_zero, putAll, List.setIfInBounds_toArray, List.set_cons_zero, List.set_cons_succ, h30, h31]
      have ho4 := OwnC.below HOM.out kg
      obtain ⟨yo, -, z0, z1, z2, z3, z4, z5⟩ := ho4.cellsAt k (by rw [HML.out]; exact hlt)
      have f0 := ho4.free (k * 6)
      have f1 := ho4.free (k * 6 + 1)
      have f2 := ho4.free (k * 6 + 2)
      have f3 := ho4.free (k * 6 + 3)
      have f4 := ho4.free (k * 6 + 4)
      have f5 := ho4.free (k * 6 + 5)
      have HO4 := Lib.hid ho4
      have HK4 := Lib.hid kg
      clear hD gg kg h30 h31 ho4
      go_upto_region 8 with (fail)
      obtain ⟨W5, eW5⟩ : ∃ W5, W5 = (((((w4.setCell ⟨b, k * 6, none⟩ (.int .i32 blankD.r)).setCell ⟨b, k * 6 + 1, none⟩ (.int .u8 blankD.w)).setCell ⟨b, k * 6 + 2, none⟩ (.int .u32 blankD.fg)).setCell ⟨b, k * 6 + 3, none⟩ (.int .u32 blankD.bg)).setCell ⟨b, k * 6 + 4, none⟩ (.int .u8 blankD.at_)).setCell ⟨b, k * 6 + 5, none⟩ (.int .u16 blankD.ln) := ⟨_, rfl⟩
      have eW5' : (((((w4.setCell ⟨b, k * 6, none⟩ (.int .i32 32)).setCell ⟨b, k * 6 + 1, none⟩ (.int .u8 0)).setCell ⟨b, k * 6 + 2, none⟩ (.int .u32 0)).setCell ⟨b, k * 6 + 3, none⟩ (.int .u32 0)).setCell ⟨b, k * 6 + 4, none⟩ (.int .u8 0)).setCell ⟨b, k * 6 + 5, none⟩ (.int .u16 0) = W5 := by rw [eW5]; rfl
      rw [eW5']
      have hgb : g ≠ b := by have := HS.out.2.1; omega
      have hqb : q ≠ b := by have h1 := HS.out.1; have h2 := HS.out.2.2.1; omega
      have HO5 : Hid (OwnC W5 b (.slice (some ⟨b, 0, none⟩) N N) (halfB N (k + 1))) := Lib.hid (by
        have h := HO4.out.setAll k (by rw [HML.out]; exact hlt) blankD
        rw [HM2.out] at h
        rw [eW5]; exact h)
      have HG5 := Lib.hid ((show W5.heap[g]? = wr.heap[g]? by rw [eW5]; exact (six_far _ _ _ _ _ _ _ _ _ _ _ _ _ _ _ hgb).trans (HK4.out.block g (heap_lt HG.out))).trans HG.out)
      have HQ5 := Lib.hid ((show W5.heap[q]? = wr.heap[q]? by rw [eW5]; exact (six_far _ _ _ _ _ _ _ _ _ _ _ _ _ _ _ hqb).trans (HK4.out.block q (heap_lt HQ.out))).trans HQ.out)
      have HB5 : Hid (Below w.heap.size w W5) := Lib.hid (by
        rw [eW5]; exact six_below (HBW.out.trans (HK4.out.mono HBW.out.size)) _ _ _ _ _ _ _ _ _ _ _ _ _ (by have h1 := HS.out.2.2; omega))
      clear z0 z1 z2 z3 z4 z5 f0 f1 f2 f3 f4 f5 eW5 eW5' hgb hqb HO4 HK4
      go_wp2_with (fail)
      go_roundw
      case rel => exact ⟨k + 1, by omega, by go_num, HO5, HG5, HQ5, HB5⟩
      case measure => simp [intOf]; omega
    · obtain rfl : N = k := by omega
      have hge' : ¬ ((N : Int) < (N : Int)) := by omega
      have HO9 : Hid (OwnC wr b (.slice (some ⟨b, 0, none⟩) N N) (List.replicate N blankD)) := Lib.hid (by have h := HO.out; rw [halfB_end] at h; exact h)
      clear hge hk HO
      go_wp2_with (first
        | (refine wpList_load_row rfl 72 (.tmp 6) rfl g rfl 72 _ (0, 0) _ HG.out Tryz.underlying72 rfl (info_grid.trans rfl) ?_)
        | (refine wpList_store_rowTo rfl 72 (.tmp 4) (.tmp 33) rfl rfl q (gridA (C : Int) (R : Int) (.slice (some ⟨b, 0, none⟩) N N)) rfl rfl 72 _ HQ.out (info_grid.trans rfl) rfl (gridA_one _ _ _ _ _) ?_))
      refine bodyPost_ret (v := .tuple #[.agg (gridA (C : Int) (R : Int) (.slice (some ⟨b, 0, none⟩) N N)), .int .i64 0]) (results_row_tmp (p := 4) (u := 5) (ty := 72) rfl _ _ q 72 _ (0, 0) _ _ rfl rfl (setRow_heap wr q _ _ _ _ HQ.out) Tryz.underlying72 rfl (info_grid.trans rfl)) rfl ?_
      exact ⟨b, rfl, OwnC.low (OwnC.keep HO9.out (fun j e => setRow_other _ _ _ _ (by have h1 := (OwnC.lt HO9.out j e).1; have h2 := HS.out.1; have h3 := HS.out.2.2.1; omega))) (by have h1 := HS.out.2.2; omega), below_setRow HBW.out HS.out.2.2.2.1 _⟩
end Go.Proofs.YtndjggabdajbfaaGreatDoor



/- A new terminal's block; what frame and here answer of it; parse.New. Conditions: none. -/
namespace Go.Proofs.YtndjggabdajbfaaGreatDoor
open Go Go.RowKit Go.Lib

/-- A new terminal's cells. -/
structure TermC (cur : Array Value) (C R : Int) (v : Value) : Prop where
  sz : cur.size = 114
  x0 : cur[0]? = some (.int .i64 0)
  x1 : cur[1]? = some (.int .i64 0)
  x7 : cur[7]? = some (.int .i64 C)
  x8 : cur[8]? = some (.int .i64 R)
  x9 : cur[9]? = some (.int .i64 C)
  x10 : cur[10]? = some (.int .i64 R)
  x11 : cur[11]? = some v
  x15 : cur[15]? = some (.int .i64 0)
  x21 : cur[21]? = some (.bool false)
  x22 : cur[22]? = some (.int .u8 0)
  x110 : cur[110]? = some (.string ⟨#[]⟩)
  x111 : cur[111]? = some (.slice none 0 0)
def TermB (w : World) (g : Nat) (C R : Int) (v : Value) : Prop := ∃ cur, w.heap[g]? = some (.cells cur 134 (0, 0)) ∧ TermC cur C R v
theorem TermC.set {cur : Array Value} {C R : Int} {v : Value} (h : TermC cur C R v) (j : Nat) (u : Value) (hj : (17 ≤ j ∧ j ≤ 18) ∨ (23 ≤ j ∧ j ≤ 102)) : TermC (cur.setIfInBounds j u) C R v := by
  have k : ∀ i, i ≠ j → (cur.setIfInBounds j u)[i]? = cur[i]? := fun i hi => Array.getElem?_setIfInBounds_ne (Ne.symm hi)
  exact ⟨by rw [Array.size_setIfInBounds]; exact h.sz, (k 0 (by omega)).trans h.x0, (k 1 (by omega)).trans h.x1, (k 7 (by omega)).trans h.x7, (k 8 (by omega)).trans h.x8, (k 9 (by omega)).trans h.x9, (k 10 (by omega)).trans h.x10, (k 11 (by omega)).trans h.x11, (k 15 (by omega)).trans h.x15,
    (k 21 (by omega)).trans h.x21, (k 22 (by omega)).trans h.x22, (k 110 (by omega)).trans h.x110, (k 111 (by omega)).trans h.x111⟩
theorem TermB.set {w : World} {g : Nat} {C R : Int} {v : Value} (h : TermB w g C R v) (j : Nat) (u : Value) (hj : (17 ≤ j ∧ j ≤ 18) ∨ (23 ≤ j ∧ j ≤ 102)) : TermB (w.setCell ⟨g, j, none⟩ u) g C R v := by
  obtain ⟨cur, hg, hc⟩ := h
  exact ⟨_, heap_set hg j u, hc.set j u hj⟩
theorem TermB.below {w w' : World} {g : Nat} {C R : Int} {v : Value} (h : TermB w g C R v) (hb : Below w.heap.size w w') : TermB w' g C R v := by
  obtain ⟨cur, hg, hc⟩ := h
  exact ⟨cur, (hb.block g (heap_lt hg)).trans hg, hc⟩
theorem TermB.cell {w : World} {g : Nat} {C R : Int} {v : Value} (h : TermB w g C R v) (j : Nat) (hj : j < 114) : ∃ u, w.cell? ⟨g, j, none⟩ = some u := by
  obtain ⟨cur, hg, hc⟩ := h
  refine ⟨cur[j]'(by rw [hc.sz]; exact hj), ?_⟩
  rw [heap_cell hg j]
  exact Array.getElem?_eq_getElem _
theorem TermB.free {w : World} {g : Nat} {C R : Int} {v : Value} (h : TermB w g C R v) (j : Nat) : w.frozen? ⟨g, j, none⟩ = false := by
  obtain ⟨cur, hg, _⟩ := h
  exact heap_free hg j
theorem TermB.cells {w : World} {g : Nat} {C R : Int} {v : Value} (h : TermB w g C R v) :
    w.cell? ⟨g, 0, none⟩ = some (.int .i64 0) ∧ w.cell? ⟨g, 1, none⟩ = some (.int .i64 0) ∧ w.cell? ⟨g, 7, none⟩ = some (.int .i64 C) ∧ w.cell? ⟨g, 8, none⟩ = some (.int .i64 R) ∧ w.cell? ⟨g, 9, none⟩ = some (.int .i64 C) ∧ w.cell? ⟨g, 10, none⟩ = some (.int .i64 R) ∧ w.cell? ⟨g, 11, none⟩ = some v ∧
    w.cell? ⟨g, 15, none⟩ = some (.int .i64 0) ∧ w.cell? ⟨g, 21, none⟩ = some (.bool false) ∧ w.cell? ⟨g, 22, none⟩ = some (.int .u8 0) ∧ w.cell? ⟨g, 110, none⟩ = some (.string ⟨#[]⟩) ∧ w.cell? ⟨g, 111, none⟩ = some (.slice none 0 0) := by
  obtain ⟨cur, hg, hc⟩ := h
  exact ⟨(heap_cell hg 0).trans hc.x0, (heap_cell hg 1).trans hc.x1, (heap_cell hg 7).trans hc.x7, (heap_cell hg 8).trans hc.x8, (heap_cell hg 9).trans hc.x9, (heap_cell hg 10).trans hc.x10, (heap_cell hg 11).trans hc.x11, (heap_cell hg 15).trans hc.x15, (heap_cell hg 21).trans hc.x21, (heap_cell hg 22).trans hc.x22, (heap_cell hg 110).trans hc.x110, (heap_cell hg 111).trans hc.x111⟩
/-- Nothing but the block is written. -/
structure OnlyG (g : Nat) (w w' : World) : Prop where
  sz : w'.heap.size = w.heap.size
  blk : ∀ j, j ≠ g → w'.heap[j]? = w.heap[j]?
  low : ∀ {B : Nat} {w0 : World}, B ≤ g → Below B w0 w → Below B w0 w'
theorem OnlyG.refl (g : Nat) (w : World) : OnlyG g w w := ⟨rfl, fun _ _ => rfl, fun _ h => h⟩
theorem OnlyG.set {g : Nat} {w w' : World} (h : OnlyG g w w') (j : Nat) (u : Value) : OnlyG g w (w'.setCell ⟨g, j, none⟩ u) :=
  ⟨by simp [World.setCell, h.sz], fun i hi => (heap_far _ hi).trans (h.blk i hi), fun hB hb => below_set (h.low hB hb) g _ _ hB⟩
set_option maxRecDepth 100000 in
set_option maxHeartbeats 8000000 in
theorem frame_c (g : Nat) (C : Int) (R : Nat) (v : Value) (w : World) (h : TermB w g C (R : Int) v) (h1 : 1 ≤ R) (h2 : R ≤ 24) :
    Calls Tryz.prog 78 #[.pointer (some ⟨g, 0, none⟩)] w fun e w' => e = .returned (.tuple #[]) ∧ TermB w' g C (R : Int) v ∧ OnlyG g w w' := by
  have x8 := h.cells.2.2.2.1
  obtain ⟨u17, x17⟩ := h.cell 17 (by decide)
  obtain ⟨u18, x18⟩ := h.cell 18 (by decide)
  have f17 := h.free 17
  have f18 := h.free 18
  have H := Lib.hid h
  clear h
  go_enter Tryz.func78, Tryz.ntmps78
  go_upto_region 1 with (fail)
  obtain ⟨W1, eW1⟩ : ∃ W1, W1 = (w.setCell ⟨g, 17, none⟩ (.int .i64 0)).setCell ⟨g, 18, none⟩ (.int .i64 ((R : Int) - 1)) := ⟨_, rfl⟩
  rw [← eW1]
  have HT1 : Hid (TermB W1 g C (R : Int) v) := Lib.hid (by rw [eW1]; exact (H.out.set 17 _ (by omega)).set 18 _ (by omega))
  have HO1 : Hid (OnlyG g w W1) := Lib.hid (by rw [eW1]; exact ((OnlyG.refl g w).set 17 _).set 18 _)
  clear eW1 x8 x17 x18 f17 f18
  go_wp2_with (fail)
  go_loopw [14] (fun i wr => ∃ k : Nat, k ≤ 80 ∧ i = .int .i64 k ∧ Hid (TermB wr g C (R : Int) v) ∧ Hid (OnlyG g w wr)) (fun i _ => 80 - (intOf i).toNat)
  case atStart => exact ⟨0, by omega, rfl, HT1, HO1⟩
  case round =>
    obtain ⟨k, hk, rfl, HT, HO⟩ := hrel
    rcases Nat.lt_or_ge k 80 with hlt | hge
    · have hlt' : (k : Int) < 80 := by omega
      obtain ⟨u, xu⟩ := HT.out.cell (23 + k) (by omega)
      have fu := HT.out.free (23 + k)
      obtain ⟨b1, e1⟩ : ∃ b, ((k : Int) % 8 == 0) = b := ⟨_, rfl⟩
      obtain ⟨b2, e2⟩ : ∃ b, decide (0 < (k : Int)) = b := ⟨_, rfl⟩
      cases b1 <;> cases b2 <;>
      · go_upto_region 5 with (fail)
        generalize eW5 : World.setCell wr ⟨g, 23 + k, none⟩ _ = W5
        skip
        have HT5 : Hid (TermB W5 g C (R : Int) v) := Lib.hid (by rw [← eW5]; exact HT.out.set (23 + k) _ (by omega))
        have HO5 : Hid (OnlyG g w W5) := Lib.hid (by rw [← eW5]; exact HO.out.set (23 + k) _)
        clear eW5 xu fu e1 e2
        go_wp2_with (fail)
        go_roundw
        case rel => exact ⟨k + 1, by omega, by go_num, HT5, HO5⟩
        case measure => simp [intOf]; omega
    · obtain rfl : 80 = k := by omega
      go_wp2_with (fail)
      go_end0
      exact ⟨rfl, HT.out, HO.out⟩
set_option maxRecDepth 100000 in
set_option maxHeartbeats 4000000 in
theorem utfNew_c (w : World) : Calls Tryz.prog 93 #[] w fun e w' => ∃ a, e = .returned (.pointer a) ∧ Below w.heap.size w w' := by
  go_enter Tryz.func93, Tryz.ntmps93
  go_wp2_with (fail)
  go_ret
  exact ⟨_, rfl, (Below.refl _ _).alloc (Nat.le_refl _) _⟩
set_option maxRecDepth 100000 in
set_option maxHeartbeats 4000000 in
theorem parseNew_c (w : World) : Calls Tryz.prog 77 #[] w fun e w' => ∃ a, e = .returned (.pointer a) ∧ Below w.heap.size w w' := by
  go_enter Tryz.func77, Tryz.ntmps77
  go_wp2_with (go_at_call 93; (with_reducible refine (utfNew_c _).mono ?_); rintro _ w1 ⟨a1, rfl, hb1⟩; have HB1 := Lib.hid hb1; clear hb1)
  go_ret
  exact ⟨_, rfl, HB1.out.alloc HB1.out.size _⟩
set_option maxRecDepth 100000 in
set_option maxHeartbeats 4000000 in
theorem here_c (g : Nat) (C R : Int) (A : Option Addr) (n c : Nat) (w : World) (h : TermB w g C R (.slice A n c)) :
    Calls Tryz.prog 80 #[.pointer (some ⟨g, 0, none⟩)] w fun e w' => e = .returned (.agg (gridA C R (.slice A n c))) ∧ Below w.heap.size w w' := by
  obtain ⟨W0, eW0⟩ : ∃ W0, W0 = w.alloc (.cells (gridA 0 0 (.slice none 0 0)) 72) := ⟨_, rfl⟩
  obtain ⟨q, eq⟩ : ∃ q, q = w.heap.size := ⟨_, rfl⟩
  have hb0 : Below w.heap.size w W0 := by rw [eW0]; exact (Below.refl _ _).alloc (Nat.le_refl _) _
  have HB0 := Lib.hid hb0
  have HQ0 : Hid (W0.heap[q]? = some (.cells (gridA 0 0 (.slice none 0 0)) 72 (0, 0))) := Lib.hid (by rw [eW0, eq]; exact heap_alloc_new _ _)
  have EW0 : Hid (w.alloc (.cells #[.int .i64 0, .int .i64 0, .slice none 0 0] 72) = W0) := Lib.hid (by rw [eW0]; rfl)
  have EQ := Lib.hid eq
  have HQW : Hid (w.heap.size ≤ q) := Lib.hid (Nat.le_of_eq eq.symm)
  have HT := Lib.hid (h.below hb0)
  clear hb0 eW0 eq h
  go_enter Tryz.func80, Tryz.ntmps80
  go_upto_region 1 with (fail)
  rw [EW0.out, ← EQ.out]
  refine wp_region_rt 12 9 [Rl.eq (.pointer (some ⟨g, 0, none⟩)), Rl.eq (.pointer (some ⟨g, 0, none⟩)), Rl.eq (.pointer (some ⟨g, 0, none⟩)), Rl.eq (.pointer (some ⟨g, 15, none⟩)), Rl.eq (.int .i64 0), Rl.eq (.pointer (some ⟨g, 0, none⟩)), Rl.eq (.pointer (some ⟨g, 9, none⟩)), Rl.eq (.pointer (some ⟨g, 9, none⟩)), Rl.eq (.agg (gridA C R (.slice A n c)))] [3, 4, 5, 6, 7, 8, 9, 10, 11] (by kernel_rfl) rfl (by kernel_rfl) (by kernel_rfl) (by decide) (by kernel_rfl) (by kernel_rfl) ?_ ?_
  · simp only [List.take_succ_cons, List.take_zero]
    repeat (first | exact AllFrom.nil_ | (refine AllFrom.cons_ (by rfl) ?_ ?_; rotate_left))
    · intro f w' g_ hF hD
      have h0 : f 0 = .pointer (some ⟨g, 0, none⟩) := hF 0 (by kernel_rfl)
      rw [if_pos (wanted_none rfl)]
      clear hF hD
      exact gives_val (by simp only [execOp, evF, h0]; first | rfl | go_simp) ⟨Gr.refl _, rfl⟩
    · intro f w' g_ hF hD
      have h0 : f 0 = .pointer (some ⟨g, 0, none⟩) := hF 0 (by kernel_rfl)
      rw [if_pos (wanted_none rfl)]
      clear hF hD
      exact gives_val (by simp only [execOp, evF, h0]; first | rfl | go_simp) ⟨Gr.refl _, rfl⟩
    · intro f w' g_ hF hD
      have h4 : f 4 = (.pointer (some ⟨g, 0, none⟩)) := hD 1 4 (by kernel_rfl) rfl
      rw [if_pos (wanted_none rfl)]
      clear hF hD
      exact gives_val (by simp only [execOp, evF, h4]; first | rfl | go_simp) ⟨Gr.refl _, rfl⟩
    · intro f w' g_ hF hD
      have h5 : f 5 = (.pointer (some ⟨g, 0, none⟩)) := hD 2 5 (by kernel_rfl) rfl
      rw [if_pos (wanted_none rfl)]
      clear hF hD
      exact gives_val (by simp only [execOp, evF, h5]; first | rfl | go_simp) ⟨Gr.refl _, rfl⟩
    · intro f w' g_ hF hD
      have h6 : f 6 = (.pointer (some ⟨g, 15, none⟩)) := hD 3 6 (by kernel_rfl) rfl
      rw [if_pos (wanted_none rfl)]
      clear hF hD
      have kt : TermB w' g C R (.slice A n c) := HT.out.below (show Below W0.heap.size W0 w' from (below_drewN (Below.refl _ _) 1).trans g_)
      have cl := kt.cells.2.2.2.2.2.2.2.1
      exact gives_val (by simp only [execOp, evF, h6]; go_simp) ⟨Gr.refl _, rfl⟩
    · intro f w' g_ hF hD
      have h3 : f 3 = (.pointer (some ⟨g, 0, none⟩)) := hD 0 3 (by kernel_rfl) rfl
      rw [if_pos (wanted_none rfl)]
      clear hF hD
      exact gives_val (by simp only [execOp, evF, h3]; first | rfl | go_simp) ⟨Gr.refl _, rfl⟩
    · intro f w' g_ hF hD
      have h8 : f 8 = (.pointer (some ⟨g, 0, none⟩)) := hD 5 8 (by kernel_rfl) rfl
      rw [if_pos (wanted_none rfl)]
      clear hF hD
      exact gives_val (by simp only [execOp, evF, h8]; first | rfl | go_simp) ⟨Gr.refl _, rfl⟩
    · intro f w' g_ hF hD
      have h9 : f 9 = (.pointer (some ⟨g, 9, none⟩)) := hD 6 9 (by kernel_rfl) rfl
      have h7 : f 7 = (.int .i64 0) := hD 4 7 (by kernel_rfl) rfl
      rw [if_pos (wanted_none rfl)]
      clear hF hD
      exact gives_val (by simp only [execOp, evF, h9, h7]; first | rfl | go_simp) ⟨Gr.refl _, rfl⟩
    · intro f w' g_ hF hD
      have h10 : f 10 = (.pointer (some ⟨g, 9, none⟩)) := hD 7 10 (by kernel_rfl) rfl
      rw [if_pos (wanted_none rfl)]
      clear hF hD
      have kt : TermB w' g C R (.slice A n c) := HT.out.below (show Below W0.heap.size W0 w' from (below_drewN (Below.refl _ _) 1).trans g_)
      exact gives_load_cells 72 (.tmp 10) rfl ⟨g, 9, none⟩ (by simp only [evF, h10]) [.int .i64 C, .int .i64 R, .slice A n c] (.agg (gridA C R (.slice A n c))) rfl _ (fun j v hv => by
        rw [addr_add]
        match j with
        | 0 => rw [← hv]; exact kt.cells.2.2.2.2.1
        | 1 => rw [← hv]; exact kt.cells.2.2.2.2.2.1
        | 2 => rw [← hv]; exact kt.cells.2.2.2.2.2.2.1
        | j + 3 => simp at hv) Tryz.underlying72 rfl (info_grid.trans rfl) ⟨Gr.refl _, rfl⟩
  intro f w4 gg hD
  have h11 : f 11 = .agg (gridA C R (.slice A n c)) := hD 8 11 (by decide) rfl
  have kg : Below W0.heap.size W0 w4 := (below_drewN (Below.refl _ _) 1).trans gg
  simp only [List.drop_succ_cons, List.drop_zero, putAll, List.setIfInBounds_toArray, List.set_cons_zero, List.set_cons_succ, h11]
  have HQ4 : Hid (w4.heap[q]? = some (.cells (gridA 0 0 (.slice none 0 0)) 72 (0, 0))) := Lib.hid ((kg.block q (heap_lt HQ0.out)).trans HQ0.out)
  have HB4 := Lib.hid (HB0.out.trans (kg.mono HB0.out.size))
  clear hD gg kg h11
  go_wp2_with (first
    | (refine wpList_store_rowTo rfl 72 (.tmp 2) (.tmp 11) rfl rfl q (gridA C R (.slice A n c)) rfl rfl 72 _ HQ4.out (info_grid.trans rfl) rfl (gridA_one _ _ _ _ _) ?_))
  refine bodyPost_ret (v := .agg (gridA C R (.slice A n c))) (results_cell_row (p := 2) (ty := 72) rfl _ _ q 72 _ (0, 0) _ rfl (setRow_heap w4 q _ _ _ _ HQ4.out) Tryz.underlying72 rfl (info_grid.trans rfl)) rfl ?_
  exact ⟨rfl, below_setRow HB4.out HQW.out _⟩
end Go.Proofs.YtndjggabdajbfaaGreatDoor



/- What emul.New, links.Canon (cells without links), Term.Screen of a new terminal and project.Blank answer. Conditions: none. -/
namespace Go.Proofs.YtndjggabdajbfaaGreatDoor
open Go Go.RowKit Go.Lib

def termA (C R : Int) (b d N : Nat) (a : Option Addr) : Array Value := #[.int .i64 0, .int .i64 0, .int .u32 0, .int .u32 0, .int .u8 0, .int .u16 0, .bool false, .int .i64 C, .int .i64 R, .int .i64 C, .int .i64 R, .slice (some ⟨b, 0, none⟩) N N, .int .i64 C, .int .i64 R, .slice (some ⟨d, 0, none⟩) N N, .int .i64 0, .bool false, .int .i64 0, .int .i64 0, .bool true, .bool false, .bool false, .int .u8 0, .bool false, .bool false, .bool false, .bool false, .bool false, .bool false, .bool false, .bool false, .bool false, .bool false, .bool false, .bool false, .bool false, .bool false, .bool false, .bool false, .bool false, .bool false, .bool false, .bool false, .bool false, .bool false, .bool false, .bool false, .bool false, .bool false, .bool false, .bool false, .bool false, .bool false, .bool false, .bool false, .bool false, .bool false, .bool false, .bool false, .bool false, .bool false, .bool false, .bool false, .bool false, .bool false, .bool false, .bool false, .bool false, .bool false, .bool false, .bool false, .bool false, .bool false, .bool false, .bool false, .bool false, .bool false, .bool false, .bool false, .bool false, .bool false, .bool false, .bool false, .bool false, .bool false, .bool false, .bool false, .bool false, .bool false, .bool false, .bool false, .bool false, .bool false, .bool false, .bool false, .bool false, .bool false, .bool false, .bool false, .bool false, .bool false, .bool false, .bool false, .int .i64 0, .int .i64 0, .int .u32 0, .int .u32 0, .int .u8 0, .int .u16 0, .bool false, .string ⟨#[]⟩, .slice none 0 0, .int .i32 0, .pointer a]
theorem termA_C (C R : Int) (b d N : Nat) (a : Option Addr) : TermC (termA C R b d N a) C R (.slice (some ⟨b, 0, none⟩) N N) := by
  unfold termA
  exact ⟨rfl, rfl, rfl, rfl, rfl, rfl, rfl, rfl, rfl, rfl, rfl, rfl, rfl⟩
def Rl.ptr : Rl := ⟨fun _ v => ∃ a, v = .pointer a, fun h _ => h⟩
def Rl.term (C R : Int) (b N : Nat) (v : Value) : Rl := ⟨fun _ u => ∃ d a, u = .agg (termA C R b d N a), fun h _ => h⟩
def Rl.termB (B : Nat) (C R : Int) (v : Value) : Rl := ⟨fun w u => ∃ g, u = .pointer (some ⟨g, 0, none⟩) ∧ B ≤ g ∧ TermB w g C R v, fun ⟨g, h, hB, r⟩ hb => ⟨g, h, hB, r.below hb⟩⟩
set_option maxRecDepth 100000 in
set_option maxHeartbeats 16000000 in
theorem emulNew_c (C R N : Nat) (w : World) (hf : fitsI (C : Int) (R : Int) = true) (hN : N = C * R) :
    Calls Tryz.prog 58 #[.int .i64 (C : Int), .int .i64 (R : Int)] w fun e w' => ∃ b g, e = .returned (.tuple #[.pointer (some ⟨g, 0, none⟩), .int .i64 0]) ∧ OwnC w' w.heap.size (.slice (some ⟨b, 0, none⟩) N N) (List.replicate N blankD) ∧ TermB w' g (C : Int) (R : Int) (.slice (some ⟨b, 0, none⟩) N N) ∧ Below w.heap.size w w' := by
  have HR : Hid (1 ≤ R ∧ R ≤ 24) := Lib.hid (by simp only [fitsI, Bool.and_eq_true, decide_eq_true_eq] at hf; omega)
  have HF := Lib.hid hf
  have HN := Lib.hid hN
  clear hf hN
  go_enter Tryz.func58, Tryz.ntmps58
  go_upto_region 2 with (first
    | (go_at_call 76; (with_reducible refine (gridNew_c C R N w HF.out HN.out).mono ?_); rintro _ w1 ⟨b, rfl, ho1, hb1⟩; have HO1 := Lib.hid ho1; have HB1 := Lib.hid hb1; clear ho1 hb1)
    | (refine wpList_store_rowTo rfl 72 (.tmp 6) (.tmp 15) rfl rfl w1.heap.size (gridA (C : Int) (R : Int) (.slice (some ⟨b, 0, none⟩) N N)) rfl rfl 72 _ (heap_alloc_new w1 _) (info_grid.trans rfl) rfl (gridA_one _ _ _ _ _) ?_))
  generalize eX : World.alloc w1 _ = X
  have hx : Below w1.heap.size w1 X := by rw [← eX]; exact (Below.refl _ _).alloc (Nat.le_refl _) _
  obtain ⟨old, hq2⟩ : ∃ old, X.heap[w1.heap.size]? = some (.cells old 72 (0, 0)) := ⟨_, by rw [← eX]; exact heap_alloc_new _ _⟩
  obtain ⟨g1, eg⟩ : ∃ g, g = w1.heap.size := ⟨_, rfl⟩
  obtain ⟨W2, eW2⟩ : ∃ W2, W2 = X.setRow w1.heap.size (gridA (C : Int) (R : Int) (.slice (some ⟨b, 0, none⟩) N N)) := ⟨_, rfl⟩
  rw [← eW2, ← eg]
  have HG2 : Hid (W2.heap[g1]? = some (.cells (gridA (C : Int) (R : Int) (.slice (some ⟨b, 0, none⟩) N N)) 72 (0, 0))) := Lib.hid (by rw [eW2, eg]; exact setRow_heap _ _ _ _ _ _ hq2)
  have hb2 : Below w1.heap.size w1 W2 := by rw [eW2]; exact below_setRow hx (Nat.le_refl _) _
  have HO2 : Hid (OwnC W2 w.heap.size (.slice (some ⟨b, 0, none⟩) N N) (List.replicate N blankD)) := Lib.hid (OwnC.below HO1.out hb2)
  have HB2 : Hid (Below w.heap.size w W2) := Lib.hid (HB1.out.trans (hb2.mono HB1.out.size))
  clear eX hx hq2 eg eW2 hb2 HO1 HB1
  go_upto_region 5 with (first
    | (go_at_call 76; (with_reducible refine (gridNew_c C R N W2 HF.out HN.out).mono ?_); rintro _ w3 ⟨d, rfl, ho3, hb3⟩; have HB3 := Lib.hid hb3; clear ho3 hb3)
    | (refine wpList_store_rowTo rfl 72 (.tmp 8) (.tmp 24) rfl rfl w3.heap.size (gridA (C : Int) (R : Int) (.slice (some ⟨d, 0, none⟩) N N)) rfl rfl 72 _ (heap_alloc_new w3 _) (info_grid.trans rfl) rfl (gridA_one _ _ _ _ _) ?_))
  generalize eX : World.alloc w3 _ = X3
  have hx : Below w3.heap.size w3 X3 := by rw [← eX]; exact (Below.refl _ _).alloc (Nat.le_refl _) _
  obtain ⟨old3, hq4⟩ : ∃ old, X3.heap[w3.heap.size]? = some (.cells old 72 (0, 0)) := ⟨_, by rw [← eX]; exact heap_alloc_new _ _⟩
  obtain ⟨g2, eg⟩ : ∃ g, g = w3.heap.size := ⟨_, rfl⟩
  obtain ⟨W4, eW4⟩ : ∃ W4, W4 = X3.setRow w3.heap.size (gridA (C : Int) (R : Int) (.slice (some ⟨d, 0, none⟩) N N)) := ⟨_, rfl⟩
  rw [← eW4, ← eg]
  have HH4 : Hid (W4.heap[g2]? = some (.cells (gridA (C : Int) (R : Int) (.slice (some ⟨d, 0, none⟩) N N)) 72 (0, 0))) := Lib.hid (by rw [eW4, eg]; exact setRow_heap _ _ _ _ _ _ hq4)
  have hb4 : Below W2.heap.size W2 W4 := by rw [eW4]; exact below_setRow (HB3.out.trans (hx.mono HB3.out.size)) HB3.out.size _
  have HG4 := Lib.hid ((hb4.block g1 (heap_lt HG2.out)).trans HG2.out)
  have HO4 : Hid (OwnC W4 w.heap.size (.slice (some ⟨b, 0, none⟩) N N) (List.replicate N blankD)) := Lib.hid (OwnC.below HO2.out hb4)
  have HB4 : Hid (Below w.heap.size w W4) := Lib.hid (HB2.out.trans (hb4.mono HB2.out.size))
  clear eX hx hq4 eg eW4 hb4 HO2 HB2 HG2 HB3
  refine wp_region_rw 37 [Rl.eq (.int .i64 (C : Int)), Rl.eq (.int .i64 (R : Int)), Rl.eq (.agg (gridA (C : Int) (R : Int) (.slice (some ⟨b, 0, none⟩) N N))), Rl.eq (.agg (gridA (C : Int) (R : Int) (.slice (some ⟨d, 0, none⟩) N N))), Rl.eq (.agg #[.int .i64 (C : Int), .int .i64 (R : Int), .slice (some ⟨b, 0, none⟩) N N, .int .i64 (C : Int), .int .i64 (R : Int), .slice (some ⟨d, 0, none⟩) N N]), Rl.ptr, Rl.term (C : Int) (R : Int) b N (.slice (some ⟨b, 0, none⟩) N N), Rl.termB W4.heap.size (C : Int) (R : Int) (.slice (some ⟨b, 0, none⟩) N N), Rl.termB W4.heap.size (C : Int) (R : Int) (.slice (some ⟨b, 0, none⟩) N N)] [26, 27, 28, 29, 30, 31, 32, 33, 10] (by kernel_rfl) rfl (by kernel_rfl) (by kernel_rfl) ?_ ?_
  · repeat (first | exact AllFrom.nil_ | (refine AllFrom.cons_ (by rfl) ?_ ?_; rotate_left))
    · intro f w' g_ hF hD
      have h0 : f 0 = .int .i64 (C : Int) := hF 0 (by kernel_rfl)
      rw [if_pos (wanted_none rfl)]
      clear hF hD
      exact gives_val (by simp only [execOp, evF, h0]; first | rfl | go_simp) ⟨Gr.refl _, rfl⟩
    · intro f w' g_ hF hD
      have h1 : f 1 = .int .i64 (R : Int) := hF 1 (by kernel_rfl)
      rw [if_pos (wanted_none rfl)]
      clear hF hD
      exact gives_val (by simp only [execOp, evF, h1]; first | rfl | go_simp) ⟨Gr.refl _, rfl⟩
    · intro f w' g_ hF hD
      have h6 : f 6 = .pointer (some ⟨g1, 0, none⟩) := hF 6 (by kernel_rfl)
      rw [if_pos (wanted_none rfl)]
      clear hF hD
      have kg : Below W4.heap.size W4 w' := (below_drewN (Below.refl _ _) 1).trans g_
      exact gives_load_row 72 (.tmp 6) rfl g1 (by simp only [evF, h6]) 72 (gridA (C : Int) (R : Int) (.slice (some ⟨b, 0, none⟩) N N)) (0, 0) _ ((kg.block g1 (heap_lt HG4.out)).trans HG4.out) Tryz.underlying72 rfl (info_grid.trans rfl) ⟨Gr.refl _, rfl⟩
    · intro f w' g_ hF hD
      have h8 : f 8 = .pointer (some ⟨g2, 0, none⟩) := hF 8 (by kernel_rfl)
      rw [if_pos (wanted_none rfl)]
      clear hF hD
      have kg : Below W4.heap.size W4 w' := (below_drewN (Below.refl _ _) 1).trans g_
      exact gives_load_row 72 (.tmp 8) rfl g2 (by simp only [evF, h8]) 72 (gridA (C : Int) (R : Int) (.slice (some ⟨d, 0, none⟩) N N)) (0, 0) _ ((kg.block g2 (heap_lt HH4.out)).trans HH4.out) Tryz.underlying72 rfl (info_grid.trans rfl) ⟨Gr.refl _, rfl⟩
    · intro f w' g_ hF hD
      have h28 : f 28 = (.agg (gridA (C : Int) (R : Int) (.slice (some ⟨b, 0, none⟩) N N))) := hD 2 28 (by kernel_rfl) rfl
      have h29 : f 29 = (.agg (gridA (C : Int) (R : Int) (.slice (some ⟨d, 0, none⟩) N N))) := hD 3 29 (by kernel_rfl) rfl
      rw [if_pos (wanted_none rfl)]
      clear hF hD
      exact gives_build 127 _ rfl #[.int .i64 (C : Int), .int .i64 (R : Int), .slice (some ⟨b, 0, none⟩) N N, .int .i64 (C : Int), .int .i64 (R : Int), .slice (some ⟨d, 0, none⟩) N N] (by simp only [List.map_toArray, List.map_cons, List.map_nil, evF, h28, h29]; kernel_rfl) ⟨Gr.refl _, rfl⟩
    · intro f w' g_ hF hD
      rw [if_pos (wanted_none rfl)]
      clear hF hD
      refine gives_func rfl Tryz.func77 (by kernel_rfl) rfl (args := #[]) (by simp) ((parseNew_c w').mono ?_)
      rintro e w'' ⟨a, rfl, hb⟩
      exact ⟨_, rfl, hb, a, rfl⟩
    · intro f w' g_ hF hD
      have h26 : f 26 = (.int .i64 (C : Int)) := hD 0 26 (by kernel_rfl) rfl
      have h27 : f 27 = (.int .i64 (R : Int)) := hD 1 27 (by kernel_rfl) rfl
      have h30 : f 30 = (.agg #[.int .i64 (C : Int), .int .i64 (R : Int), .slice (some ⟨b, 0, none⟩) N N, .int .i64 (C : Int), .int .i64 (R : Int), .slice (some ⟨d, 0, none⟩) N N]) := hD 4 30 (by kernel_rfl) rfl
      have q31 := hD 5 31 (by kernel_rfl) rfl
      rw [if_pos (wanted_none rfl)]
      clear hF hD
      obtain ⟨a, ha⟩ := q31
      exact gives_build 134 _ rfl (termA (C : Int) (R : Int) b d N a) (by simp only [List.map_toArray, List.map_cons, List.map_nil, evF, h26, h27, h30, ha]; kernel_rfl) ⟨Gr.refl _, d, a, rfl⟩
    · intro f w' g_ hF hD
      have q32 := hD 6 32 (by kernel_rfl) rfl
      rw [if_pos (wanted_none rfl)]
      clear hF hD
      have kg : Below W4.heap.size W4 w' := (below_drewN (Below.refl _ _) 1).trans g_
      obtain ⟨d', a', ht⟩ := q32
      exact gives_val (by simp only [execOp, evF, ht]; first | rfl | go_simp) ⟨(Below.refl _ _).alloc (Nat.le_refl _) _, w'.heap.size, rfl, kg.size, _, heap_alloc_new _ _, termA_C _ _ _ _ _ _⟩
    · intro f w' g_ hF hD
      have q33 := hD 7 33 (by kernel_rfl) rfl
      rw [if_pos (wanted_none rfl)]
      clear hF hD
      exact gives_val (by simp only [execOp, evF]; first | rfl | go_simp) ⟨Gr.refl _, q33⟩
  intro f w5 gg hD
  obtain ⟨g, h10, hgB, ht5⟩ : ∃ g, f 10 = .pointer (some ⟨g, 0, none⟩) ∧ W4.heap.size ≤ g ∧ TermB w5 g (C : Int) (R : Int) (.slice (some ⟨b, 0, none⟩) N N) := hD 8 10 rfl
  have kg : Below W4.heap.size W4 w5 := (below_drewN (Below.refl _ _) 1).trans gg
  obtain ⟨g', h33, _, _⟩ : ∃ g, f 33 = .pointer (some ⟨g, 0, none⟩) ∧ W4.heap.size ≤ g ∧ TermB w5 g (C : Int) (R : Int) (.slice (some ⟨b, 0, none⟩) N N) := hD 7 33 rfl
  simp only [putAll, List.setIfInBounds_toArray, List.set_cons_zero, List.set_cons_succ, h10, h33]
  have HO5 := Lib.hid (OwnC.below HO4.out kg)
  have HB5 := Lib.hid (HB4.out.trans (kg.mono HB4.out.size))
  have HT5 := Lib.hid ht5
  have HGW : Hid (w.heap.size ≤ g ∧ b < g) := Lib.hid ⟨Nat.le_trans HB4.out.size hgB, Nat.lt_of_lt_of_le (OwnC.lt HO4.out b rfl).2 hgB⟩
  clear hD gg kg h10 h33 ht5 hgB
  go_wp2_with (go_at_call 78; (with_reducible refine (frame_c g (C : Int) R (.slice (some ⟨b, 0, none⟩) N N) w5 HT5.out HR.out.1 HR.out.2).mono ?_); rintro _ w6 ⟨rfl, ht6, hy6⟩; have HT6 := Lib.hid ht6; have HY6 := Lib.hid hy6; clear ht6 hy6)
  go_ret2
  exact ⟨b, g, rfl, OwnC.keep HO5.out (fun j e => HY6.out.blk j (by have e2 : some b = some j := e; injection e2 with e2; have := HGW.out.2; omega)), HT6.out, HY6.out.low HGW.out.1 HB5.out⟩
end Go.Proofs.YtndjggabdajbfaaGreatDoor


