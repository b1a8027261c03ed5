/- Parts one behind the other: Further laws that RowsApplies needs; Plain: an applied screen has few cells; What the reference's num (16) answers: the number of so many bytes from a place on; Tools for the walk of the reference's Apply (16): its state; a row's rest; a new cell. Conditions: as told at each. -/
import Derived.Test.YtipofokinjkclaaDoorPE1
import Derived.Test.YtipofokinjkclaaDoorPE2
import Derived.Test.YtipofokinjkclaaDoorPE3
import Derived.Test.YtipofokinjkclaaDoorPE4
import Derived.Test.YtipofokinjkclaaDoorPE5
import Derived.Test.YtipofokinjkclaaDoorPE6
import Derived.Test.YtipofokinjkclaaDoorPE7
import Derived.Test.YtipofokinjkclaaDoorPE8
import Derived.Test.YtipofokinjkclaaDoorPE9
import Derived.Test.YtipofokinjkclaaDoorPE10
import Derived.Test.YtipofokinjkclaaDoorPE11
import Derived.Test.YtipofokinjkclaaDoorPE12
import Derived.Test.YtipofokinjkclaaDoorPE13
import Derived.Test.YtipofokinjkclaaDoorPE14
import Derived.Test.YtipofokinjkclaaDoorPE15
import Derived.Test.YtipofokinjkclaaDoorPE16
import Derived.Test.YtipofokinjkclaaDoorPE17
import Derived.Test.YtipofokinjkclaaDoorPE18
import Derived.Test.YtipofokinjkclaaDoorPE19
import Derived.Test.YtipofokinjkclaaDoorPE20
import Derived.Test.YtipofokinjkclaaDoorPE21
import Derived.Test.YtipofokinjkclaaDoorPE23
import Derived.Laws.Rows
import Derived.Laws.Tables

set_option linter.unusedVariables false
set_option linter.unusedSimpArgs false
/- Further laws that RowsApplies needs. Conditions: none. -/
namespace Go.Proofs.YtipofokinjkclaaDoor
open Go Go.RowKit Go.Lib

theorem sc_cells (s : ScD) (A : Option Addr) (n c : Nat) (L : Option Addr) (m cm : Nat) (A' : Option Addr) (c' : Nat) : (scC s A n c L m cm).setIfInBounds 2 (.slice A' n c') = scC s A' n c' L m cm := rfl
theorem sc_links (s : ScD) (A : Option Addr) (n c : Nat) (L : Option Addr) (m cm : Nat) (A' : Option Addr) (c' : Nat) : (scC s A n c L m cm).setIfInBounds 8 (.slice A' m c') = scC s A n c A' m c' := rfl
set_option maxRecDepth 100000 in
set_option maxHeartbeats 16000000 in
theorem refCopyS_c (s : ScD) (A : Option Addr) (n c : Nat) (L : Option Addr) (m cm : Nat) (w : World) (hs : ScR w s A n c L m cm) :
    Calls Tryd.prog 19 #[.agg (scC s A n c L m cm)] w fun e w' => ∃ A' c' L' cm', e = .returned (.agg (scC s A' n c' L' m cm')) ∧ OwnC w' w.heap.size (.slice A' n c') s.cells ∧ OwnT w' w.heap.size (.slice L' m cm') s.links ∧ (∀ a b, A' = some a → L' = some b → a.block ≠ b.block) ∧ Below w.heap.size w w' := by
  obtain ⟨X, eX⟩ : ∃ X, X = scC s A n c L m cm := ⟨_, rfl⟩
  rw [← eX]
  have EX := Lib.hid eX
  have HS := Lib.hid hs
  clear eX hs
  go_enter Tryd.func19, Tryd.ntmps19
  go_upto_region 1 with (fail)
  obtain ⟨W1, eW1⟩ : ∃ W1, W1 = (w.alloc (.cells X 25)).alloc (.cells (scC scZ none 0 0 none 0 0) 25) := ⟨_, rfl⟩
  obtain ⟨p, ep⟩ : ∃ p, p = w.heap.size := ⟨_, rfl⟩
  obtain ⟨q, eq⟩ : ∃ q, q = w.heap.size + 1 := ⟨_, rfl⟩
  have hb1 : Below w.heap.size w W1 := by rw [eW1]; exact ((Below.refl _ _).alloc (Nat.le_refl _) _).alloc (by simp) _
  have hp1 : ScB W1 p s A n c L m cm := by
    rw [eW1, ep, EX.out]
    exact (Below.heap_alloc _ _ _ (by simp)).trans (heap_alloc_new _ _)
  have hq1 : ScB W1 q scZ none 0 0 none 0 0 := by rw [eW1, eq]; exact heap_alloc2_new _ _ _
  have eW1' : (w.alloc (.cells X 25)).alloc (.cells #[.int .i64 0, .int .i64 0, .slice none 0 0, .int .i64 0, .int .i64 0, .bool false, .int .u8 0, .string { data := #[] }, .slice none 0 0] 25) = W1 := by rw [eW1]; rfl
  rw [eW1', ← eq, ← ep]
  have HB1 := Lib.hid hb1
  have HP1 := Lib.hid hp1
  have HQ1 := Lib.hid hq1
  have HR1 := Lib.hid (HS.out.below hb1)
  have HPQ : Hid (w.heap.size ≤ p ∧ w.heap.size ≤ q ∧ p ≠ q ∧ p < W1.heap.size ∧ q < W1.heap.size) := Lib.hid ⟨by omega, by omega, by omega, heap_lt hp1, heap_lt hq1⟩
  obtain ⟨x0, x1, x2, x3, x4, x5, x6, x7, x8⟩ := hp1.nine
  clear eW1 eW1' ep eq hb1 hp1 hq1 x0 x1 x3 x4 x5 x6 x7 x8
  have HO1 : Hid (OwnC (W1.alloc (.cells #[] 47)) W1.heap.size (.slice (some ⟨W1.heap.size, 0, none⟩) 0 0) []) := Lib.hid (OwnC.made W1)
  have HA1 : Hid (Below W1.heap.size W1 (W1.alloc (.cells #[] 47))) := Lib.hid ((Below.refl _ _).alloc (Nat.le_refl _) _)
  have z2 : (W1.alloc (.cells #[] 47)).cell? ⟨p, 2, none⟩ = some (.slice A n c) := (HA1.out.cell (p := ⟨p, 2, none⟩) HPQ.out.2.2.2.1).trans x2
  go_upto_region 2 with (at_builtin; go_must (refine wpList_appC _ rfl (.tmp 3) (.tmp 5) rfl W1.heap.size _ [] rfl HO1.out A n c s.cells rfl HR1.out.hn (HR1.out.below HA1.out).rd (by have := HR1.out.nl; simp only [List.length_nil]; omega) HA1.out.size ?_); intro v2 w2 q2 hg2 hv2; obtain ⟨A2, c2, rfl, _, _, _, ha2, _⟩ := q2.form; have HA2 := Lib.hid ha2; have HQ2 := Lib.hid q2; have HG2 := Lib.hid hg2; clear q2 hg2 hv2 ha2; have hb2 : Below W1.heap.size W1 w2 := HA1.out.grown HG2.out HA1.out.size (fun k e => by have e' : some W1.heap.size = some k := e; injection e' with e'; omega); have HB2 := Lib.hid hb2; have y2 : w2.cell? ⟨p, 2, none⟩ = some (.slice A n c) := (hb2.cell (p := ⟨p, 2, none⟩) HPQ.out.2.2.2.1).trans x2; have f2 : w2.frozen? ⟨p, 2, none⟩ = false := heap_free (HP1.out.below hb2) 2; clear hb2)
  rw [HR1.out.hn]
  obtain ⟨W3, eW3⟩ : ∃ W3, W3 = w2.setCell ⟨p, 2, none⟩ (.slice A2 n c2) := ⟨_, rfl⟩
  rw [← eW3]
  have hb3 : Below w.heap.size w W3 := by rw [eW3]; exact below_set (HB1.out.trans (HB2.out.mono HB1.out.size)) p _ _ HPQ.out.1
  have hp3 : ScB W3 p s A2 n c2 L m cm := by
    rw [eW3]
    have := heap_set (HP1.out.below HB2.out) 2 (.slice A2 n c2)
    rwa [sc_cells] at this
  have hq3 : ScB W3 q scZ none 0 0 none 0 0 := by
    rw [eW3]
    exact (heap_far _ (Ne.symm HPQ.out.2.2.1)).trans (HQ1.out.below HB2.out)
  have ho3 : OwnC W3 W1.heap.size (.slice A2 n c2) s.cells := by
    have h := HQ2.out
    rw [List.nil_append, HR1.out.hn] at h
    refine OwnC.keep h (fun g e => ?_)
    rw [eW3]
    exact heap_far _ (fun e2 => by have h1 := (OwnC.lt h g e).1; have h2 := HPQ.out.2.2.2.1; have e3 : g = p := e2; omega)
  have hsz3 : W3.heap.size = w2.heap.size := by rw [eW3]; simp [World.setCell]
  have HA3 : Hid (∀ a, A2 = some a → W1.heap.size ≤ a.block ∧ a.block < W3.heap.size) := Lib.hid (fun a e => ⟨(HA2.out a e).1, by rw [hsz3]; exact (HA2.out a e).2.1⟩)
  have HR3 := Lib.hid (HS.out.below hb3)
  obtain ⟨z0, z1, z2', z3, z4, z5, z6, z7, z8⟩ := hp3.nine
  have HB3 := Lib.hid hb3
  have HP3 := Lib.hid hp3
  have HQ3 := Lib.hid hq3
  have HO3 := Lib.hid ho3
  have HPQ3 : Hid (p < W3.heap.size ∧ q < W3.heap.size) := Lib.hid ⟨heap_lt hp3, heap_lt hq3⟩
  have HW1 : Hid (w.heap.size ≤ W1.heap.size) := Lib.hid HB1.out.size
  clear hb3 hp3 hq3 ho3 eW3 hsz3 z0 z1 z2' z3 z4 z5 z6 z7 x2 z2 y2 f2 HO1 HA1 HP1 HQ1 HB2 HG2 HQ2 HR1
  have HO3t : Hid (OwnT (W3.alloc (.cells #[] 9)) W3.heap.size (.slice (some ⟨W3.heap.size, 0, none⟩) 0 0) []) := Lib.hid (OwnT.made W3)
  have HA3t : Hid (Below W3.heap.size W3 (W3.alloc (.cells #[] 9))) := Lib.hid ((Below.refl _ _).alloc (Nat.le_refl _) _)
  have z9 : (W3.alloc (.cells #[] 9)).cell? ⟨p, 8, none⟩ = some (.slice L m cm) := (HA3t.out.cell (p := ⟨p, 8, none⟩) HPQ3.out.1).trans z8
  go_upto_region 3 with (at_builtin; go_must (refine wpList_appT _ rfl (.tmp 8) (.tmp 10) rfl W3.heap.size _ [] rfl HO3t.out L m cm s.links rfl HR3.out.hm (HR3.out.below HA3t.out).rt (by have := HR3.out.ml; simp only [List.length_nil]; omega) HA3t.out.size ?_); intro v4 w4 q4 hg4 hv4; obtain ⟨A4, c4, rfl, _, _, _, ha4⟩ := q4.form; have HA4 := Lib.hid ha4; have HQ4 := Lib.hid q4; have HG4 := Lib.hid hg4; clear q4 hg4 hv4 ha4; have hb4 : Below W3.heap.size W3 w4 := HA3t.out.grown HG4.out HA3t.out.size (fun k e => by have e' : some W3.heap.size = some k := e; injection e' with e'; omega); have HB4 := Lib.hid hb4; have y4 : w4.cell? ⟨p, 8, none⟩ = some (.slice L m cm) := (hb4.cell (p := ⟨p, 8, none⟩) HPQ3.out.1).trans z8; have f4 : w4.frozen? ⟨p, 8, none⟩ = false := heap_free (HP3.out.below hb4) 8; clear hb4)
  rw [HR3.out.hm]
  obtain ⟨W5, eW5⟩ : ∃ W5, W5 = w4.setCell ⟨p, 8, none⟩ (.slice A4 m c4) := ⟨_, rfl⟩
  rw [← eW5]
  have hb5 : Below w.heap.size w W5 := by rw [eW5]; exact below_set (HB3.out.trans (HB4.out.mono HB3.out.size)) p _ _ HPQ.out.1
  have hp5 : ScB W5 p s A2 n c2 A4 m c4 := by
    rw [eW5]
    have := heap_set (HP3.out.below HB4.out) 8 (.slice A4 m c4)
    rwa [sc_links] at this
  have hq5 : ScB W5 q scZ none 0 0 none 0 0 := by
    rw [eW5]
    exact (heap_far _ (Ne.symm HPQ.out.2.2.1)).trans (HQ3.out.below HB4.out)
  have ho5 : OwnC W5 W1.heap.size (.slice A2 n c2) s.cells := by
    refine OwnC.keep (OwnC.below HO3.out HB4.out) (fun g e => ?_)
    rw [eW5]
    exact heap_far _ (fun e2 => by have h1 := (OwnC.lt HO3.out g e).1; have h2 := HPQ.out.2.2.2.1; have e3 : g = p := e2; omega)
  have ht5 : OwnT W5 W3.heap.size (.slice A4 m c4) s.links := by
    have h := HQ4.out
    rw [List.nil_append, HR3.out.hm] at h
    refine Own.frameK' h (fun g e => ?_)
    rw [eW5]
    exact heap_far _ (fun e2 => by have h1 := (Own.lt h g e).1; have h2 := HPQ3.out.1; have e3 : g = p := e2; omega)
  have HD5 : Hid (∀ a b, A2 = some a → A4 = some b → a.block ≠ b.block) := Lib.hid (fun a b ea eb => by have h1 := (HA3.out a ea).2; have h2 := (HA4.out b eb).1; omega)
  have HB5 := Lib.hid hb5
  have HP5 := Lib.hid hp5
  have HQ5 := Lib.hid hq5
  have HO5 : Hid (OwnC W5 w.heap.size (.slice A2 n c2) s.cells) := Lib.hid (OwnC.low ho5 HW1.out)
  have HT5 : Hid (OwnT W5 w.heap.size (.slice A4 m c4) s.links) := Lib.hid (Own.low ht5 HB3.out.size)
  have HPQ5 : Hid (q < W1.heap.size ∧ q < W3.heap.size) := Lib.hid ⟨HPQ.out.2.2.2.2, HPQ3.out.2⟩
  have HOo := Lib.hid ho5
  have HTo := Lib.hid ht5
  clear hb5 hp5 hq5 ho5 ht5 eW5 z8 z9 y4 f4 HO3t HA3t HB3 HP3 HQ3 HO3 HB4 HQ4 HG4 HR3 HA4 HA3 HA2
  go_wp2_with (first
    | (refine wpList_load_row rfl 25 (.tmp 1) rfl p rfl 25 _ (0, 0) _ HP5.out Tryd.underlying25 rfl (info_sc.trans rfl) ?_)
    | (refine wpList_store_row rfl 25 (.tmp 2) (.tmp 13) rfl q (scC s A2 n c2 A4 m c4) rfl rfl 25 _ HQ5.out (info_sc.trans rfl) rfl (sc_one _ _ _ _ _ _ _) ?_))
  refine bodyPost_ret (v := .agg (scC s A2 n c2 A4 m c4)) (results_cell_row (p := 2) (ty := 25) rfl _ _ q 25 _ (0, 0) _ rfl (setRow_heap W5 q _ _ _ _ HQ5.out) Tryd.underlying25 rfl (info_sc.trans rfl)) rfl ?_
  have hk : ∀ g, g ≠ q → (W5.setRow q (scC s A2 n c2 A4 m c4)).heap[g]? = W5.heap[g]? := fun g e => setRow_other _ _ _ _ e
  exact ⟨A2, c2, A4, c4, rfl, OwnC.keep HO5.out (fun g e => hk g (by have h1 := (OwnC.lt HOo.out g e).1; have h2 := HPQ5.out.1; omega)), Own.frameK' HT5.out (fun g e => hk g (by have h1 := (Own.lt HTo.out g e).1; have h2 := HPQ5.out.2; omega)), HD5.out, below_setRow HB5.out HPQ.out.2.1 _⟩
end Go.Proofs.YtipofokinjkclaaDoor

namespace Go.Proofs.YtipofokinjkclaaDoor
open Go Go.RowKit Go.Lib

set_option maxRecDepth 100000 in
set_option maxHeartbeats 8000000 in
theorem refNew09_bad (cols rows : Int) (w : World) (hf : fitsI cols rows = false) :
    Calls Tryd.prog 70 #[.int .i64 cols, .int .i64 rows] w fun e w' => e = .returned (.tuple #[.agg (gridA 0 0 (.slice none 0 0)), .int .i64 1]) ∧ Below w.heap.size w w' := by
  obtain ⟨W0, eW0⟩ : ∃ W0, W0 = w.alloc (.cells (gridA 0 0 (.slice none 0 0)) 67) := ⟨_, rfl⟩
  obtain ⟨q, eq⟩ : ∃ q, q = w.heap.size := ⟨_, rfl⟩
  have HB0 : Hid (Below w.heap.size w W0) := Lib.hid (by rw [eW0]; exact (Below.refl _ _).alloc (Nat.le_refl _) _)
  have HQ0 : Hid (W0.heap[q]? = some (.cells (gridA 0 0 (.slice none 0 0)) 67 (0, 0))) := Lib.hid (by rw [eW0, eq]; exact heap_alloc_new _ _)
  have EW0 : Hid (w.alloc (.cells #[.int .i64 0, .int .i64 0, .slice none 0 0] 67) = W0) := Lib.hid (by rw [eW0]; rfl)
  have EQ := Lib.hid eq
  have HQW : Hid (w.heap.size ≤ q) := Lib.hid (Nat.le_of_eq eq.symm)
  clear eW0 eq
  unfold fitsI at hf
  have f1 : decide (cols < 1) = !decide (1 ≤ cols) := by rw [← decide_not]; exact decide_eq_decide.2 (by omega)
  have f2 : decide (80 < cols) = !decide (cols ≤ 80) := by rw [← decide_not]; exact decide_eq_decide.2 (by omega)
  have f3 : decide (rows < 1) = !decide (1 ≤ rows) := by rw [← decide_not]; exact decide_eq_decide.2 (by omega)
  have f4 : decide (24 < rows) = !decide (rows ≤ 24) := by rw [← decide_not]; exact decide_eq_decide.2 (by omega)
  obtain ⟨b1, e1⟩ : ∃ b, decide (1 ≤ cols) = b := ⟨_, rfl⟩
  obtain ⟨b2, e2⟩ : ∃ b, decide (cols ≤ 80) = b := ⟨_, rfl⟩
  obtain ⟨b3, e3⟩ : ∃ b, decide (1 ≤ rows) = b := ⟨_, rfl⟩
  obtain ⟨b4, e4⟩ : ∃ b, decide (rows ≤ 24) = b := ⟨_, rfl⟩
  rw [e1] at f1; rw [e2] at f2; rw [e3] at f3; rw [e4] at f4
  rw [e1, e2, e3, e4] at hf
  cases b1
  rotate_left
  · cases b2
    rotate_left
    · cases b3
      rotate_left
      · cases b4
        rotate_left
        · cases hf
        · clear hf
          go_enter Tryd.func70, Tryd.ntmps70
          go_upto_region 1 with (fail)
          rw [EW0.out, ← EQ.out]
          go_wp2_with (first
            | (refine wpList_store_rowTo rfl 67 (.tmp 4) (.tmp 22) rfl rfl q (gridA 0 0 (.slice none 0 0)) rfl rfl 67 _ HQ0.out (info_grid.trans rfl) rfl (gridA_one _ _ _ _ _) ?_))
          refine bodyPost_ret (v := .tuple #[.agg (gridA 0 0 (.slice none 0 0)), .int .i64 1]) (results_row_tmp (p := 4) (u := 5) (ty := 67) rfl _ _ q 67 _ (0, 0) _ _ rfl rfl (setRow_heap W0 q _ _ _ _ HQ0.out) Tryd.underlying67 rfl (info_grid.trans rfl)) rfl ?_
          exact ⟨rfl, below_setRow HB0.out HQW.out _⟩
      · clear hf
        go_enter Tryd.func70, Tryd.ntmps70
        go_upto_region 1 with (fail)
        rw [EW0.out, ← EQ.out]
        go_wp2_with (first
          | (refine wpList_store_rowTo rfl 67 (.tmp 4) (.tmp 22) rfl rfl q (gridA 0 0 (.slice none 0 0)) rfl rfl 67 _ HQ0.out (info_grid.trans rfl) rfl (gridA_one _ _ _ _ _) ?_))
        refine bodyPost_ret (v := .tuple #[.agg (gridA 0 0 (.slice none 0 0)), .int .i64 1]) (results_row_tmp (p := 4) (u := 5) (ty := 67) rfl _ _ q 67 _ (0, 0) _ _ rfl rfl (setRow_heap W0 q _ _ _ _ HQ0.out) Tryd.underlying67 rfl (info_grid.trans rfl)) rfl ?_
        exact ⟨rfl, below_setRow HB0.out HQW.out _⟩
    · clear hf
      go_enter Tryd.func70, Tryd.ntmps70
      go_upto_region 1 with (fail)
      rw [EW0.out, ← EQ.out]
      go_wp2_with (first
        | (refine wpList_store_rowTo rfl 67 (.tmp 4) (.tmp 22) rfl rfl q (gridA 0 0 (.slice none 0 0)) rfl rfl 67 _ HQ0.out (info_grid.trans rfl) rfl (gridA_one _ _ _ _ _) ?_))
      refine bodyPost_ret (v := .tuple #[.agg (gridA 0 0 (.slice none 0 0)), .int .i64 1]) (results_row_tmp (p := 4) (u := 5) (ty := 67) rfl _ _ q 67 _ (0, 0) _ _ rfl rfl (setRow_heap W0 q _ _ _ _ HQ0.out) Tryd.underlying67 rfl (info_grid.trans rfl)) rfl ?_
      exact ⟨rfl, below_setRow HB0.out HQW.out _⟩
  · clear hf
    go_enter Tryd.func70, Tryd.ntmps70
    go_upto_region 1 with (fail)
    rw [EW0.out, ← EQ.out]
    go_wp2_with (first
      | (refine wpList_store_rowTo rfl 67 (.tmp 4) (.tmp 22) rfl rfl q (gridA 0 0 (.slice none 0 0)) rfl rfl 67 _ HQ0.out (info_grid.trans rfl) rfl (gridA_one _ _ _ _ _) ?_))
    refine bodyPost_ret (v := .tuple #[.agg (gridA 0 0 (.slice none 0 0)), .int .i64 1]) (results_row_tmp (p := 4) (u := 5) (ty := 67) rfl _ _ q 67 _ (0, 0) _ _ rfl rfl (setRow_heap W0 q _ _ _ _ HQ0.out) Tryd.underlying67 rfl (info_grid.trans rfl)) rfl ?_
    exact ⟨rfl, below_setRow HB0.out HQW.out _⟩
set_option maxRecDepth 100000 in
set_option maxHeartbeats 8000000 in
theorem refBlank15_bad (cols rows : Int) (w : World) (hf : fitsI cols rows = false) :
    Calls Tryd.prog 35 #[.int .i64 cols, .int .i64 rows] w fun e w' => e = .returned (.tuple #[.agg (scC scZ none 0 0 none 0 0), .int .i64 1]) ∧ Below w.heap.size w w' := by
  have HF := Lib.hid hf
  obtain ⟨W0, eW0⟩ : ∃ W0, W0 = w.alloc (.cells (scC scZ none 0 0 none 0 0) 25) := ⟨_, rfl⟩
  obtain ⟨q, eq⟩ : ∃ q, q = w.heap.size := ⟨_, rfl⟩
  have hb0 : Below w.heap.size w W0 := by rw [eW0]; exact (Below.refl _ _).alloc (Nat.le_refl _) _
  have HB0 := Lib.hid hb0
  have HQ0 : Hid (ScB W0 q scZ none 0 0 none 0 0) := Lib.hid (by rw [eW0, eq]; exact heap_alloc_new _ _)
  have EW0 : Hid (w.alloc (.cells #[.int .i64 0, .int .i64 0, .slice none 0 0, .int .i64 0, .int .i64 0, .bool false, .int .u8 0, .string { data := #[] }, .slice none 0 0] 25) = W0) := Lib.hid (by rw [eW0]; rfl)
  have EQ := Lib.hid eq
  have HQW : Hid (w.heap.size ≤ q) := Lib.hid (Nat.le_of_eq eq.symm)
  clear hb0 eW0 eq hf
  go_enter Tryd.func35, Tryd.ntmps35
  go_upto_region 1 with (fail)
  rw [EW0.out, ← EQ.out]
  go_upto_region 2 with (first
    | (go_at_call 70; (with_reducible refine (refNew09_bad cols rows W0 HF.out).mono ?_); rintro _ w1 ⟨rfl, hb1⟩; have HQ1 := Lib.hid (HQ0.out.below hb1); have HB1 := Lib.hid (HB0.out.trans (hb1.mono HB0.out.size)); clear hb1)
    | (refine wpList_store_rowTo rfl 67 (.tmp 6) (.tmp 12) rfl rfl w1.heap.size (gridA 0 0 (.slice none 0 0)) rfl rfl 67 _ (heap_alloc_new w1 _) (info_grid.trans rfl) rfl (gridA_one _ _ _ _ _) ?_))
  generalize eX : World.alloc w1 _ = X
  have hx : Below w1.heap.size w1 X := by rw [← eX]; exact (Below.refl _ _).alloc (Nat.le_refl _) _
  obtain ⟨W2, eW2⟩ : ∃ W2, W2 = X.setRow w1.heap.size (gridA 0 0 (.slice none 0 0)) := ⟨_, rfl⟩
  rw [← eW2]
  have hb2 : Below w1.heap.size w1 W2 := by rw [eW2]; exact below_setRow hx (Nat.le_refl _) _
  have HQ2 := Lib.hid (HQ1.out.below hb2)
  have HB2 := Lib.hid (HB1.out.trans (hb2.mono HB1.out.size))
  clear eX hx eW2 hb2
  go_wp2_with (first
    | (refine wpList_store_row rfl 25 (.tmp 4) (.tmp 16) rfl q (scC scZ none 0 0 none 0 0) rfl rfl 25 _ HQ2.out (info_sc.trans rfl) rfl (sc_one _ _ _ _ _ _ _) ?_))
  refine bodyPost_ret (v := .tuple #[.agg (scC scZ none 0 0 none 0 0), .int .i64 1]) (results_row_tmp (p := 4) (u := 5) (ty := 25) rfl _ _ q 25 _ (0, 0) _ _ rfl rfl (setRow_heap W2 q _ _ _ _ HQ2.out) Tryd.underlying25 rfl (info_sc.trans rfl)) rfl ?_
  exact ⟨rfl, below_setRow HB2.out HQW.out _⟩
end Go.Proofs.YtipofokinjkclaaDoor

namespace Go.Proofs.YtipofokinjkclaaDoor
open Go Go.RowKit

set_option maxRecDepth 100000 in
set_option maxHeartbeats 400000 in
theorem Copy_c (A : Option Addr) (n c : Nat) (bs : List UInt8) (w : World) (hn : bs.length = n) (hr : Rd w A (bs.map bv)) (hl : n ≤ 140737488355328) :
    Calls Tryd.prog 44 #[.slice A n c] w fun e w' => ∃ v, e = .returned v ∧ OwnB w' w.heap.size v bs ∧ Below w.heap.size w w' := by
  have HN := Lib.hid hn; clear hn
  go_enter Tryd.func44, Tryd.ntmps44
  go_wp2_with (first | (at_make; refine wpList_makeB _ rfl (.tmp 5) (.tmp 5) rfl _ _ _ _ n rfl rfl rfl rfl hl ?_))
  intro w1 h1 h2 h3
  go_wp2_with (with_reducible refine wpList_copyB _ rfl (.tmp 7) (.tmp 8) rfl w.heap.size w.heap.size n n _ rfl h1 A n c bs rfl HN.out (hr.below h2) ?_; intro w2 h4 h5 _; have H4 := Lib.hid h4; clear h4)
  go_wp2
  go_ret
  refine ⟨_, rfl, ?_, h2.trans h5⟩
  have e : List.take n bs ++ List.drop n (List.replicate n 0) = bs := by
    rw [List.take_of_length_le (by rw [HN.out]; exact Nat.le_refl _), List.drop_of_length_le (by simp), List.append_nil]
  have h4 := H4.out
  rw [e] at h4
  exact h4

end Go.Proofs.YtipofokinjkclaaDoor

namespace Go.Proofs.YtipofokinjkclaaDoor
open Go Go.RowKit Go.Lib

theorem ScO.sound {W : World} {s : ScD} {A : Option Addr} {n c : Nat} {L : Option Addr} {m cm : Nat} (h : ScO W s A n c L m cm) (h1 : n ≤ 60000) (h2 : m ≤ 60000) (h3 : s.title.size ≤ 1000000) : Sound s :=
  ⟨by rw [h.hn]; exact h1, by rw [h.hm]; exact h2, fun u hu => Nat.le_trans (h.us u hu) (by decide), fun d hd => by have := h.ce d hd; exact ⟨this.2.2.2.2.2.1, by have := this.2.2.2.2.2.2; omega⟩, h3, fun d hd => ⟨(h.ce d hd).2.2.1.1, (h.ce d hd).2.2.2.1.1⟩⟩
end Go.Proofs.YtipofokinjkclaaDoor


/- Plain: an applied screen has few cells. Conditions: none. -/
namespace Go.Proofs.YtipofokinjkclaaDoor
open Go Go.RowKit Go.Lib

theorem app16_small (a : ScD) (d : List UInt8) : (app16 a d).1.cells.length ≤ 1920 := by
  by_cases h : (app16 a d).2 = 0
  · have hf : fit16 (app16 a d).1 = true := app16_fit (a := a) (d := d) (Prod.ext rfl h)
    obtain ⟨C, R, hc⟩ := fit16_of hf
    rw [hc.len]
    exact Nat.mul_le_mul hc.c2 hc.r2
  · rw [app16_none h]
    exact Nat.zero_le _
end Go.Proofs.YtipofokinjkclaaDoor


/- What the reference's num (16) answers: the number of so many bytes from a place on. Conditions: the bytes can be read, and there are so many. -/
namespace Go.Proofs.YtipofokinjkclaaDoor
open Go Go.RowKit Go.Lib

set_option maxRecDepth 100000 in
set_option maxHeartbeats 4000000 in
theorem refNum16_c (A : Option Addr) (n c : Nat) (bs : List UInt8) (at_ size : Nat) (w : World) (hn : bs.length = n) (hr : Rd w A (bs.map bv)) (ha : at_ + size ≤ n) (hs : size ≤ 4) (hl : n ≤ 140737488355328) (hnc : n ≤ c) :
    Calls Tryd.prog 82 #[.slice A n c, .int .i64 (at_ : Int), .int .i64 (size : Int)] w fun e w' => e = .returned (.int .i64 (beN ((bs.drop at_).take size) : Int)) ∧ Below w.heap.size w w' := by
  obtain ⟨l, el⟩ : ∃ l, l = bs.drop at_ := ⟨_, rfl⟩
  rw [← el]
  have hll : l.length + at_ = n := by rw [el, List.length_drop]; omega
  have EL := Lib.hid el
  have HN := Lib.hid hn
  have HR := Lib.hid hr
  clear el hn hr
  go_enter Tryd.func82, Tryd.ntmps82
  go_wp2
  go_loopw [7, 8] (fun x i wr => ∃ k : Nat, k ≤ size ∧ i = .int .i64 (k : Int) ∧ x = .int .i64 ((beN (l.take k) : Nat) : Int) ∧ Hid (Below w.heap.size w wr)) (fun _ i _ => size - (intOf i).toNat)
  case atStart => exact ⟨0, Nat.zero_le _, rfl, rfl, Lib.hid (Below.refl _ _)⟩
  case round =>
    obtain ⟨k, hk, rfl, rfl, HB⟩ := hrel
    rcases Nat.lt_or_ge k size with hlt | hge
    · obtain ⟨b, off, rfl, _, hc⟩ := (HR.out.below HB.out).addrB (by rw [HN.out]; omega)
      obtain ⟨d, ed⟩ : ∃ d, d = (l[k]'(by omega)).toNat := ⟨_, rfl⟩
      have hcell : wr.cell? ⟨b, off + (at_ + k), none⟩ = some (.int .u8 (d : Int)) := by
        rw [hc (at_ + k) (by rw [HN.out]; omega), ed]
        have := EL.out
        subst this
        simp [bv]
      have hd : d < 256 := by rw [ed]; exact UInt8.toNat_lt _
      obtain ⟨x, hx⟩ : ∃ x, x = beN (l.take k) := ⟨_, rfl⟩
      have HX1 : Hid (beN (l.take (k + 1)) = x * 256 + d) := Lib.hid (by
        rw [List.take_succ_eq_append_getElem (by omega), beN_snoc, hx, ed])
      have hx2 : x < 16777216 := by
        rw [hx]
        exact Nat.lt_of_lt_of_le (beN_lt _) (Nat.le_trans (Nat.pow_le_pow_right (by decide) (show (l.take k).length ≤ 3 by rw [List.length_take]; omega)) (by decide))
      rw [← hx]
      clear hc hx ed
      go_wp2
      go_roundw
      case rel => exact ⟨k + 1, hlt, rfl, by rw [HX1.out]; rfl, HB⟩
      case measure => simp [intOf]; omega
    · obtain rfl : k = size := by omega
      go_wp2
      go_ret
      exact ⟨rfl, HB.out⟩
end Go.Proofs.YtipofokinjkclaaDoor


/- Tools for the walk of the reference's Apply (16): its state; a row's rest; a new cell. Conditions: none. -/
namespace Go.Proofs.YtipofokinjkclaaDoor
open Go Go.RowKit Go.Lib

/-- The rest of a row, and the rows behind it, by the bytes ahead. -/
def tailB (C R j y n p : Nat) (l : List UInt8) (cs : List CeD) : Nat × List CeD :=
  if (cellsP n p l cs).1 = 0 then rowsP C R j (y : Int) (cellsP n p l cs).2.1 (cellsP n p l cs).2.2 else ((cellsP n p l cs).1, (cellsP n p l cs).2.2)
theorem tailB_zero (C R j y p : Nat) (l : List UInt8) (cs : List CeD) : tailB C R j y 0 p l cs = rowsP C R j (y : Int) l cs := rfl
theorem tailB_short (C R j y n p : Nat) (l : List UInt8) (cs : List CeD) (h : l.length < 9) : tailB C R j y (n + 1) p l cs = (2, cs) := by
  have e : cellsP (n + 1) p l cs = (2, l, cs) := by rw [cellsP, if_pos h]
  rw [tailB, e]
  rfl
theorem tailB_bad (C R j y n p : Nat) (l : List UInt8) (cs : List CeD) (h : ¬ l.length < 9) (hb : badAt16 (cellAt l) = true) : tailB C R j y (n + 1) p l cs = (3, cs) := by
  have e : cellsP (n + 1) p l cs = (3, l, cs) := by rw [cellsP, if_neg h, if_pos hb]
  rw [tailB, e]
  rfl
theorem tailB_step (C R j y n p : Nat) (l : List UInt8) (cs : List CeD) (h : ¬ l.length < 9) (hb : badAt16 (cellAt l) = false) : tailB C R j y (n + 1) p l cs = tailB C R j y n (p + 1) (l.drop 9) (cs.set p (cellAt l)) := by
  have e : cellsP (n + 1) p l cs = cellsP n (p + 1) (l.drop 9) (cs.set p (cellAt l)) := by rw [cellsP, if_neg h, if_neg (by rw [hb]; decide)]
  rw [tailB, e]
  rfl
/-- A screen with other cells. -/
def ScD.withC (s : ScD) (cs : List CeD) : ScD := ⟨s.cols, s.rows, cs, s.x, s.y, s.hid, s.mouse, s.title, s.links⟩
/-- The reference's state: the answer's block q, the empty screen's z, the screen's g, its cells gs. -/
structure BpS (w : World) (q z g gs : Nat) (C R : Nat) (s : ScD) (n c : Nat) (L : Option Addr) (d : Nat) (wx : World) : Prop where
  bel : Below w.heap.size w wx
  hq : ScB wx q scZ none 0 0 none 0 0
  hz : ScB wx z scZ none 0 0 none 0 0
  sg : ScB wx g s (some ⟨gs, 0, none⟩) n c L 0 d
  own : OwnC wx w.heap.size (.slice (some ⟨gs, 0, none⟩) n c) s.cells
  ln : n = C * R
  gne : gs ≠ g
  ord : w.heap.size ≤ q ∧ q < z ∧ z < g ∧ z < gs
  fit : 1 ≤ C ∧ C ≤ 80 ∧ 1 ≤ R ∧ R ≤ 24
  cc : s.cols = (C : Int)
  rr : s.rows = (R : Int)
  lk : s.links = []
  ok : okLn s.cells
  tl : s.title.size ≤ 1000000
section
variable {w wx : World} {q z g gs : Nat} {C R : Nat} {s : ScD} {n c : Nat} {L : Option Addr} {d : Nat}
theorem BpS.below (h : BpS w q z g gs C R s n c L d wx) {wy : World} (hb : Below wx.heap.size wx wy) : BpS w q z g gs C R s n c L d wy :=
  ⟨h.bel.trans (hb.mono h.bel.size), h.hq.below hb, h.hz.below hb, h.sg.below hb, OwnC.below h.own hb, h.ln, h.gne, h.ord, h.fit, h.cc, h.rr, h.lk, h.ok, h.tl⟩
theorem BpS.stay (h : BpS w q z g gs C R s n c L d wx) {wy : World} {t : ScD} (k : Stays (fun k => k = g) wx wy) (hg : ScB wy g t (some ⟨gs, 0, none⟩) n c L 0 d) (e1 : t.cols = s.cols) (e2 : t.rows = s.rows) (e3 : t.cells = s.cells) (e4 : t.links = s.links) (e5 : t.title.size ≤ 1000000) : BpS w q z g gs C R t n c L d wy := by
  have ho := h.ord
  have hn := h.gne
  exact ⟨h.bel.trans (k.below h.bel.size (fun j hj e => by omega)), k.scB h.hq (by omega), k.scB h.hz (by omega), hg, by rw [e3]; exact k.keepC h.own (fun j ej => by injection ej with ej; have : gs = j := ej; omega), h.ln, h.gne, h.ord, h.fit, by rw [e1]; exact h.cc, by rw [e2]; exact h.rr, by rw [e4]; exact h.lk, by rw [e3]; exact h.ok, e5⟩
theorem BpS.setCells (h : BpS w q z g gs C R s n c L d wx) {wy : World} {cs : List CeD} (k : Stays (fun k => k = gs) wx wy) (ho : OwnC wy w.heap.size (.slice (some ⟨gs, 0, none⟩) n c) cs) (hok : okLn cs) : BpS w q z g gs C R (s.withC cs) n c L d wy := by
  have hr := h.ord
  have hn := h.gne
  exact ⟨h.bel.trans (k.below h.bel.size (fun j hj e => by omega)), k.scB h.hq (by omega), k.scB h.hz (by omega), k.scB h.sg (by omega), ho, h.ln, h.gne, h.ord, h.fit, h.cc, h.rr, h.lk, hok, h.tl⟩
theorem BpS.read (h : BpS w q z g gs C R s n c L d wx) : ScR wx s (some ⟨gs, 0, none⟩) n c L 0 d := by
  obtain ⟨p1, p2, p3, _⟩ := h.own.parts
  have hn0 : n ≤ 1920 := by rw [h.ln]; exact Nat.mul_le_mul h.fit.2.1 h.fit.2.2.2
  exact ⟨p1, p2, p3, by omega, by rw [h.lk]; rfl, by rw [h.lk]; exact .inl rfl, Nat.zero_le _, Nat.zero_le _, (fun u hu => by rw [h.lk] at hu; cases hu), h.ok, h.tl⟩
end
/-- A new cell in a block of its own. -/
def Rl.celB (B : Nat) : Rl := ⟨fun w v => ∃ g, v = .pointer (some ⟨g, 0, none⟩) ∧ B ≤ g ∧ w.heap[g]? = some (.cells #[.int .i32 0, .int .u8 0, .int .u32 0, .int .u32 0, .int .u8 0, .int .u16 0] 47 (0, 0)), fun ⟨g, h, hB, r⟩ hb => ⟨g, h, hB, (hb.block g (heap_lt r)).trans r⟩⟩
/-- Bytes of a greater slice as a text. -/
theorem conv_text2 (w : World) (b off c n : Nat) (bs : List UInt8) (hn : bs.length = n) (hr : Rd w (some ⟨b, off, none⟩) (bs.map bv)) : (convert 29 9 (.slice (some ⟨b, off, none⟩) n c)).run Tryd.prog w = .ok (.string ⟨bs.toArray⟩) w := by
  subst hn
  have e := run_convert_bytes_arg (P := Tryd.prog) w 29 5 Tryd.underlying29 Tryd.underlying5 b off bs.length c (bs.map fun x => (x.toNat : Int)) (by rw [List.length_map]) (fun i hi => by
    rcases hr with h | ⟨b', off', e, hb, h⟩
    · rw [List.map_eq_nil_iff.1 h] at hi; exact absurd hi (Nat.not_lt_zero _)
    · injection e with e
      injection e with e1 e2
      subst e1 e2
      rw [h i (by rw [List.length_map]; exact hi), List.getElem_map]
      congr 1
      unfold bv List.getD
      rw [List.getElem?_map, List.getElem?_eq_getElem hi]
      rfl) 9 Tryd.underlying9
  rw [e, strOf_bytes]
/-- The bytes' title, by places. -/
theorem tit_at (bs : List UInt8) (f at_ : Nat) (t : ByteArray) (hf : f / 2 % 2 = 1) :
    titP f t (bs.drop at_) = (if h : at_ < bs.length then (if bs.length - at_ - 1 < (bs[at_]'h).toNat then none else some (⟨((bs.drop (at_ + 1)).take (bs[at_]'h).toNat).toArray⟩, bs.drop (at_ + (1 + (bs[at_]'h).toNat)))) else none) := by
  unfold titP
  rw [if_pos hf]
  by_cases h : at_ < bs.length
  · rw [dif_pos h, List.drop_eq_getElem_cons h]
    simp only []
    rw [List.length_drop, List.drop_drop, show bs.length - (at_ + 1) = bs.length - at_ - 1 by omega, Nat.add_assoc]
  · rw [dif_neg h, List.drop_of_length_le (by omega)]
end Go.Proofs.YtipofokinjkclaaDoor

