/- Parts one behind the other: What runs.Fits and the reference's Fits (17) answer; The features' bits, and what the reference's Has answers; What law 15's great and fixed answer; What law 17's great and runs.put answer; Plain: the runs by their places, as runs.layRuns goes; What slices.Equal on cells answers; What the reference's cellBytes answers: nine bytes of a cell; What the reference's diff (16) answers: the diff by rows; How a law's arguments are opened: integers, bools, strings, slices of bytes; How a law's argument is opened: a screen by value; slices of cells and of texts. Conditions: as told at each. -/
import Derived.Test.YtnnekdefncfeeaaDoorPF15
import Derived.Test.YtnnekdefncfeeaaDoorPF13
import Derived.Laws.BitsAllLaws
import Derived.Test.YtnnekdefncfeeaaDoorPF14
import Derived.Test.YtnnekdefncfeeaaDoorPF9
import Derived.Test.YtnnekdefncfeeaaDoorPF8
import Derived.Deep.DeepCutAuto
import Derived.Test.YtnnekdefncfeeaaDoorPF1
import Derived.SizedLaws
import Derived.Deep.Slices
import Derived.Lib.SmallJoins
import Derived.Test.YtnnekdefncfeeaaDoorPF11
import Derived.Deep.Fields

set_option linter.unusedVariables false
set_option linter.unusedSimpArgs false
/- What runs.Fits and the reference's Fits (17) answer. Conditions: parts that can be read; the tables of widths lie where they were laid. -/
namespace Go.Proofs.YtnnekdefncfeeaaDoor
open Go Go.RowKit Go.Lib

set_option maxRecDepth 100000 in
set_option maxHeartbeats 8000000 in
theorem fits1R_c (d : CeD) (w : World) : Calls Tryd.prog 27 #[d.val] w fun e w' => e = .returned (.bool (bad17 d)) ∧ Below w.heap.size w w' := by
  obtain ⟨W0, eW0⟩ : ∃ W0, W0 = w.alloc (.cells d.arr 50) := ⟨_, rfl⟩
  obtain ⟨p, ep⟩ : ∃ p, p = w.heap.size := ⟨_, rfl⟩
  have hp0 : W0.heap[p]? = some (.cells d.arr 50 (0, 0)) := by rw [eW0, ep]; exact heap_alloc_new _ _
  have v1 : W0.cell? ⟨p, 1, none⟩ = some (.int .u8 d.w) := heap_cell hp0 1
  have v2 : W0.cell? ⟨p, 2, none⟩ = some (.int .u32 d.fg) := heap_cell hp0 2
  have v3 : W0.cell? ⟨p, 3, none⟩ = some (.int .u32 d.bg) := heap_cell hp0 3
  have HB0 : Hid (Below w.heap.size w W0) := Lib.hid (by rw [eW0]; exact (Below.refl _ _).alloc (Nat.le_refl _) _)
  have EW0 : Hid (w.alloc (.cells #[.int .i32 d.r, .int .u8 d.w, .int .u32 d.fg, .int .u32 d.bg, .int .u8 d.at_, .int .u16 d.ln] 50) = W0) := Lib.hid eW0.symm
  have EP := Lib.hid ep
  clear eW0 ep hp0
  unfold bad17
  obtain ⟨b1, e1⟩ : ∃ b, (d.w == 0) = b := ⟨_, rfl⟩
  have e1n : (d.w != 0) = !b1 := by rw [bne, e1]
  rw [e1]
  show Calls _ _ #[.agg #[.int .i32 d.r, .int .u8 d.w, .int .u32 d.fg, .int .u32 d.bg, .int .u8 d.at_, .int .u16 d.ln]] w _
  cases b1 <;>
  · go_enter Tryd.func27, Tryd.ntmps27
    go_upto_region 1 with (fail)
    rw [EW0.out, ← EP.out]
    go_wp2_with (fail)
    go_ret
    exact ⟨rfl, HB0.out⟩
/-- Where the first bad one stands. -/
def badAtR : List CeD → Int → Int
  | [], _ => -1
  | d :: l, i => if bad17 d then i else badAtR l (i + 1)
theorem badAtR_any : ∀ (l : List CeD) (i : Int), 0 ≤ i → decide (0 ≤ badAtR l i) = l.any bad17
  | [], _, _ => rfl
  | d :: l, i, h => by
    rw [badAtR, List.any_cons]
    cases hb : bad17 d
    · rw [Bool.false_or, if_neg (by decide)]; exact badAtR_any l (i + 1) (by omega)
    · rw [if_pos rfl, Bool.true_or]; exact decide_eq_true h
set_option maxRecDepth 100000 in
set_option maxHeartbeats 16000000 in
theorem indexBadR_c (A : Option Addr) (n c : Nat) (ds : List CeD) (w : World) (hn : ds.length = n) (hr : RdC w A ds) (hl : n ≤ 60000) :
    Calls Tryd.prog 49 #[.slice A n c, .func (.func 27) #[] #[]] w fun e w' => e = .returned (.int .i64 (badAtR ds 0)) ∧ Below w.heap.size w w' := by
  have HN := Lib.hid hn
  have HR := Lib.hid hr
  obtain ⟨Z, eZ⟩ : ∃ Z, badAtR ds 0 = Z := ⟨_, rfl⟩
  rw [eZ]
  have EZ := Lib.hid eZ
  clear hn hr eZ
  go_enter Tryd.func49, Tryd.ntmps49
  go_wp2_with (fail)
  go_loopw [8] (fun i wr => ∃ k : Nat, k ≤ n ∧ i = .int .i64 k ∧ Hid (badAtR (ds.drop k) (k : Int) = Z) ∧ Hid (Below w.heap.size w wr)) (fun i _ => n - (intOf i).toNat)
  case atStart => exact ⟨0, Nat.zero_le _, rfl, Lib.hid EZ.out, Lib.hid (Below.refl _ _)⟩
  case round =>
    obtain ⟨k, hk, rfl, HG, HB⟩ := hrel
    rcases Nat.lt_or_ge k n with hlt | hge
    · have hlt' : (k : Int) < (n : Int) := by omega
      have hkl : k < ds.length := by rw [HN.out]; exact hlt
      have hrw := RdC.below HR.out HB.out
      obtain ⟨b, off, rfl, hbl, hcd⟩ := RdC.cellsAt hrw k hkl
      obtain ⟨d, ed⟩ : ∃ d, d = ds[k] := ⟨_, rfl⟩
      rw [← ed] at hcd
      have HCD := Lib.hid hcd
      have HST : Hid ((if bad17 d then (k : Int) else badAtR (ds.drop (k + 1)) ((k + 1 : Nat) : Int)) = Z) := Lib.hid (by
        have h := HG.out
        rw [List.drop_eq_getElem_cons hkl, badAtR, ← ed] at h
        rw [← h]
        split
        · rfl
        · congr 1)
      obtain ⟨bb, eb⟩ : ∃ b, bad17 d = b := ⟨_, rfl⟩
      have HBB := Lib.hid eb
      rw [eb] at HST
      clear hrw hcd ed eb hkl HG
      cases bb
      · go_wp2_with (first
          | (refine wpList_load_cells rfl 50 (.tmp 14) rfl ⟨b, off + k * 6, none⟩ rfl d.cells d.val rfl _ (cells_load HCD.out) Tryd.underlying50 rfl (info_cell.trans rfl) ?_)
          | (go_at_call 27; (refine (fits1R_c d wr).mono ?_); rintro _ w1 ⟨rfl, hb1⟩; rw [HBB.out]; have HB1 := Lib.hid (HB.out.trans (hb1.mono HB.out.size)); clear hb1))
        go_roundw
        case rel => exact ⟨k + 1, by omega, by go_num, Lib.hid HST.out, HB1⟩
        case measure => simp [intOf]; omega
      · have HKZ : Hid (Z = (k : Int)) := Lib.hid HST.out.symm
        go_wp2_with (first
          | (refine wpList_load_cells rfl 50 (.tmp 14) rfl ⟨b, off + k * 6, none⟩ rfl d.cells d.val rfl _ (cells_load HCD.out) Tryd.underlying50 rfl (info_cell.trans rfl) ?_)
          | (go_at_call 27; (refine (fits1R_c d wr).mono ?_); rintro _ w1 ⟨rfl, hb1⟩; rw [HBB.out]; have HB1 := Lib.hid (HB.out.trans (hb1.mono HB.out.size)); clear hb1))
        go_ret
        exact ⟨by rw [HKZ.out] <;> rfl, HB1.out⟩
    · obtain rfl : n = k := by omega
      have hge' : ¬ ((n : Int) < (n : Int)) := by omega
      have HKZ : Hid (Z = -1) := Lib.hid (by rw [← HG.out, List.drop_of_length_le (by rw [HN.out]; exact Nat.le_refl _)]; rfl)
      clear hge hk
      go_wp2_with (fail)
      go_ret
      exact ⟨by rw [HKZ.out] <;> rfl, HB.out⟩
set_option maxRecDepth 100000 in
set_option maxHeartbeats 4000000 in
theorem containsBadR_c (A : Option Addr) (n c : Nat) (ds : List CeD) (w : World) (hn : ds.length = n) (hr : RdC w A ds) (hl : n ≤ 60000) :
    Calls Tryd.prog 26 #[.slice A n c, .func (.func 27) #[] #[]] w fun e w' => e = .returned (.bool (ds.any bad17)) ∧ Below w.heap.size w w' := by
  obtain ⟨Z, eZ⟩ : ∃ Z, ds.any bad17 = Z := ⟨_, rfl⟩
  have EZ := Lib.hid ((badAtR_any ds 0 (Int.le_refl 0)).trans eZ)
  rw [eZ]
  obtain ⟨I, eI⟩ : ∃ I, badAtR ds 0 = I := ⟨_, rfl⟩
  have EI := Lib.hid eI
  rw [eI] at EZ
  have e2 := EZ.out
  clear eZ eI
  go_enter Tryd.func26, Tryd.ntmps26
  go_wp2_with (go_at_call 49; (refine (indexBadR_c A n c ds w hn hr hl).mono ?_); rintro _ w1 ⟨rfl, hb1⟩; rw [EI.out]; have HB1 := Lib.hid hb1; clear hb1)
  go_ret
  exact ⟨by first | rfl | rw [EZ.out], HB1.out⟩
set_option maxRecDepth 100000 in
set_option maxHeartbeats 8000000 in
theorem fits17_c (s : ScD) (A : Option Addr) (n c : Nat) (L : Option Addr) (m cm : Nat) (w : World) (hs : ScR w s A n c L m cm) (hU : TabU w) :
    Calls Tryd.prog 15 #[.agg (scC s A n c L m cm)] w fun e w' => e = .returned (.bool (fit17 s)) ∧ Below w.heap.size w w' := by
  obtain ⟨X, eX⟩ : ∃ X, X = scC s A n c L m cm := ⟨_, rfl⟩
  rw [← eX]
  obtain ⟨W0, eW0⟩ : ∃ W0, W0 = w.alloc (.cells X 25) := ⟨_, rfl⟩
  obtain ⟨p, ep⟩ : ∃ p, p = w.heap.size := ⟨_, rfl⟩
  have hb0 : Below w.heap.size w W0 := by rw [eW0]; exact (Below.refl _ _).alloc (Nat.le_refl _) _
  have HP0 : Hid (ScB W0 p s A n c L m cm) := Lib.hid (by rw [eW0, ep, eX]; exact heap_alloc_new _ _)
  have EW0 := Lib.hid eW0
  have EP := Lib.hid ep
  have HB0 := Lib.hid hb0
  have HR0 := Lib.hid (hs.below hb0)
  have HU0 := Lib.hid (hU.next hb0)
  clear eX eW0 ep hb0 hs hU
  obtain ⟨Z, eZ⟩ : ∃ Z, fit17 s = Z := ⟨_, rfl⟩
  rw [eZ]
  unfold fit17 at eZ
  rw [HR0.out.hm] at eZ
  obtain ⟨b1, e1⟩ : ∃ b, rightS s = b := ⟨_, rfl⟩
  obtain ⟨b2, e2⟩ : ∃ b, (m == 0) = b := ⟨_, rfl⟩
  have e2i : ((m : Int) == 0) = b2 := by rw [← e2, Bool.eq_iff_iff, beq_iff_eq, beq_iff_eq]; omega
  obtain ⟨b4, e4⟩ : ∃ b, s.cells.any bad17 = b := ⟨_, rfl⟩
  rw [e1, e2, e4] at eZ
  have E1 := Lib.hid e1
  have E4 := Lib.hid e4
  have EZ := Lib.hid eZ
  clear eZ e1 e4
  cases b1 <;> cases b2 <;> cases b4 <;>
  · go_enter Tryd.func15, Tryd.ntmps15
    go_upto_region 1 with (fail)
    rw [← EW0.out, ← EP.out]
    go_wp2_with (first
      | (refine wpList_load_row rfl 25 (.tmp 1) rfl p rfl 25 _ (0, 0) _ HP0.out Tryd.underlying25 rfl (info_sc.trans rfl) ?_)
      | (go_at_call 25; (refine (emulRight_c s A n c L m cm W0 HR0.out HU0.out).mono ?_); rintro _ w1 ⟨rfl, hb1⟩; rw [E1.out]; have HB1 := Lib.hid (HB0.out.trans (hb1.mono HB0.out.size)); have HR1 := Lib.hid (HR0.out.below hb1); have HP1 := HP0.out.below hb1; have x2 : w1.cell? ⟨p, 2, none⟩ = some (.slice A n c) := HP1.nine.2.2.1; have x6 : w1.cell? ⟨p, 6, none⟩ = some (.int .u8 s.mouse) := HP1.nine.2.2.2.2.2.2.1; have x8 : w1.cell? ⟨p, 8, none⟩ = some (.slice L m cm) := HP1.nine.2.2.2.2.2.2.2.2; clear hb1 HP1)
      | (go_at_call 26; (refine (containsBadR_c A n c s.cells w1 HR1.out.hn HR1.out.rd HR1.out.nl).mono ?_); rintro _ w2 ⟨rfl, hb2⟩; rw [E4.out]; have HB2 := Lib.hid (HB1.out.trans (hb2.mono HB1.out.size)); clear hb2))
    go_ret
    first
      | exact ⟨by rw [← EZ.out] <;> rfl, HB2.out⟩
      | exact ⟨by rw [← EZ.out] <;> rfl, HB1.out⟩
set_option maxRecDepth 100000 in
set_option maxHeartbeats 8000000 in
theorem refFits17_c (s : ScD) (A : Option Addr) (n c : Nat) (L : Option Addr) (m cm : Nat) (w : World) (hs : ScR w s A n c L m cm) (hU : TabU w) :
    Calls Tryd.prog 16 #[.agg (scC s A n c L m cm)] w fun e w' => e = .returned (.bool (fit17 s)) ∧ Below w.heap.size w w' := by
  obtain ⟨X, eX⟩ : ∃ X, X = scC s A n c L m cm := ⟨_, rfl⟩
  rw [← eX]
  obtain ⟨W0, eW0⟩ : ∃ W0, W0 = w.alloc (.cells X 25) := ⟨_, rfl⟩
  obtain ⟨p, ep⟩ : ∃ p, p = w.heap.size := ⟨_, rfl⟩
  have hb0 : Below w.heap.size w W0 := by rw [eW0]; exact (Below.refl _ _).alloc (Nat.le_refl _) _
  have HP0 : Hid (ScB W0 p s A n c L m cm) := Lib.hid (by rw [eW0, ep, eX]; exact heap_alloc_new _ _)
  have EW0 := Lib.hid eW0
  have EP := Lib.hid ep
  have HB0 := Lib.hid hb0
  have HR0 := Lib.hid (hs.below hb0)
  have HU0 := Lib.hid (hU.next hb0)
  clear eX eW0 ep hb0 hs hU
  obtain ⟨Z, eZ⟩ : ∃ Z, fit17 s = Z := ⟨_, rfl⟩
  rw [eZ]
  unfold fit17 at eZ
  rw [HR0.out.hm] at eZ
  obtain ⟨b1, e1⟩ : ∃ b, rightS s = b := ⟨_, rfl⟩
  obtain ⟨b2, e2⟩ : ∃ b, (m == 0) = b := ⟨_, rfl⟩
  have e2i : decide (0 < m) = !b2 := by rw [← e2]; rcases Nat.eq_zero_or_pos m with h | h <;> simp [h] <;> omega
  have e2j : decide (0 < (m : Int)) = !b2 := by rw [← e2i]; exact decide_eq_decide.2 (by omega)
  rw [e1, e2] at eZ
  have E1 := Lib.hid e1
  have EZ := Lib.hid eZ
  clear eZ e1
  cases b1 <;> cases b2
  case true.true =>
    go_enter Tryd.func16, Tryd.ntmps16
    go_upto_region 1 with (fail)
    rw [← EW0.out, ← EP.out]
    go_upto_region 3 with (first
      | (refine wpList_load_row rfl 25 (.tmp 1) rfl p rfl 25 _ (0, 0) _ HP0.out Tryd.underlying25 rfl (info_sc.trans rfl) ?_)
      | (go_at_call 28; (refine (refRight_c s A n c L m cm W0 HR0.out HU0.out).mono ?_); rintro _ w1 ⟨rfl, hb1⟩; rw [E1.out]; have HB1 := Lib.hid (HB0.out.trans (hb1.mono HB0.out.size)); have HR1 := Lib.hid (HR0.out.below hb1); have HP1 := Lib.hid (HP0.out.below hb1); have x2 : w1.cell? ⟨p, 2, none⟩ = some (.slice A n c) := HP1.out.nine.2.2.1; have x6 : w1.cell? ⟨p, 6, none⟩ = some (.int .u8 s.mouse) := HP1.out.nine.2.2.2.2.2.2.1; have x8 : w1.cell? ⟨p, 8, none⟩ = some (.slice L m cm) := HP1.out.nine.2.2.2.2.2.2.2.2; clear hb1))
    clear x6 x8 e2 e2i e2j
    go_wp2_with (fail)
    have HNL : Hid (s.cells.length = n ∧ n ≤ 60000) := Lib.hid ⟨HR1.out.hn, HR1.out.nl⟩
    have HRD : Hid (RdC w1 A s.cells) := Lib.hid HR1.out.rd
    go_loopw [16] (fun i wr => ∃ k : Nat, k ≤ n ∧ i = .int .i64 k ∧ Hid ((!(s.cells.drop k).any bad17) = Z) ∧ Hid (wr = w1)) (fun i _ => n - (intOf i).toNat)
    case atStart => exact ⟨0, Nat.zero_le _, rfl, Lib.hid EZ.out, Lib.hid rfl⟩
    case round =>
      obtain ⟨k, hk, rfl, HG, hwr⟩ := hrel
      obtain rfl := hwr.out
      have hn6 : n ≤ 60000 := HNL.out.2
      rcases Nat.lt_or_ge k n with hlt | hge
      · have hlt' : (k : Int) < (n : Int) := by omega
        have hkl : k < s.cells.length := by rw [HNL.out.1]; exact hlt
        obtain ⟨b, off, rfl, hbl, hcd⟩ := RdC.cellsAt HRD.out k hkl
        obtain ⟨d, ed⟩ : ∃ d, d = s.cells[k] := ⟨_, rfl⟩
        rw [← ed] at hcd
        obtain ⟨-, z1, z2, z3, -, -⟩ := hcd
        have hst := HG.out
        rw [List.drop_eq_getElem_cons hkl, List.any_cons, ← ed, bad17] at hst
        obtain ⟨b1, e1⟩ : ∃ b, (d.w == 0) = b := ⟨_, rfl⟩
        have e1n : (d.w != 0) = !b1 := by rw [bne, e1]
        rw [e1] at hst
        have HST := Lib.hid hst
        clear ed hst hkl HG
        cases b1
        · go_wp2_with (fail)
          go_ret
          exact ⟨by rw [← HST.out] <;> rfl, HB1.out⟩
        go_wp2_with (fail)
        go_roundw
        case rel => exact ⟨k + 1, by omega, by go_num, Lib.hid HST.out, by first | exact Lib.hid rfl | exact Lib.hid trivial⟩
        case measure => simp [intOf]; omega
      · obtain rfl : n = k := by omega
        have hge' : ¬ ((n : Int) < (n : Int)) := by omega
        have HKZ : Hid (Z = true) := Lib.hid (by rw [← HG.out, List.drop_of_length_le (by rw [HNL.out.1]; exact Nat.le_refl _)]; rfl)
        clear hge hk
        go_wp2_with (fail)
        go_ret
        exact ⟨by rw [HKZ.out] <;> rfl, HB1.out⟩
  all_goals
    go_enter Tryd.func16, Tryd.ntmps16
    go_upto_region 1 with (fail)
    rw [← EW0.out, ← EP.out]
    go_wp2_with (first
      | (refine wpList_load_row rfl 25 (.tmp 1) rfl p rfl 25 _ (0, 0) _ HP0.out Tryd.underlying25 rfl (info_sc.trans rfl) ?_)
      | (go_at_call 28; (refine (refRight_c s A n c L m cm W0 HR0.out HU0.out).mono ?_); rintro _ w1 ⟨rfl, hb1⟩; rw [E1.out]; have HB1 := Lib.hid (HB0.out.trans (hb1.mono HB0.out.size)); have HR1 := Lib.hid (HR0.out.below hb1); have HP1 := Lib.hid (HP0.out.below hb1); have x2 : w1.cell? ⟨p, 2, none⟩ = some (.slice A n c) := HP1.out.nine.2.2.1; have x6 : w1.cell? ⟨p, 6, none⟩ = some (.int .u8 s.mouse) := HP1.out.nine.2.2.2.2.2.2.1; have x8 : w1.cell? ⟨p, 8, none⟩ = some (.slice L m cm) := HP1.out.nine.2.2.2.2.2.2.2.2; clear hb1))
    go_ret
    exact ⟨by rw [← EZ.out] <;> rfl, HB1.out⟩
end Go.Proofs.YtnnekdefncfeeaaDoor


/- The features' bits, and what the reference's Has answers. Conditions: features of 32 bits. -/
namespace Go.Proofs.YtnnekdefncfeeaaDoor
open Go Go.RowKit Go.Lib

end Go.Proofs.YtnnekdefncfeeaaDoor


/- What law 15's great and fixed answer. Conditions: the tables lie where they were laid. -/
namespace Go.Proofs.YtnnekdefncfeeaaDoor
open Go Go.RowKit Go.Lib

def greatB (n t m : Nat) : Bool := decide (3000 < (n : Int)) || (decide (1000 < (t : Int)) || decide (1000 < (m : Int)))
theorem greatB_no {n t m : Nat} (h : greatB n t m = false) : n ≤ 3000 ∧ t ≤ 1000 ∧ m ≤ 1000 := by
  simp only [greatB, Bool.or_eq_false_iff, decide_eq_false_iff_not] at h
  omega
end Go.Proofs.YtnnekdefncfeeaaDoor


/- What law 17's great and runs.put answer. Conditions: none. -/
namespace Go.Proofs.YtnnekdefncfeeaaDoor
open Go Go.RowKit Go.Lib

set_option maxRecDepth 100000 in
set_option maxHeartbeats 8000000 in
theorem great17_c (s : ScD) (A : Option Addr) (n c : Nat) (L : Option Addr) (m cm : Nat) (w : World) :
    Calls Tryd.prog 7 #[.agg (scC s A n c L m cm)] w fun e w' => e = .returned (.bool (greatB n s.title.size m)) ∧ Below w.heap.size w w' := by
  obtain ⟨X, eX⟩ : ∃ X, X = scC s A n c L m cm := ⟨_, rfl⟩
  rw [← eX]
  obtain ⟨W0, eW0⟩ : ∃ W0, W0 = w.alloc (.cells X 25) := ⟨_, rfl⟩
  obtain ⟨p, ep⟩ : ∃ p, p = w.heap.size := ⟨_, rfl⟩
  have hb0 : Below w.heap.size w W0 := by rw [eW0]; exact (Below.refl _ _).alloc (Nat.le_refl _) _
  have hp0 : ScB W0 p s A n c L m cm := by rw [eW0, ep, eX]; exact heap_alloc_new _ _
  obtain ⟨x0, x1, x2, x3, x4, x5, x6, x7, x8⟩ := hp0.nine
  have EW0 := Lib.hid eW0
  have EP := Lib.hid ep
  have HB0 := Lib.hid hb0
  clear eX eW0 ep hb0 hp0 x0 x1 x3 x4 x5 x6
  unfold greatB
  obtain ⟨b1, e1⟩ : ∃ b, decide (3000 < (n : Int)) = b := ⟨_, rfl⟩
  obtain ⟨b2, e2⟩ : ∃ b, decide (1000 < (s.title.size : Int)) = b := ⟨_, rfl⟩
  obtain ⟨b3, e3⟩ : ∃ b, decide (1000 < (m : Int)) = b := ⟨_, rfl⟩
  rw [e1, e2, e3]
  cases b1 <;> cases b2 <;> cases b3 <;>
  · go_enter Tryd.func7, Tryd.ntmps7
    go_upto_region 1 with (fail)
    rw [← EW0.out, ← EP.out]
    go_wp2_with (fail)
    go_ret
    exact ⟨rfl, HB0.out⟩
def nv (n : Nat) : Value := .int .i64 (n : Int)
/-- A kind, and numbers behind it. -/
def varsL (l : List Nat) : List UInt8 := l.flatMap varL
theorem varsL_le (l : List Nat) (h : ∀ x ∈ l, U64 x) : (varsL l).length ≤ l.length * 10 := by
  induction l with
  | nil => exact Nat.le_refl _
  | cons a l ih =>
    have h1 := varL_len10 (h a List.mem_cons_self)
    have h2 := ih (fun x hx => h x (List.mem_cons_of_mem _ hx))
    simp only [varsL, List.flatMap_cons, List.length_append, List.length_cons] at h2 ⊢
    omega
set_option maxRecDepth 100000 in
set_option maxHeartbeats 2000000 in
theorem put17_c (kd : Nat) (hkd : kd < 256) (A : Option Addr) (n c : Nat) (l : List Nat) (w : World) (hl : l.length = n) (hr : Rd w A (l.map nv)) (hn : n ≤ 10) (hx : ∀ x ∈ l, x < 2 ^ 63) :
    Calls Tryd.prog 23 #[.int .u8 (kd : Int), .slice A n c] w fun e w' => ∃ v, e = .returned v ∧ OwnB w' w.heap.size v (lo kd :: varsL l) ∧ Below w.heap.size w w' := by
  have HL := Lib.hid hl
  have HR := Lib.hid hr
  have HX := Lib.hid hx
  obtain ⟨B, eB⟩ : ∃ B, B = w.heap.size := ⟨_, rfl⟩
  rw [← eB]
  obtain ⟨W0, eW0⟩ : ∃ W, W = w.alloc (.cells #[.int .u8 (kd : Int)] 5) := ⟨_, rfl⟩
  have HO0 : Hid (OwnB W0 B (.slice (some ⟨w.heap.size, 0, none⟩) 1 1) ([lo kd] ++ varsL (l.take 0))) := Lib.hid (by
    rw [eW0, eB]
    exact OwnB_lit w [lo kd] _ (by rw [List.map_cons, int_lo (n := kd) (by rw [Nat.mod_eq_of_lt hkd])]; rfl) 1 rfl (by simp))
  have HK0 : Hid (Below B w W0) := Lib.hid (by rw [eW0, eB]; exact (Below.refl _ _).alloc (Nat.le_refl _) _)
  have EB := Lib.hid eB
  have EW0 := Lib.hid eW0
  clear hl hr hx eB eW0
  go_enter Tryd.func23, Tryd.ntmps23
  go_upto_region 2 with (fail)
  rw [← EW0.out]
  go_wp2_with (fail)
  go_loopw [5, 12] (fun v i wr => ∃ k : Nat, k ≤ n ∧ i = .int .i64 k ∧ Hid (OwnB wr B v ([lo kd] ++ varsL (l.take k))) ∧ Hid (Below B w wr)) (fun _ i _ => n - (intOf i).toNat)
  case atStart => exact ⟨0, Nat.zero_le _, rfl, HO0, HK0⟩
  case round =>
    obtain ⟨k, hk, rfl, HO, HK⟩ := hrel
    rcases Nat.lt_or_ge k n with hlt | hge
    · have hlt' : (k : Int) < (n : Int) := by omega
      have hkl : k < l.length := by rw [HL.out]; exact hlt
      have hrw : Rd wr A (l.map nv) := HR.out.below (by rw [← EB.out]; exact HK.out)
      obtain ⟨b, off, rfl, hbl, hcs⟩ := hrw.addr (by rw [List.length_map]; omega)
      obtain ⟨x, ex⟩ : ∃ x, x = l[k] := ⟨_, rfl⟩
      have hx63 : x < 2 ^ 63 := by rw [ex]; exact HX.out _ (List.getElem_mem hkl)
      have hc : wr.cell? ⟨b, off + k, none⟩ = some (.int .i64 (x : Int)) := by
        have h := hcs k (by rw [List.length_map]; exact hkl)
        rw [List.getElem_map, ← ex] at h
        exact h
      have hwx : IntKind.u64.wrap (x : Int) = (x : Int) := IntWalk.u64_in _ ⟨by omega, by omega⟩
      have hxu : U64 x := by unfold U64; omega
      have HXT : Hid (([lo kd] ++ varsL (l.take k)) ++ varL x = [lo kd] ++ varsL (l.take (k + 1))) := Lib.hid (by
        rw [List.take_succ_eq_append_getElem hkl, varsL, varsL, List.flatMap_append, ← ex, List.append_assoc]; simp)
      have HLN : Hid (([lo kd] ++ varsL (l.take k)).length + 10 ≤ 1000) := Lib.hid (by
        have h := varsL_le (l.take k) (fun y hy => by have := HX.out y (List.mem_of_mem_take hy); unfold U64; omega)
        simp only [List.length_append, List.length_singleton, List.length_take] at h ⊢
        omega)
      have HSZ : Hid (B ≤ wr.heap.size) := Lib.hid (by have := HK.out.size; rw [EB.out]; exact this)
      have HXU := Lib.hid hxu
      clear hrw hcs ex hx63 hkl hxu
      go_wp2_with (first
        | (go_at_call 43; (refine (Var_c x wr HXU.out).mono ?_); rintro _ w2 ⟨v2, rfl, ho2, hb2⟩; obtain ⟨A2, c2, rfl, _, _, r2, _⟩ := OwnB.form ho2; have R2 := Lib.hid r2; have HB2 := Lib.hid hb2; have s2 : B ≤ w2.heap.size := Nat.le_trans HSZ.out hb2.size; have HO2 := Lib.hid (HO.out.below hb2); have HK2 := Lib.hid (HK.out.trans (hb2.mono HSZ.out)); clear ho2 hb2 r2)
        | (at_builtin; refine wpList_appB _ rfl (.tmp 16) (.tmp 19) rfl B _ _ rfl HO2.out A2 (varL x).length c2 (varL x) rfl rfl R2.out (by have := HLN.out; have := varL_len10 HXU.out; omega) s2 ?_; intro v4 w4 h4 hg4 _; have HO4 := Lib.hid h4; have HK4 := Lib.hid (HK2.out.grown hg4 s2 (fun q e => (Own.lt HO2.out q e).1)); clear h4 hg4))
      go_roundw
      case rel => exact ⟨k + 1, by omega, by go_num, Lib.hid (by rw [← HXT.out]; exact HO4.out), HK4⟩
      case measure => simp [intOf]; omega
    · obtain rfl : n = k := by omega
      have hge' : ¬ ((n : Int) < (n : Int)) := by omega
      have HE : Hid ([lo kd] ++ varsL (l.take n) = lo kd :: varsL l) := Lib.hid (by rw [List.take_of_length_le (by rw [HL.out]; exact Nat.le_refl _)]; rfl)
      go_wp2_with (fail)
      go_ret
      exact ⟨_, rfl, by rw [← HE.out]; exact HO.out, HK.out⟩
end Go.Proofs.YtnnekdefncfeeaaDoor


/- Plain: the runs by their places, as runs.layRuns goes. Conditions: as many cells in both. -/
namespace Go.Proofs.YtnnekdefncfeeaaDoor
open Go Go.RowKit Go.Lib

/-- What is left to tell at place i, the last run's end at h. -/
def restG (a b : List CeD) (i h : Nat) : Nat × List UInt8 := runsG (b.length - i) (i - h) (a.drop i) (b.drop i)
theorem restG_zero (a b : List CeD) : restG a b 0 0 = runsD a b := rfl
theorem restG_end (a b : List CeD) (i h : Nat) (hi : b.length ≤ i) : restG a b i h = (0, []) := by
  rw [restG, Nat.sub_eq_zero_of_le hi]; rfl
theorem restG_same {a b : List CeD} {i h : Nat} (hi : i < b.length) (ha : i < a.length) (hh : h ≤ i) (e : cellEq a[i] b[i] = true) : restG a b i h = restG a b (i + 1) h := by
  rw [restG, restG, show b.length - i = (b.length - (i + 1)) + 1 by omega, List.drop_eq_getElem_cons hi, List.drop_eq_getElem_cons ha, runsG, if_pos e, show i - h + 1 = i + 1 - h by omega]
/-- Where the run goes on from place t. -/
def endG (p : CeD) (a b : List CeD) (t : Nat) : Nat := t + runEnd p (a.drop t) (b.drop t)
theorem endG_go {p : CeD} {a b : List CeD} {t : Nat} (hi : t < b.length) (ha : t < a.length) (e : cellEq a[t] b[t] = false) (q : penEq b[t] p = true) : endG p a b t = endG p a b (t + 1) := by
  rw [endG, endG, List.drop_eq_getElem_cons hi, List.drop_eq_getElem_cons ha, runEnd, if_neg (by rw [e]; decide), if_pos q]; omega
theorem endG_same {p : CeD} {a b : List CeD} {t : Nat} (hi : t < b.length) (ha : t < a.length) (e : cellEq a[t] b[t] = true) : endG p a b t = t := by
  rw [endG, List.drop_eq_getElem_cons hi, List.drop_eq_getElem_cons ha, runEnd, if_pos e]; rfl
theorem endG_pen {p : CeD} {a b : List CeD} {t : Nat} (hi : t < b.length) (ha : t < a.length) (q : penEq b[t] p = false) : endG p a b t = t := by
  rw [endG, List.drop_eq_getElem_cons hi, List.drop_eq_getElem_cons ha, runEnd, q]; split <;> rfl
theorem endG_end (p : CeD) (a b : List CeD) (t : Nat) (hi : b.length ≤ t) : endG p a b t = t := by
  have h := (runEnd_le p (a.drop t) (b.drop t)).1
  rw [List.length_drop] at h
  rw [endG]; omega
theorem endG_le (p : CeD) (a b : List CeD) (t : Nat) (hi : t ≤ b.length) : t ≤ endG p a b t ∧ endG p a b t ≤ b.length := by
  have h := (runEnd_le p (a.drop t) (b.drop t)).1
  rw [List.length_drop] at h
  rw [endG]; omega
theorem restG_run {a b : List CeD} {i h t : Nat} (hi : i < b.length) (ha : i < a.length) (e : cellEq a[i] b[i] = false) (ht : endG b[i] a b (i + 1) = t) :
    restG a b i h = ((restG a b t t).1 + 1, runB (i - h) b[i] ((b.drop i).take (t - i)) ++ (restG a b t t).2) := by
  have hle := endG_le b[i] a b (i + 1) hi
  rw [ht] at hle
  have he : runEnd b[i] (a.drop (i + 1)) (b.drop (i + 1)) = t - (i + 1) := by rw [← ht, endG]; omega
  have ht1 : i + 1 + (t - (i + 1)) = t := by omega
  rw [restG, restG, show b.length - i = (b.length - (i + 1)) + 1 by omega, List.drop_eq_getElem_cons hi, List.drop_eq_getElem_cons ha, runsG, if_neg (by rw [e]; decide), he, List.drop_drop, List.drop_drop, ht1, Nat.sub_self,
    runsG_fuel (b.length - (i + 1)) (b.length - t) 0 (a.drop t) (b.drop t) (by rw [List.length_drop]; omega) (by rw [List.length_drop]; exact Nat.le_refl _), show t - i = (t - (i + 1)) + 1 by omega, List.take_succ_cons]
end Go.Proofs.YtnnekdefncfeeaaDoor


/- What slices.Equal on cells answers. Conditions: cells that can be read. -/
namespace Go.Proofs.YtnnekdefncfeeaaDoor
open Go Go.RowKit

end Go.Proofs.YtnnekdefncfeeaaDoor


/- What the reference's cellBytes answers: nine bytes of a cell. Conditions: numbers that fit. -/
namespace Go.Proofs.YtnnekdefncfeeaaDoor
open Go Go.RowKit Go.Lib

theorem u64_small {n : Nat} (h : n ≤ 4294967295) : U64 n := by unfold U64; omega
end Go.Proofs.YtnnekdefncfeeaaDoor


/- What the reference's diff (16) answers: the diff by rows. Conditions: the second screen fits, the first has as many cells. -/
namespace Go.Proofs.YtnnekdefncfeeaaDoor
open Go Go.RowKit Go.Lib

end Go.Proofs.YtnnekdefncfeeaaDoor


/- How a law's arguments are opened: integers, bools, strings, slices of bytes. Conditions: none. -/
namespace Go.Proofs.YtnnekdefncfeeaaDoor
open Go Go.RowKit Go.ChangeShapes Go.WideShapes

/-- The values of a slice of bytes. -/
theorem rd_of_ints {W : World} {a : Addr} {zs : List Int} {len : Nat} (hl : len ≤ zs.length) (hcell : ∀ i, i < zs.length → W.cell? (a.add i) = some (.int .u8 (zs.getD i 0))) (hwz : ∀ n ∈ zs, (Lit.int .u8 n).wf = true) :
    ∃ bs : List UInt8, bs.length = len ∧ Rd W (some a) (bs.map bv) := by
  refine ⟨(zs.take len).map (fun z => UInt8.ofNat z.toNat), by simp; omega, ?_⟩
  rcases Nat.eq_zero_or_pos len with h0 | h0
  · subst h0; exact .inl (by simp)
  · obtain ⟨b, off, spot⟩ := a
    have h1 := hcell 0 (by omega)
    have hs : spot = none := by simpa [Addr.add] using World.cell?_spot h1
    subst hs
    refine .inr ⟨b, off, rfl, ?_, fun k hk => ?_⟩
    · exact World.block_lt_of_cell? W ⟨b, off, none⟩ (by simpa [Addr.add] using h1)
    · have hk' : k < zs.length := by simp at hk; omega
      have h2 := hcell k hk'
      rw [Addr.add_lit] at h2
      rw [h2]
      have hb := bounds_u8 (hwz zs[k] (List.getElem_mem hk'))
      simp only [List.getElem_map, List.getElem_take, bv, List.getD_eq_getElem?_getD, List.getElem?_eq_getElem hk', Option.getD_some, UInt8.toNat_ofNat']
      congr 2
      omega

theorem opn_bytes {H : Type} {enc : TypeId × Value → H} {P : Program} {W : World} {base t e j : Nat} {v : Value} {d : DataW H} {p : List MemPlace} {ts : List TypeId} {ds : List (DataW H)} (ht : P.underlying t = some (.slice e)) (he : P.underlying e = some (.int .u8)) (hc : P.cellsOf e = 1) (hb : P.bytesOf e = 1)
    (hv : Value.okWide P W .any base t v) (hj : DataW.Trod enc P W 0 (fun _ => true) true t v d p) (hsz : (DataW.weightsEach P ts ds).all (· ≤ reachBytes) = true) (h1 : ts[j]? = some t) (h2 : ds[j]? = some d) :
    ∃ (A : Option Addr) (n c : Nat) (bs : List UInt8), v = .slice A n c ∧ bs.length = n ∧ Rd W A (bs.map bv) ∧ n ≤ c ∧ c ≤ maxLen ∧ n ≤ 140737488351232 := by
  obtain ⟨a0, len, cap, rfl⟩ := okWide_slice ht hv
  obtain ⟨fuel, hf⟩ := hj
  rcases open_ints ht he hc hf with ⟨hcs, _⟩ | ⟨x, l, c, zs, hcs, _, hl, hm, hz, hx, hcell, hwz⟩
  · simp [Value.cells] at hcs
    obtain ⟨rfl, rfl, rfl⟩ := hcs
    exact ⟨none, 0, 0, [], rfl, rfl, .inl rfl, Nat.le_refl _, Nat.zero_le _, by decide⟩
  · simp [Value.cells] at hcs
    obtain ⟨rfl, rfl, rfl⟩ := hcs
    simp only [Prod.mk.injEq] at hx
    obtain ⟨rfl, _⟩ := hx
    simp only [if_true] at hz
    have hs := sized_slice hsz h1 h2 ht
    rw [hb] at hs
    simp only [lits, List.length_map, List.length_take, List.length_drop, reachBytes] at hs
    obtain ⟨bs, g1, g2⟩ := rd_of_ints (len := len) (by omega) hcell hwz
    exact ⟨some x, len, cap, bs, rfl, g1, g2, hl, hm, by omega⟩

theorem list_of_all {α : Type} {Q : Nat → α → Prop} (n : Nat) (h : ∀ i, i < n → ∃ x, Q i x) : ∃ l : List α, l.length = n ∧ ∀ i (hi : i < l.length), Q i l[i] := by
  induction n with
  | zero => exact ⟨[], rfl, fun i hi => absurd hi (by simp)⟩
  | succ n ih =>
    obtain ⟨l, h1, h2⟩ := ih (fun i hi => h i (by omega))
    obtain ⟨x, hx⟩ := h n (by omega)
    refine ⟨l ++ [x], by simp [h1], fun i hi => ?_⟩
    rcases Nat.lt_or_ge i l.length with hlt | hge
    · rw [List.getElem_append_left hlt]; exact h2 i hlt
    · have : i = n := by simp at hi; omega
      subst this
      rw [List.getElem_append_right hge]
      simpa using hx

/-- The address reads as these pairs. -/
def RdP (w : World) (A : Option Addr) (zs : List (Int × Int)) : Prop :=
  zs = [] ∨ ∃ b off, A = some ⟨b, off, none⟩ ∧ b < w.heap.size ∧ ∀ k (h : k < zs.length), w.cell? ⟨b, off + k * 2, none⟩ = some (.int .i64 zs[k].1) ∧ w.cell? ⟨b, off + k * 2 + 1, none⟩ = some (.int .i64 zs[k].2)
theorem RdP.below {w w' : World} {A : Option Addr} {zs : List (Int × Int)} (h : RdP w A zs) (hb : Below w.heap.size w w') : RdP w' A zs := by
  rcases h with h | ⟨b, off, hA, hlt, hc⟩
  · exact .inl h
  · exact .inr ⟨b, off, hA, Nat.lt_of_lt_of_le hlt hb.size, fun k hk => ⟨(hb.cell (p := ⟨b, _, none⟩) hlt).trans (hc k hk).1, (hb.cell (p := ⟨b, _, none⟩) hlt).trans (hc k hk).2⟩⟩

end Go.Proofs.YtnnekdefncfeeaaDoor


/- How a law's argument is opened: a screen by value; slices of cells and of texts. Conditions: none. -/
namespace Go.Proofs.YtnnekdefncfeeaaDoor
open Go Go.RowKit Go.ChangeShapes Go.WideShapes

theorem weightsAll_in {H : Type} {P : Program} {e : TypeId} : ∀ {l : List (DataW H)} {d : DataW H}, d ∈ l → ∀ n ∈ d.weights P e, n ∈ DataW.weightsAll P e l
  | d' :: r, d, hd, n, hn => by
    simp only [DataW.weightsAll, List.mem_append]
    rcases List.mem_cons.1 hd with rfl | h
    · exact Or.inl hn
    · exact Or.inr (weightsAll_in h n hn)
/-- The fields of a pen's type. -/
structure PeT (P : Program) (t : TypeId) (f0 f1 f2 f3 : Field) : Prop where
  hs : P.underlying t = some (.struct #[f0, f1, f2, f3])
  hC : P.cellsOf t = 4
  hone : Deep.oneCellFields P #[f0, f1, f2, f3] = true
  h0 : P.underlying f0.type = some (.int .u32)
  h1 : P.underlying f1.type = some (.int .u32)
  h2 : P.underlying f2.type = some (.int .u8)
  h3 : P.underlying f3.type = some (.int .u16)
/-- The fields of a cell's type. -/
structure CeT (P : Program) (t : TypeId) (f0 f1 f2 : Field) (pt : TypeId) (g0 g1 g2 g3 : Field) : Prop where
  hs : P.underlying t = some (.struct #[f0, f1, f2])
  hC : P.cellsOf t = 6
  o0 : f0.offset = 0
  o1 : f1.offset = 1
  o2 : f2.offset = 2
  k0 : P.cellsOf f0.type = 1
  k1 : P.cellsOf f1.type = 1
  h0 : P.underlying f0.type = some (.int .i32)
  h1 : P.underlying f1.type = some (.int .u8)
  h2 : f2.type = pt
  T : PeT P pt g0 g1 g2 g3
/-- The fields of a screen's type. -/
structure ScT (P : Program) (t : TypeId) (f0 f1 f2 f3 f4 f5 f6 f7 f8 : Field) (et st : TypeId) (c0 c1 c2 : Field) (pt : TypeId) (g0 g1 g2 g3 : Field) : Prop where
  hs : P.underlying t = some (.struct #[f0, f1, f2, f3, f4, f5, f6, f7, f8])
  hC : P.cellsOf t = 9
  hone : Deep.oneCellFields P #[f0, f1, f2, f3, f4, f5, f6, f7, f8] = true
  h0 : P.underlying f0.type = some (.int .i64)
  h1 : P.underlying f1.type = some (.int .i64)
  h2 : P.underlying f2.type = some (.slice et)
  hB : P.bytesOf et = 20
  T : CeT P et c0 c1 c2 pt g0 g1 g2 g3
  h3 : P.underlying f3.type = some (.int .i64)
  h4 : P.underlying f4.type = some (.int .i64)
  h5 : P.underlying f5.type = some .bool
  h6 : P.underlying f6.type = some (.int .u8)
  h7 : P.underlying f7.type = some .string
  h8 : P.underlying f8.type = some (.slice st)
  hst : P.underlying st = some .string
  cst : P.cellsOf st = 1
  bst : P.bytesOf st = 16

/-- A cell's numbers are such as its types hold. -/
def CeOk (d : CeD) : Prop := (-2147483648 ≤ d.r ∧ d.r ≤ 2147483647) ∧ (0 ≤ d.w ∧ d.w ≤ 255) ∧ (0 ≤ d.fg ∧ d.fg ≤ 4294967295) ∧ (0 ≤ d.bg ∧ d.bg ≤ 4294967295) ∧ (0 ≤ d.at_ ∧ d.at_ ≤ 255) ∧ (0 ≤ d.ln ∧ d.ln ≤ 65535)
theorem wf_i64 {a : Int} (w : (Lit.int .i64 a).wf = true) : -9223372036854775808 ≤ a ∧ a ≤ 9223372036854775807 := by
  simp only [Lit.wf, IntKind.min, IntKind.max, IntKind.signed, IntKind.bits, Bool.and_eq_true, decide_eq_true_eq] at w
  exact ⟨by simpa using w.1, by simpa using w.2⟩
theorem wf_i32 {a : Int} (w : (Lit.int .i32 a).wf = true) : -2147483648 ≤ a ∧ a ≤ 2147483647 := by
  simp only [Lit.wf, IntKind.min, IntKind.max, IntKind.signed, IntKind.bits, Bool.and_eq_true, decide_eq_true_eq] at w
  exact ⟨by simpa using w.1, by simpa using w.2⟩
theorem wf_u8 {a : Int} (w : (Lit.int .u8 a).wf = true) : 0 ≤ a ∧ a ≤ 255 := by
  simp only [Lit.wf, IntKind.min, IntKind.max, IntKind.signed, IntKind.bits, Bool.and_eq_true, decide_eq_true_eq] at w
  exact ⟨by simpa using w.1, by simpa using w.2⟩
theorem wf_u16 {a : Int} (w : (Lit.int .u16 a).wf = true) : 0 ≤ a ∧ a ≤ 65535 := by
  simp only [Lit.wf, IntKind.min, IntKind.max, IntKind.signed, IntKind.bits, Bool.and_eq_true, decide_eq_true_eq] at w
  exact ⟨by simpa using w.1, by simpa using w.2⟩
theorem wf_u32 {a : Int} (w : (Lit.int .u32 a).wf = true) : 0 ≤ a ∧ a ≤ 4294967295 := by
  simp only [Lit.wf, IntKind.min, IntKind.max, IntKind.signed, IntKind.bits, Bool.and_eq_true, decide_eq_true_eq] at w
  exact ⟨by simpa using w.1, by simpa using w.2⟩

theorem open_pen {H : Type} {enc : TypeId × Value → H} {P : Program} {W : World} {t fuel : Nat} {f0 f1 f2 f3 : Field} (T : PeT P t f0 f1 f2 f3) {cs : List Value} {x : DataW H × List MemPlace}
    (hf : DataW.trod enc P W 0 (fun _ => true) true fuel t cs = some x) :
    ∃ fg bg a ln : Int, cs = [.int .u32 fg, .int .u32 bg, .int .u8 a, .int .u16 ln] ∧ (0 ≤ fg ∧ fg ≤ 4294967295) ∧ (0 ≤ bg ∧ bg ≤ 4294967295) ∧ (0 ≤ a ∧ a ≤ 255) ∧ (0 ≤ ln ∧ ln ≤ 65535) := by
  obtain ⟨ys, n', _, _, hl4, hlen', hgs⟩ := DataW.trod_struct T.hs hf
  rw [T.hC] at hl4
  obtain ⟨o0, k0⟩ := Deep.hone_of T.hone 0 f0 rfl
  obtain ⟨o1, k1⟩ := Deep.hone_of T.hone 1 f1 rfl
  obtain ⟨o2, k2⟩ := Deep.hone_of T.hone 2 f2 rfl
  obtain ⟨o3, k3⟩ := Deep.hone_of T.hone 3 f3 rfl
  match cs, hl4, ys, hlen' with
  | [u0, u1, u2, u3], _, [y0, y1, y2, y3], _ =>
    have q0 := hgs 0 f0 rfl
    have q1 := hgs 1 f1 rfl
    have q2 := hgs 2 f2 rfl
    have q3 := hgs 3 f3 rfl
    rw [o0, k0] at q0
    rw [o1, k1] at q1
    rw [o2, k2] at q2
    rw [o3, k3] at q3
    obtain ⟨a0, e0, _, w0⟩ := DataW.trod_int T.h0 q0
    obtain ⟨a1, e1, _, w1⟩ := DataW.trod_int T.h1 q1
    obtain ⟨a2, e2, _, w2⟩ := DataW.trod_int T.h2 q2
    obtain ⟨a3, e3, _, w3⟩ := DataW.trod_int T.h3 q3
    simp at e0 e1 e2 e3
    subst e0 e1 e2 e3
    exact ⟨a0, a1, a2, a3, rfl, wf_u32 w0, wf_u32 w1, wf_u8 w2, wf_u16 w3⟩
theorem open_cell {H : Type} {enc : TypeId × Value → H} {P : Program} {W : World} {t pt fuel : Nat} {f0 f1 f2 g0 g1 g2 g3 : Field} (T : CeT P t f0 f1 f2 pt g0 g1 g2 g3) {cs : List Value} {x : DataW H × List MemPlace}
    (hf : DataW.trod enc P W 0 (fun _ => true) true fuel t cs = some x) : ∃ d : CeD, cs = d.cells ∧ CeOk d := by
  obtain ⟨ys, n, _, _, hl, hlen, hg⟩ := DataW.trod_struct T.hs hf
  rw [T.hC] at hl
  match cs, hl, ys, hlen with
  | [u0, u1, u2, u3, u4, u5], _, [y0, y1, y2], _ =>
    have q0 := hg 0 f0 rfl
    have q1 := hg 1 f1 rfl
    have q2 := hg 2 f2 rfl
    rw [T.o0, T.k0] at q0
    rw [T.o1, T.k1] at q1
    rw [T.o2, T.h2, T.T.hC] at q2
    obtain ⟨a0, e0, _, w0⟩ := DataW.trod_int T.h0 q0
    obtain ⟨a1, e1, _, w1⟩ := DataW.trod_int T.h1 q1
    obtain ⟨fg, bg, a, ln, e2, r⟩ := open_pen T.T q2
    simp at e0 e1 e2
    obtain ⟨z1, z2, z3, z4⟩ := e2
    subst e0 e1 z1 z2 z3 z4
    exact ⟨⟨a0, a1, fg, bg, a, ln⟩, rfl, wf_i32 w0, wf_u8 w1, r⟩
theorem open_cells {H : Type} {enc : TypeId × Value → H} {P : Program} {W : World} {t et pt fuel : Nat} {f0 f1 f2 g0 g1 g2 g3 : Field} (ht : P.underlying t = some (.slice et)) (hB : P.bytesOf et = 20) (T : CeT P et f0 f1 f2 pt g0 g1 g2 g3) {u : Value} {y : DataW H × List MemPlace}
    (hf : DataW.trod enc P W 0 (fun _ => true) true fuel t [u] = some y) :
    ∃ (A : Option Addr) (n c : Nat) (ds : List CeD), u = .slice A n c ∧ ds.length = n ∧ RdC W A ds ∧ n ≤ c ∧ c ≤ maxLen ∧ (∀ d ∈ ds, CeOk d) ∧ ((∀ k ∈ y.1.weights P t, k ≤ reachBytes) → n * 20 ≤ reachBytes) := by
  rcases Deep.open_slice ht hf with ⟨hcs, _⟩ | ⟨a, len, cap, m, n, D, Pl, hcs, _, hl, hm, hmm, hx, hcell⟩
  · injection hcs with hcs _
    subst hcs
    exact ⟨none, 0, 0, [], rfl, rfl, .inl rfl, Nat.le_refl _, Nat.zero_le _, by simp, fun _ => by decide⟩
  · injection hcs with hcs _
    subst hcs
    simp only [if_true] at hmm
    obtain rfl : cap = m := hmm.symm
    have each : ∀ i, i < len → ∃ d : CeD, (∀ q (hq : q < 6), W.cell? (a.add (i * 6 + q)) = (d.cells)[q]?) ∧ CeOk d := by
      intro i hi
      obtain ⟨cs', g1, g2⟩ := hcell i (by omega)
      rw [T.hC] at g1
      obtain ⟨_, hlen, hg⟩ := World.cells?_some g1
      obtain ⟨d, hcs, hok⟩ := open_cell T g2
      refine ⟨d, fun q hq => ?_, hok⟩
      rw [← Deep.add_add]
      subst hcs
      have := hg q (by simpa [CeD.cells] using hq)
      rw [this]
    obtain ⟨ds, hz1, hz2⟩ := list_of_all len each
    have hcellz : ∀ i (hi : i < ds.length) q, q < 6 → W.cell? (a.add (i * 6 + q)) = (cellsC ds)[i * 6 + q]? := by
      intro i hi q hq
      rw [cellsC_get _ i hi q hq, (hz2 i hi).1 q hq]
    refine ⟨some a, len, cap, ds, rfl, hz1, ?_, hl, hm, fun d hd => ?_, fun hw => ?_⟩
    · rcases Nat.eq_zero_or_pos len with h0 | h0
      · left
        have : ds = [] := List.eq_nil_of_length_eq_zero (by omega)
        rw [this]; rfl
      · have h := hcellz 0 (by omega) 0 (by decide)
        rw [List.getElem?_eq_getElem (by rw [cellsC_length]; omega), show a.add (0 * 6 + 0) = a by simp [Addr.add]] at h
        have hsp := World.cell?_spot h
        have hlt := World.block_lt_of_cell? W a h
        obtain ⟨b, off, spot⟩ := a
        simp only at hsp
        subst hsp
        refine .inr ⟨b, off, rfl, hlt, fun k hk => ?_⟩
        have hk' : k < ds.length * 6 := by rw [cellsC_length] at hk; exact hk
        have h := hcellz (k / 6) (by omega) (k % 6) (Nat.mod_lt _ (by decide))
        rw [show k / 6 * 6 + k % 6 = k by omega, Addr.add_lit, List.getElem?_eq_getElem hk] at h
        exact h
    · obtain ⟨i, hi, rfl⟩ := List.mem_iff_getElem.1 hd
      exact (hz2 i hi).2
    · subst hx
      have h := hw ((((List.range len).map D).length + ((List.range (cap - len)).map fun j => D (len + j)).length) * 20) (by
        simp only [DataW.weights, ht, List.mem_cons]
        left
        rw [hB])
      simp only [List.length_map, List.length_range, reachBytes] at h ⊢
      omega
theorem open_strs {H : Type} {enc : TypeId × Value → H} {P : Program} {W : World} {t st fuel : Nat} (ht : P.underlying t = some (.slice st)) (hs : P.underlying st = some .string) (hc : P.cellsOf st = 1) (hB : P.bytesOf st = 16) {u : Value} {y : DataW H × List MemPlace}
    (hf : DataW.trod enc P W 0 (fun _ => true) true fuel t [u] = some y) :
    ∃ (A : Option Addr) (n c : Nat) (ss : List ByteArray), u = .slice A n c ∧ ss.length = n ∧ RdT W A ss ∧ n ≤ c ∧ c ≤ maxLen ∧ ((∀ k ∈ y.1.weights P t, k ≤ reachBytes) → n * 16 ≤ reachBytes ∧ ∀ s ∈ ss, s.size ≤ reachBytes) := by
  rcases Deep.open_slice1 ht hc hf with ⟨hcs, _⟩ | ⟨a, len, cap, m, n, V, D, Pl, hcs, _, hl, hm, hmm, hx, hcell⟩
  · injection hcs with hcs _
    subst hcs
    exact ⟨none, 0, 0, [], rfl, rfl, .inl rfl, Nat.le_refl _, Nat.zero_le _, fun _ => ⟨by decide, by simp⟩⟩
  · injection hcs with hcs _
    subst hcs
    simp only [if_true] at hmm
    obtain rfl : cap = m := hmm.symm
    have each : ∀ i, i < len → ∃ s : ByteArray, W.cell? (a.add i) = some (.string s) ∧ D i = .lit (.string s.data.toList) := by
      intro i hi
      obtain ⟨g1, g2⟩ := hcell i (by omega)
      obtain ⟨s, e1, e2, _⟩ := DataW.trod_string hs g2
      simp only [List.cons.injEq, and_true] at e1
      simp only [Prod.mk.injEq] at e2
      exact ⟨s, by rw [g1, e1], e2.1⟩
    obtain ⟨ss, hz1, hz2⟩ := list_of_all len each
    refine ⟨some a, len, cap, ss, rfl, hz1, ?_, hl, hm, fun hw => ⟨?_, fun s hs' => ?_⟩⟩
    · rcases Nat.eq_zero_or_pos len with h0 | h0
      · left
        have : ss = [] := List.eq_nil_of_length_eq_zero (by omega)
        rw [this]; rfl
      · have h := (hz2 0 (by omega)).1
        rw [show a.add 0 = a by simp [Addr.add]] at h
        have hsp := World.cell?_spot h
        have hlt := World.block_lt_of_cell? W a h
        obtain ⟨b, off, spot⟩ := a
        simp only at hsp
        subst hsp
        refine .inr ⟨b, off, rfl, hlt, fun k hk => ?_⟩
        have hk' : k < ss.length := by rw [strV, List.length_map] at hk; exact hk
        have h := (hz2 k hk').1
        rw [Addr.add_lit] at h
        rw [h]; simp [strV]
    · subst hx
      have h := hw ((((List.range len).map D).length + ((List.range (cap - len)).map fun j => D (len + j)).length) * 16) (by
        simp only [DataW.weights, ht, List.mem_cons]
        left
        rw [hB])
      simp only [List.length_map, List.length_range, reachBytes] at h ⊢
      omega
    · obtain ⟨i, hi, rfl⟩ := List.mem_iff_getElem.1 hs'
      subst hx
      have h := hw (ss[i].data.toList.length) (by
        simp only [DataW.weights, ht, List.mem_cons, List.mem_append]
        refine Or.inr (Or.inl (weightsAll_in (d := D i) (List.mem_map.2 ⟨i, List.mem_range.2 (by omega), rfl⟩) _ ?_))
        rw [(hz2 i hi).2]
        simp [DataW.weights])
      rw [show ss[i].size = ss[i].data.toList.length from (Array.length_toList).symm]
      exact h
/-- What is known of a screen that is handed in. -/
structure ScO (W : World) (s : ScD) (A : Option Addr) (n c : Nat) (L : Option Addr) (m cm : Nat) : Prop where
  hn : s.cells.length = n
  rd : RdC W A s.cells
  nc : n ≤ c
  cml : c ≤ maxLen
  nl : n ≤ 7036874417561
  hm : s.links.length = m
  rt : RdT W L s.links
  mc : m ≤ cm
  dm : cm ≤ maxLen
  ml : m ≤ 8796093022000
  us : ∀ u ∈ s.links, u.size ≤ 140737488351232
  ce : ∀ d ∈ s.cells, CeOk d
  tl : s.title.size ≤ 140737488351232
  b0 : -9223372036854775808 ≤ s.cols ∧ s.cols ≤ 9223372036854775807
  b1 : -9223372036854775808 ≤ s.rows ∧ s.rows ≤ 9223372036854775807
  b3 : -9223372036854775808 ≤ s.x ∧ s.x ≤ 9223372036854775807
  b4 : -9223372036854775808 ≤ s.y ∧ s.y ≤ 9223372036854775807
  b6 : 0 ≤ s.mouse ∧ s.mouse ≤ 255
theorem open_scr {H : Type} {enc : TypeId × Value → H} {P : Program} {W : World} {t et st pt fuel : Nat} {f0 f1 f2 f3 f4 f5 f6 f7 f8 c0 c1 c2 g0 g1 g2 g3 : Field} (T : ScT P t f0 f1 f2 f3 f4 f5 f6 f7 f8 et st c0 c1 c2 pt g0 g1 g2 g3) {cs : List Value} {x : DataW H × List MemPlace}
    (hf : DataW.trod enc P W 0 (fun _ => true) true fuel t cs = some x) (hw : ∀ n ∈ x.1.weights P t, n ≤ reachBytes) :
    ∃ (s : ScD) (A : Option Addr) (n c : Nat) (L : Option Addr) (m cm : Nat), cs = (scC s A n c L m cm).toList ∧ ScO W s A n c L m cm := by
  obtain ⟨ys, n', _, rfl, hl9, hlen', hgs⟩ := DataW.trod_struct T.hs hf
  rw [T.hC] at hl9
  have hk := Deep.hone_of T.hone
  match cs, hl9, ys, hlen' with
  | [u0, u1, u2, u3, u4, u5, u6, u7, u8], _, [y0, y1, y2, y3, y4, y5, y6, y7, y8], _ =>
    have q0 := hgs 0 f0 rfl
    have q1 := hgs 1 f1 rfl
    have q2 := hgs 2 f2 rfl
    have q3 := hgs 3 f3 rfl
    have q4 := hgs 4 f4 rfl
    have q5 := hgs 5 f5 rfl
    have q6 := hgs 6 f6 rfl
    have q7 := hgs 7 f7 rfl
    have q8 := hgs 8 f8 rfl
    rw [(hk 0 f0 rfl).1, (hk 0 f0 rfl).2] at q0
    rw [(hk 1 f1 rfl).1, (hk 1 f1 rfl).2] at q1
    rw [(hk 2 f2 rfl).1, (hk 2 f2 rfl).2] at q2
    rw [(hk 3 f3 rfl).1, (hk 3 f3 rfl).2] at q3
    rw [(hk 4 f4 rfl).1, (hk 4 f4 rfl).2] at q4
    rw [(hk 5 f5 rfl).1, (hk 5 f5 rfl).2] at q5
    rw [(hk 6 f6 rfl).1, (hk 6 f6 rfl).2] at q6
    rw [(hk 7 f7 rfl).1, (hk 7 f7 rfl).2] at q7
    rw [(hk 8 f8 rfl).1, (hk 8 f8 rfl).2] at q8
    have hwe : ∀ (j : Nat) (f : Field) (y : DataW H × List MemPlace), (#[f0, f1, f2, f3, f4, f5, f6, f7, f8] : Array Field)[j]? = some f → ([y0, y1, y2, y3, y4, y5, y6, y7, y8] : List (DataW H × List MemPlace))[j]? = some y → ∀ n ∈ y.1.weights P f.type, n ≤ reachBytes := by
      intro j f y hj hy' n hn
      refine hw n ?_
      simp only [DataW.weights, T.hs]
      refine DataW.weights_mem_each (j := j) (t := f.type) (d := y.1) ?_ ?_ n hn
      · rw [List.getElem?_map]
        have : ([f0, f1, f2, f3, f4, f5, f6, f7, f8] : List Field)[j]? = some f := by simpa using hj
        show Option.map _ (([f0, f1, f2, f3, f4, f5, f6, f7, f8] : List Field)[j]?) = _
        rw [this]; rfl
      · rw [List.getElem?_map, hy']; rfl
    obtain ⟨a0, e0, _, w0⟩ := DataW.trod_int T.h0 q0
    obtain ⟨a1, e1, _, w1⟩ := DataW.trod_int T.h1 q1
    obtain ⟨a3, e3, _, w3⟩ := DataW.trod_int T.h3 q3
    obtain ⟨a4, e4, _, w4⟩ := DataW.trod_int T.h4 q4
    obtain ⟨a5, e5, _⟩ := DataW.trod_bool T.h5 q5
    obtain ⟨a6, e6, _, w6⟩ := DataW.trod_int T.h6 q6
    obtain ⟨a7, e7, y7', w7⟩ := DataW.trod_string T.h7 q7
    obtain ⟨A, n, c, ds, e2, r1, r2, r3, r4, r5, r6⟩ := open_cells T.h2 T.hB T.T (show DataW.trod enc P W 0 (fun _ => true) true n' f2.type [u2] = some y2 from q2)
    obtain ⟨L, m, cm, ss, e8, s1, s2, s3, s4, s5⟩ := open_strs T.h8 T.hst T.cst T.bst (show DataW.trod enc P W 0 (fun _ => true) true n' f8.type [u8] = some y8 from q8)
    have r6' := r6 (fun k hk => hwe 2 f2 y2 rfl rfl k hk)
    obtain ⟨s6, s7⟩ := s5 (fun k hk => hwe 8 f8 y8 rfl rfl k hk)
    have t7 : a7.size ≤ reachBytes := by
      have := hwe 7 f7 y7 rfl rfl a7.data.toList.length (by rw [y7']; simp [DataW.weights])
      rw [show a7.size = a7.data.toList.length from (Array.length_toList).symm]
      exact this
    simp at e0 e1 e3 e4 e5 e6 e7
    subst e0 e1 e2 e3 e4 e5 e6 e7 e8
    refine ⟨⟨a0, a1, ds, a3, a4, a5, a6, a7, ss⟩, A, n, c, L, m, cm, rfl, r1, r2, r3, r4, ?_, s1, s2, s3, s4, ?_, s7, r5, t7, wf_i64 w0, wf_i64 w1, wf_i64 w3, wf_i64 w4, wf_u8 w6⟩
    · simp only [reachBytes] at r6'; omega
    · simp only [reachBytes] at s6; omega
theorem opn_scr {H : Type} {enc : TypeId × Value → H} {P : Program} {W : World} {base t et st pt j : Nat} {f0 f1 f2 f3 f4 f5 f6 f7 f8 c0 c1 c2 g0 g1 g2 g3 : Field} (T : ScT P t f0 f1 f2 f3 f4 f5 f6 f7 f8 et st c0 c1 c2 pt g0 g1 g2 g3) {v : Value} {d : DataW H} {p : List MemPlace} {ts : List TypeId} {ds : List (DataW H)}
    (hv : Value.okWide P W .any base t v) (hj : DataW.Trod enc P W 0 (fun _ => true) true t v d p) (hsz : (DataW.weightsEach P ts ds).all (· ≤ reachBytes) = true) (k1 : ts[j]? = some t) (k2 : ds[j]? = some d) :
    ∃ (s : ScD) (A : Option Addr) (n c : Nat) (L : Option Addr) (m cm : Nat), v = .agg (scC s A n c L m cm) ∧ ScO W s A n c L m cm := by
  obtain ⟨cs, rfl, hsz2⟩ := okWide_struct T.hs hv
  obtain ⟨fuel, hf⟩ := hj
  obtain ⟨s, A, n, c, L, m, cm, hcs, r⟩ := open_scr T hf (fun n hn => of_decide_eq_true (List.all_eq_true.1 hsz n (DataW.weights_mem_each k1 k2 n hn)))
  refine ⟨s, A, n, c, L, m, cm, ?_, r⟩
  congr 1
  apply Array.ext'
  simpa [Value.cells] using hcs
/-- One that isn't great can be gone through. -/
theorem ScO.small {W : World} {s : ScD} {A : Option Addr} {n c : Nat} {L : Option Addr} {m cm : Nat} (h : ScO W s A n c L m cm) (h1 : n ≤ 60000) (h2 : m ≤ 60000) (h3 : s.title.size ≤ 1000000) : ScR W s A n c L m cm :=
  ⟨h.hn, h.rd, h.nc, h1, h.hm, h.rt, h.mc, h2, fun u hu => Nat.le_trans (h.us u hu) (by decide), fun d hd => by have := h.ce d hd; exact ⟨this.2.2.2.2.2.1, by have := this.2.2.2.2.2.2; omega⟩, h3⟩
end Go.Proofs.YtnnekdefncfeeaaDoor

