/- Parts one behind the other: The walk of ProjectPlain: what every terminal can show is shown as it is. Conditions: as told at each. -/
import Derived.Test.YtipofokinjkclaaDoorPB21

set_option linter.unusedVariables false
set_option linter.unusedSimpArgs false
/- The walk of ProjectPlain: what every terminal can show is shown as it is. Conditions: the tables lie where they were laid. -/
namespace Go.Proofs.YtipofokinjkclaaDoor
open Go Go.RowKit Go.Lib

theorem PJ_plain (f : Nat) {s : ScD} (h : rightS s = true) (hl : s.links = []) (ht : s.title = ⟨#[]⟩) (hm : s.mouse = 0) (hc : ∀ d ∈ s.cells, d.w = 0 ∧ d.fg ≤ 16 ∧ d.bg ≤ 16) (h0 : ∀ d ∈ s.cells, 0 ≤ d.ln) : PJ f s = s := projS_plain _ _ _ _ _ _ h hl ht hm hc h0
/-- Cells that every terminal can show. -/
def plainD (d : CeD) : Prop := d.w = 0 ∧ d.fg ≤ 16 ∧ d.bg ≤ 16
set_option maxRecDepth 100000 in
set_option maxHeartbeats 16000000 in
theorem ProjectPlain_walk (w : World) (s : ScD) (A : Option Addr) (n c : Nat) (L : Option Addr) (m cm : Nat) (hs : ScO w s A n c L m cm) (ft : Int) (wf : (Lit.int .u32 ft).wf = true) (hU : TabU w) (hC : TabC w) :
    Calls Tryd.prog 8 #[.agg (scC s A n c L m cm), .int .u32 ft] w fun r w' => r = .returned (.bool true) ∧ Below w.heap.size w w' := by
  obtain ⟨f, rfl, hf⟩ := nat32 wf
  clear wf
  obtain ⟨X, eX⟩ : ∃ X, X = scC s A n c L m cm := ⟨_, rfl⟩
  rw [← eX]
  obtain ⟨W0, eW0⟩ : ∃ W0, W0 = w.alloc (.cells X 25) := ⟨_, rfl⟩
  obtain ⟨p, ep⟩ : ∃ p, p = w.heap.size := ⟨_, rfl⟩
  have hb0 : Below w.heap.size w W0 := by rw [eW0]; exact (Below.refl _ _).alloc (Nat.le_refl _) _
  have HP0 : Hid (ScB W0 p s A n c L m cm) := Lib.hid (by rw [eW0, ep, eX]; exact heap_alloc_new _ _)
  have EW0 := Lib.hid eW0
  have EP := Lib.hid ep
  have HB0 := Lib.hid hb0
  have HF := Lib.hid hf
  have HS := Lib.hid hs
  have HU := Lib.hid hU
  have HC := Lib.hid hC
  clear eX eW0 ep hb0 hf hs hU hC
  obtain ⟨GB, eGB⟩ : ∃ b, greatB n s.title.size m = b := ⟨_, rfl⟩
  have HGB := Lib.hid eGB
  clear eGB
  obtain ⟨RG, eRG⟩ : ∃ b, rightS s = b := ⟨_, rfl⟩
  have HRG := Lib.hid eRG
  clear eRG
  go_enter Tryd.func8, Tryd.ntmps8
  go_upto_region 1 with (fail)
  rw [← EW0.out, ← EP.out]
  cases GB
  rotate_left
  · go_wp2_with (first
      | (refine wpList_load_row rfl 25 (.tmp 2) rfl p rfl 25 _ (0, 0) _ HP0.out Tryd.underlying25 rfl (info_sc.trans rfl) ?_)
      | (go_at_call 28; (refine (great15_c s A n c L m cm W0).mono ?_); rintro _ w1 ⟨rfl, hb1⟩; rw [HGB.out]; have HB1 := Lib.hid (HB0.out.trans (hb1.mono HB0.out.size)); have HP1 := Lib.hid (HP0.out.below hb1); clear hb1)
      | (go_at_call 29; (refine (fixed15_c w1 (HU.out.next HB1.out) (HC.out.next HB1.out)).mono ?_); rintro _ w9 ⟨rfl, hb9⟩; have HB9 := Lib.hid (HB1.out.trans (hb9.mono HB1.out.size)); clear hb9))
    go_ret
    exact ⟨rfl, HB9.out⟩
  · have HSM := Lib.hid (greatB_no HGB.out)
    have HSO : Hid (Sound s) := Lib.hid (HS.out.sound (by have := HSM.out; omega) (by have := HSM.out; omega) (by have := HSM.out; omega))
    have HRS : Hid (ScR w s A n c L m cm) := Lib.hid (HS.out.small (by have := HSM.out; omega) (by have := HSM.out; omega) (by have := HSM.out; omega))
    cases RG
    · go_wp2_with (first
        | (refine wpList_load_row rfl 25 (.tmp 2) rfl p rfl 25 _ (0, 0) _ HP0.out Tryd.underlying25 rfl (info_sc.trans rfl) ?_)
        | ((with_reducible refine wpList_openG (o := ⟨some 10, _, _, _, _, _⟩) rfl ?_); (refine wpList_load_row rfl 25 (.tmp 2) rfl p rfl 25 _ (0, 0) _ HP1.out Tryd.underlying25 rfl (info_sc.trans rfl) ?_))
        | (go_at_call 28; (refine (great15_c s A n c L m cm W0).mono ?_); rintro _ w1 ⟨rfl, hb1⟩; rw [HGB.out]; have HB1 := Lib.hid (HB0.out.trans (hb1.mono HB0.out.size)); have HP1 := Lib.hid (HP0.out.below hb1); clear hb1)
        | (go_at_call 32; (refine (refRight_c s A n c L m cm w1 (HRS.out.below HB1.out) (HU.out.next HB1.out)).mono ?_); rintro _ w2 ⟨rfl, hb2⟩; rw [HRG.out]; have HB2 := Lib.hid (HB1.out.trans (hb2.mono HB1.out.size)); have HP2 := Lib.hid (HP1.out.below hb2); have x2 : w2.cell? ⟨p, 2, none⟩ = some (.slice A n c) := HP2.out.nine.2.2.1; have x6 : w2.cell? ⟨p, 6, none⟩ = some (.int .u8 s.mouse) := HP2.out.nine.2.2.2.2.2.2.1; have x7 : w2.cell? ⟨p, 7, none⟩ = some (.string s.title) := HP2.out.nine.2.2.2.2.2.2.2.1; have x8 : w2.cell? ⟨p, 8, none⟩ = some (.slice L m cm) := HP2.out.nine.2.2.2.2.2.2.2.2; clear hb2)
        | (go_at_call 29; (refine (fixed15_c w2 (HU.out.next HB2.out) (HC.out.next HB2.out)).mono ?_); rintro _ w9 ⟨rfl, hb9⟩; have HB9 := Lib.hid (HB2.out.trans (hb9.mono HB2.out.size)); clear hb9))
      go_ret
      exact ⟨rfl, HB9.out⟩
    obtain ⟨LB, eLB⟩ : ∃ b, decide (0 < (m : Int)) = b := ⟨_, rfl⟩
    have ELB := Lib.hid eLB
    cases LB
    rotate_left
    · have eL0 : 0 < m := by have := of_decide_eq_true eLB; omega
      go_wp2_with (first
        | (refine wpList_load_row rfl 25 (.tmp 2) rfl p rfl 25 _ (0, 0) _ HP0.out Tryd.underlying25 rfl (info_sc.trans rfl) ?_)
        | ((with_reducible refine wpList_openG (o := ⟨some 10, _, _, _, _, _⟩) rfl ?_); (refine wpList_load_row rfl 25 (.tmp 2) rfl p rfl 25 _ (0, 0) _ HP1.out Tryd.underlying25 rfl (info_sc.trans rfl) ?_))
        | (go_at_call 28; (refine (great15_c s A n c L m cm W0).mono ?_); rintro _ w1 ⟨rfl, hb1⟩; rw [HGB.out]; have HB1 := Lib.hid (HB0.out.trans (hb1.mono HB0.out.size)); have HP1 := Lib.hid (HP0.out.below hb1); clear hb1)
        | (go_at_call 32; (refine (refRight_c s A n c L m cm w1 (HRS.out.below HB1.out) (HU.out.next HB1.out)).mono ?_); rintro _ w2 ⟨rfl, hb2⟩; rw [HRG.out]; have HB2 := Lib.hid (HB1.out.trans (hb2.mono HB1.out.size)); have HP2 := Lib.hid (HP1.out.below hb2); have x2 : w2.cell? ⟨p, 2, none⟩ = some (.slice A n c) := HP2.out.nine.2.2.1; have x6 : w2.cell? ⟨p, 6, none⟩ = some (.int .u8 s.mouse) := HP2.out.nine.2.2.2.2.2.2.1; have x7 : w2.cell? ⟨p, 7, none⟩ = some (.string s.title) := HP2.out.nine.2.2.2.2.2.2.2.1; have x8 : w2.cell? ⟨p, 8, none⟩ = some (.slice L m cm) := HP2.out.nine.2.2.2.2.2.2.2.2; clear hb2)
        | (go_at_call 29; (refine (fixed15_c w2 (HU.out.next HB2.out) (HC.out.next HB2.out)).mono ?_); rintro _ w9 ⟨rfl, hb9⟩; have HB9 := Lib.hid (HB2.out.trans (hb9.mono HB2.out.size)); clear hb9))
      go_ret
      exact ⟨rfl, HB9.out⟩
    have hm0 : m = 0 := by have := of_decide_eq_false eLB; omega
    have eLN : decide (0 < m) = false := by rw [hm0]; rfl
    have HM0 := Lib.hid hm0
    clear hm0
    obtain ⟨TB, eTB⟩ : ∃ b, (s.title.toList == []) = b := ⟨_, rfl⟩
    have eTN : (s.title.toList != []) = !TB := by rw [bne, eTB]
    have ETB := Lib.hid eTB
    cases TB
    · go_wp2_with (first
        | (refine wpList_load_row rfl 25 (.tmp 2) rfl p rfl 25 _ (0, 0) _ HP0.out Tryd.underlying25 rfl (info_sc.trans rfl) ?_)
        | ((with_reducible refine wpList_openG (o := ⟨some 10, _, _, _, _, _⟩) rfl ?_); (refine wpList_load_row rfl 25 (.tmp 2) rfl p rfl 25 _ (0, 0) _ HP1.out Tryd.underlying25 rfl (info_sc.trans rfl) ?_))
        | (go_at_call 28; (refine (great15_c s A n c L m cm W0).mono ?_); rintro _ w1 ⟨rfl, hb1⟩; rw [HGB.out]; have HB1 := Lib.hid (HB0.out.trans (hb1.mono HB0.out.size)); have HP1 := Lib.hid (HP0.out.below hb1); clear hb1)
        | (go_at_call 32; (refine (refRight_c s A n c L m cm w1 (HRS.out.below HB1.out) (HU.out.next HB1.out)).mono ?_); rintro _ w2 ⟨rfl, hb2⟩; rw [HRG.out]; have HB2 := Lib.hid (HB1.out.trans (hb2.mono HB1.out.size)); have HP2 := Lib.hid (HP1.out.below hb2); have x2 : w2.cell? ⟨p, 2, none⟩ = some (.slice A n c) := HP2.out.nine.2.2.1; have x6 : w2.cell? ⟨p, 6, none⟩ = some (.int .u8 s.mouse) := HP2.out.nine.2.2.2.2.2.2.1; have x7 : w2.cell? ⟨p, 7, none⟩ = some (.string s.title) := HP2.out.nine.2.2.2.2.2.2.2.1; have x8 : w2.cell? ⟨p, 8, none⟩ = some (.slice L m cm) := HP2.out.nine.2.2.2.2.2.2.2.2; clear hb2)
        | (go_at_call 29; (refine (fixed15_c w2 (HU.out.next HB2.out) (HC.out.next HB2.out)).mono ?_); rintro _ w9 ⟨rfl, hb9⟩; have HB9 := Lib.hid (HB2.out.trans (hb9.mono HB2.out.size)); clear hb9))
      go_ret
      exact ⟨rfl, HB9.out⟩
    obtain ⟨MB, eMB⟩ : ∃ b, (s.mouse == 0) = b := ⟨_, rfl⟩
    have eMN : (s.mouse != 0) = !MB := by rw [bne, eMB]
    have EMB := Lib.hid eMB
    cases MB
    · go_wp2_with (first
        | (refine wpList_load_row rfl 25 (.tmp 2) rfl p rfl 25 _ (0, 0) _ HP0.out Tryd.underlying25 rfl (info_sc.trans rfl) ?_)
        | ((with_reducible refine wpList_openG (o := ⟨some 10, _, _, _, _, _⟩) rfl ?_); (refine wpList_load_row rfl 25 (.tmp 2) rfl p rfl 25 _ (0, 0) _ HP1.out Tryd.underlying25 rfl (info_sc.trans rfl) ?_))
        | (go_at_call 28; (refine (great15_c s A n c L m cm W0).mono ?_); rintro _ w1 ⟨rfl, hb1⟩; rw [HGB.out]; have HB1 := Lib.hid (HB0.out.trans (hb1.mono HB0.out.size)); have HP1 := Lib.hid (HP0.out.below hb1); clear hb1)
        | (go_at_call 32; (refine (refRight_c s A n c L m cm w1 (HRS.out.below HB1.out) (HU.out.next HB1.out)).mono ?_); rintro _ w2 ⟨rfl, hb2⟩; rw [HRG.out]; have HB2 := Lib.hid (HB1.out.trans (hb2.mono HB1.out.size)); have HP2 := Lib.hid (HP1.out.below hb2); have x2 : w2.cell? ⟨p, 2, none⟩ = some (.slice A n c) := HP2.out.nine.2.2.1; have x6 : w2.cell? ⟨p, 6, none⟩ = some (.int .u8 s.mouse) := HP2.out.nine.2.2.2.2.2.2.1; have x7 : w2.cell? ⟨p, 7, none⟩ = some (.string s.title) := HP2.out.nine.2.2.2.2.2.2.2.1; have x8 : w2.cell? ⟨p, 8, none⟩ = some (.slice L m cm) := HP2.out.nine.2.2.2.2.2.2.2.2; clear hb2)
        | (go_at_call 29; (refine (fixed15_c w2 (HU.out.next HB2.out) (HC.out.next HB2.out)).mono ?_); rintro _ w9 ⟨rfl, hb9⟩; have HB9 := Lib.hid (HB2.out.trans (hb9.mono HB2.out.size)); clear hb9))
      go_ret
      exact ⟨rfl, HB9.out⟩
    have HTE : Hid (s.title = ⟨#[]⟩) := Lib.hid (by
      have h := beq_iff_eq.1 ETB.out
      rw [ByteArray.toList_eq] at h
      cases ht : s.title with
      | mk dat => rw [ht] at h; congr 1; exact Array.toList_eq_nil_iff.1 h)
    have HME : Hid (s.mouse = 0) := Lib.hid (beq_iff_eq.1 EMB.out)
    have HLE : Hid (s.links = []) := Lib.hid (List.eq_nil_of_length_eq_zero (by rw [HRS.out.hm]; exact HM0.out))
    go_upto_region 3 with (first
      | (refine wpList_load_row rfl 25 (.tmp 2) rfl p rfl 25 _ (0, 0) _ HP0.out Tryd.underlying25 rfl (info_sc.trans rfl) ?_)
      | ((with_reducible refine wpList_openG (o := ⟨some 10, _, _, _, _, _⟩) rfl ?_); (refine wpList_load_row rfl 25 (.tmp 2) rfl p rfl 25 _ (0, 0) _ HP1.out Tryd.underlying25 rfl (info_sc.trans rfl) ?_))
      | (go_at_call 28; (refine (great15_c s A n c L m cm W0).mono ?_); rintro _ w1 ⟨rfl, hb1⟩; rw [HGB.out]; have HB1 := Lib.hid (HB0.out.trans (hb1.mono HB0.out.size)); have HP1 := Lib.hid (HP0.out.below hb1); clear hb1)
      | (go_at_call 32; (refine (refRight_c s A n c L m cm w1 (HRS.out.below HB1.out) (HU.out.next HB1.out)).mono ?_); rintro _ w2 ⟨rfl, hb2⟩; rw [HRG.out]; have HB2 := Lib.hid (HB1.out.trans (hb2.mono HB1.out.size)); have HP2 := Lib.hid (HP1.out.below hb2); have x2 : w2.cell? ⟨p, 2, none⟩ = some (.slice A n c) := HP2.out.nine.2.2.1; have x6 : w2.cell? ⟨p, 6, none⟩ = some (.int .u8 s.mouse) := HP2.out.nine.2.2.2.2.2.2.1; have x7 : w2.cell? ⟨p, 7, none⟩ = some (.string s.title) := HP2.out.nine.2.2.2.2.2.2.2.1; have x8 : w2.cell? ⟨p, 8, none⟩ = some (.slice L m cm) := HP2.out.nine.2.2.2.2.2.2.2.2; clear hb2))
    clear x6 x7 x8 eLB eLN eTB eTN eMB eMN
    go_wp2_with (fail)
    clear x2
    have hRd : RdC w A s.cells := HRS.out.rd
    have HRD := Lib.hid hRd
    have HNL : Hid (s.cells.length = n ∧ n ≤ 60000) := Lib.hid ⟨HRS.out.hn, HRS.out.nl⟩
    clear hRd
    go_loopw [34] (fun i wr => ∃ k : Nat, k ≤ n ∧ i = .int .i64 k ∧ Hid (∀ j (h : j < s.cells.length), j < k → plainD s.cells[j]) ∧ Hid (ScB wr p s A n c L m cm) ∧ Hid (Below w.heap.size w wr)) (fun i _ => n - (intOf i).toNat)
    case atStart => exact ⟨0, Nat.zero_le _, rfl, Lib.hid (fun j h hj => absurd hj (Nat.not_lt_zero j)), HP2, HB2⟩
    case round =>
      obtain ⟨k, hk, rfl, HPL, HP, HB⟩ := hrel
      have hn6 : n ≤ 60000 := HNL.out.2
      rcases Nat.lt_or_ge k n with hlt | hge
      · have hlt' : (k : Int) < (n : Int) := by omega
        have hkl : k < s.cells.length := by rw [HNL.out.1]; exact hlt
        have hrw := Rd.below HRD.out HB.out
        obtain ⟨b, off, rfl, hbl, hcd⟩ := RdC.cellsAt hrw k hkl
        obtain ⟨d, ed⟩ : ∃ d, d = s.cells[k] := ⟨_, rfl⟩
        rw [← ed] at hcd
        have HCD := Lib.hid hcd
        have HED : Hid (∀ h : k < s.cells.length, s.cells[k] = d) := Lib.hid (fun _ => ed.symm)
        clear hrw hcd ed hkl
        go_upto_region 6 with (first
          | (refine wpList_load_cells rfl 47 (.tmp 36) rfl ⟨b, off + k * 6, none⟩ rfl d.cells (.agg d.arr) rfl _ (cells_load HCD.out) Tryd.underlying47 rfl (info_cell.trans rfl) ?_)
          | (refine wpList_store_rowTo rfl 47 (.tmp 6) (.tmp 37) rfl rfl wr.heap.size d.arr rfl rfl 47 _ (heap_alloc_new wr _) (info_cell.trans rfl) rfl (CeD.one _) ?_))
        generalize eX5 : World.alloc wr _ = X5
        have hx5 : Below wr.heap.size wr X5 := by rw [← eX5]; exact (Below.refl _ _).alloc (Nat.le_refl _) _
        obtain ⟨old, hq5⟩ : ∃ old, X5.heap[wr.heap.size]? = some (.cells old 47 (0, 0)) := ⟨_, by rw [← eX5]; exact heap_alloc_new _ _⟩
        obtain ⟨e, ee⟩ : ∃ e, e = wr.heap.size := ⟨_, rfl⟩
        obtain ⟨W5, eW5⟩ : ∃ W5, W5 = X5.setRow wr.heap.size d.arr := ⟨_, rfl⟩
        rw [← eW5, ← ee]
        have he5 : W5.heap[e]? = some (.cells d.arr 47 (0, 0)) := by rw [eW5, ee]; exact setRow_heap _ _ _ _ _ _ hq5
        have hb5 : Below wr.heap.size wr W5 := by rw [eW5]; exact below_setRow hx5 (Nat.le_refl _) _
        have v1 : W5.cell? ⟨e, 1, none⟩ = some (.int .u8 d.w) := heap_cell he5 1
        have v2 : W5.cell? ⟨e, 2, none⟩ = some (.int .u32 d.fg) := heap_cell he5 2
        have v3 : W5.cell? ⟨e, 3, none⟩ = some (.int .u32 d.bg) := heap_cell he5 3
        have HB5 := Lib.hid (HB.out.trans (hb5.mono HB.out.size))
        have HP5 := Lib.hid (HP.out.below hb5)
        clear eX5 hx5 hq5 ee eW5 he5 hb5
        obtain ⟨b1, e1⟩ : ∃ b, (d.w == 0) = b := ⟨_, rfl⟩
        have e1n : (d.w != 0) = !b1 := by rw [bne, e1]
        obtain ⟨b2, e2⟩ : ∃ b, decide (16 < d.fg) = b := ⟨_, rfl⟩
        obtain ⟨b3, e3⟩ : ∃ b, decide (16 < d.bg) = b := ⟨_, rfl⟩
        have HQ : Hid (b1 = true → b2 = false → b3 = false → plainD d) := Lib.hid (fun h1 h2 h3 => ⟨beq_iff_eq.1 (e1.trans h1), by have := of_decide_eq_false (e2.trans h2); omega, by have := of_decide_eq_false (e3.trans h3); omega⟩)
        cases b1
        · go_wp2_with ((go_at_call 29; (refine (fixed15_c W5 (HU.out.next HB5.out) (HC.out.next HB5.out)).mono ?_); rintro _ w9 ⟨rfl, hb9⟩; have HB9 := Lib.hid (HB5.out.trans (hb9.mono HB5.out.size)); clear hb9))
          go_ret
          exact ⟨rfl, HB9.out⟩
        cases b2
        rotate_left
        · go_wp2_with ((go_at_call 29; (refine (fixed15_c W5 (HU.out.next HB5.out) (HC.out.next HB5.out)).mono ?_); rintro _ w9 ⟨rfl, hb9⟩; have HB9 := Lib.hid (HB5.out.trans (hb9.mono HB5.out.size)); clear hb9))
          go_ret
          exact ⟨rfl, HB9.out⟩
        cases b3
        rotate_left
        · go_wp2_with ((go_at_call 29; (refine (fixed15_c W5 (HU.out.next HB5.out) (HC.out.next HB5.out)).mono ?_); rintro _ w9 ⟨rfl, hb9⟩; have HB9 := Lib.hid (HB5.out.trans (hb9.mono HB5.out.size)); clear hb9))
          go_ret
          exact ⟨rfl, HB9.out⟩
        have HPD := Lib.hid (HQ.out rfl rfl rfl)
        clear HQ
        go_wp2_with (fail)
        go_roundw
        case rel => exact ⟨k + 1, by omega, by go_num, Lib.hid (fun j h hj => by
          rcases Nat.lt_or_ge j k with h1 | h1
          · exact HPL.out j h h1
          · obtain rfl : j = k := by omega
            rw [HED.out h]; exact HPD.out), HP5, HB5⟩
        case measure => simp [intOf]; omega
      · obtain rfl : n = k := by omega
        have hge' : ¬ ((n : Int) < (n : Int)) := by omega
        have EPL : Hid (PJ f s = s) := Lib.hid (PJ_plain f HRG.out HLE.out HTE.out HME.out (fun d hd => by
          obtain ⟨j, hj, rfl⟩ := List.mem_iff_getElem.1 hd
          exact HPL.out j hj (by rw [← HNL.out.1]; exact hj)) (fun d hd => (HSO.out.ok d hd).1))
        have HR6 := Lib.hid (HRS.out.below HB.out)
        clear hge hk
        go_upto_region 9 with (fail)
        refine wp_region_rw 63 [Rl.eq (.bool true), Rl.eq (.bool true), Rl.eq (.agg (scC s A n c L m cm)), Rl.eq (.int .u32 (f : Int)), Rl.scr wr.heap.size s, Rl.eq (.agg (scC s A n c L m cm)), Rl.eq (.bool true), Rl.eq (.bool true), Rl.eq (.bool true)] [55, 56, 57, 58, 59, 60, 61, 62, 4] (by kernel_rfl) rfl (by kernel_rfl) (by kernel_rfl) ?_ ?_
        · repeat (first | exact AllFrom.nil_ | (refine AllFrom.cons_ (by rfl) ?_ ?_; rotate_left))
          · intro f_ w' g_ hF hD
            rw [if_pos (wanted_none rfl)]
            clear hF hD
            have kg : Below wr.heap.size wr w' := (below_drewN (Below.refl _ _) 1).trans g_
            have kw := HB.out.trans (kg.mono HB.out.size)
            refine gives_func rfl Tryd.func29 (by kernel_rfl) rfl (args := #[]) (by simp) ((fixed15_c w' (HU.out.next kw) (HC.out.next kw)).mono ?_)
            rintro e w'' ⟨rfl, hb⟩
            exact ⟨_, rfl, hb, rfl⟩
          · intro f_ w' g_ hF hD
            have h55 : f_ 55 = (.bool true) := hD 0 55 (by kernel_rfl) rfl
            rw [if_pos (wanted_none rfl)]
            clear hF hD
            exact gives_val (by simp only [execOp, evF, h55]; first | rfl | go_simp) ⟨Gr.refl _, rfl⟩
          · intro f_ w' g_ hF hD
            have h2 : f_ 2 = .pointer (some ⟨p, 0, none⟩) := hF 2 (by kernel_rfl)
            rw [if_pos (wanted_some (d := 56) rfl rfl (hD 1 56 (by kernel_rfl) rfl))]
            clear hF hD
            have kg : Below wr.heap.size wr w' := (below_drewN (Below.refl _ _) 1).trans g_
            exact gives_load_row 25 (.tmp 2) rfl p (by simp only [evF, h2]) 25 (scC s A n c L m cm) (0, 0) _ (HP.out.below kg) Tryd.underlying25 rfl (info_sc.trans rfl) ⟨Gr.refl _, rfl⟩
          · intro f_ w' g_ hF hD
            have h1 : f_ 1 = .int .u32 (f : Int) := hF 1 (by kernel_rfl)
            rw [if_pos (wanted_some (d := 56) rfl rfl (hD 1 56 (by kernel_rfl) rfl))]
            clear hF hD
            exact gives_val (by simp only [execOp, evF, h1]; first | rfl | go_simp) ⟨Gr.refl _, rfl⟩
          · intro f_ w' g_ hF hD
            have h57 : f_ 57 = (.agg (scC s A n c L m cm)) := hD 2 57 (by kernel_rfl) rfl
            have h58 : f_ 58 = (.int .u32 (f : Int)) := hD 3 58 (by kernel_rfl) rfl
            rw [if_pos (wanted_some (d := 56) rfl rfl (hD 1 56 (by kernel_rfl) rfl))]
            clear hF hD
            have kg : Below wr.heap.size wr w' := (below_drewN (Below.refl _ _) 1).trans g_
            have kw := HB.out.trans (kg.mono HB.out.size)
            refine gives_func rfl Tryd.func30 (by kernel_rfl) rfl (by simp only [List.map_toArray, List.map_cons, List.map_nil, evF, h57, h58]) ((pj_c s A n c L m cm f w' HSO.out (HR6.out.below kg) HF.out (HU.out.next kw) (HC.out.next kw)).mono ?_)
            rintro e w'' ⟨v, rfl, hv, hb⟩
            rw [EPL.out] at hv
            obtain ⟨A', n', c', L', m', d', e1, h1, h2, h3⟩ := hv
            exact ⟨_, rfl, hb, A', n', c', L', m', d', e1, OwnC.low h1 kg.size, Own.low h2 kg.size, h3⟩
          · intro f_ w' g_ hF hD
            have h2 : f_ 2 = .pointer (some ⟨p, 0, none⟩) := hF 2 (by kernel_rfl)
            rw [if_pos (wanted_some (d := 56) rfl rfl (hD 1 56 (by kernel_rfl) rfl))]
            clear hF hD
            have kg : Below wr.heap.size wr w' := (below_drewN (Below.refl _ _) 1).trans g_
            exact gives_load_row 25 (.tmp 2) rfl p (by simp only [evF, h2]) 25 (scC s A n c L m cm) (0, 0) _ (HP.out.below kg) Tryd.underlying25 rfl (info_sc.trans rfl) ⟨Gr.refl _, rfl⟩
          · intro f_ w' g_ hF hD
            have q59 := hD 4 59 (by kernel_rfl) rfl
            have h60 : f_ 60 = (.agg (scC s A n c L m cm)) := hD 5 60 (by kernel_rfl) rfl
            rw [if_pos (wanted_some (d := 56) rfl rfl (hD 1 56 (by kernel_rfl) rfl))]
            clear hF hD
            have kg : Below wr.heap.size wr w' := (below_drewN (Below.refl _ _) 1).trans g_
            obtain ⟨A', n', c', L', m', d', e1, h1, h2, h3⟩ := q59
            refine gives_func rfl Tryd.func27 (by kernel_rfl) rfl (by simp only [List.map_toArray, List.map_cons, List.map_nil, evF, h60, e1]) ((same_c s s A' n' c' L' m' d' A n c L m cm w' (HSO.out.read h1 h2) (HR6.out.below kg)).mono ?_)
            rintro e w'' ⟨rfl, hb⟩
            rw [sameS_self]
            exact ⟨_, rfl, hb, rfl⟩
          · intro f_ w' g_ hF hD
            have h56 : f_ 56 = (.bool true) := hD 1 56 (by kernel_rfl) rfl
            have h61 : f_ 61 = (.bool true) := hD 6 61 (by kernel_rfl) rfl
            rw [if_pos (wanted_none rfl)]
            clear hF hD
            exact gives_val (by simp only [execOp, evF, h56, h61]; first | rfl | go_simp) ⟨Gr.refl _, rfl⟩
          · intro f_ w' g_ hF hD
            have h62 : f_ 62 = (.bool true) := hD 7 62 (by kernel_rfl) rfl
            rw [if_pos (wanted_none rfl)]
            clear hF hD
            exact gives_val (by simp only [execOp, evF, h62]; first | rfl | go_simp) ⟨Gr.refl _, rfl⟩
        intro f_ w7 gg hD
        have h4 : f_ 4 = .bool true := hD 8 4 rfl
        have kg : Below wr.heap.size wr w7 := (below_drewN (Below.refl _ _) 1).trans gg
        simp only [putAll, List.setIfInBounds_toArray, List.set_cons_zero, List.set_cons_succ, h4]
        have HB7 := Lib.hid (HB.out.trans (kg.mono HB.out.size))
        clear hD gg kg h4
        go_wp2_with (fail)
        go_ret
        exact ⟨rfl, HB7.out⟩
end Go.Proofs.YtipofokinjkclaaDoor
