/- Parts one behind the other: The walk of RunsStill: from a screen to itself no byte is told; without a byte each screen that fits stays as it is. Conditions: as told at each. -/
import Derived.Test.YtnnekdefncfeeaaDoorPF26

set_option linter.unusedVariables false
set_option linter.unusedSimpArgs false
/- The walk of RunsStill: from a screen to itself no byte is told; without a byte each screen that fits stays as it is. Conditions: the tables lie where they were laid. -/
namespace Go.Proofs.YtnnekdefncfeeaaDoor
open Go Go.RowKit Go.Lib

set_option maxRecDepth 100000 in
set_option maxHeartbeats 16000000 in
theorem RunsStill_walk (w : World) (s : ScD) (A : Option Addr) (n c : Nat) (L : Option Addr) (m cm : Nat) (hs : ScO w s A n c L m cm) (hU : TabU w) :
    Calls Tryd.prog 6 #[.agg (scC s A n c L m cm)] w fun r w' => r = .returned (.bool true) ∧ Below w.heap.size w w' := by
  obtain ⟨X, eX⟩ : ∃ X, X = scC s A n c L m cm := ⟨_, rfl⟩
  rw [← eX]
  obtain ⟨W0, eW0⟩ : ∃ W0, W0 = w.alloc (.cells X 25) := ⟨_, rfl⟩
  obtain ⟨p, ep⟩ : ∃ p, p = w.heap.size := ⟨_, rfl⟩
  have hb0 : Below w.heap.size w W0 := by rw [eW0]; exact (Below.refl _ _).alloc (Nat.le_refl _) _
  have HP0 : Hid (ScB W0 p s A n c L m cm) := Lib.hid (by rw [eW0, ep, eX]; exact heap_alloc_new _ _)
  have EW0 := Lib.hid eW0
  have EP := Lib.hid ep
  have HB0 := Lib.hid hb0
  have HS := Lib.hid hs
  have HU := Lib.hid hU
  clear eX eW0 ep hb0 hs hU
  obtain ⟨GB, eGB⟩ : ∃ b, greatB n s.title.size m = b := ⟨_, rfl⟩
  have HGB := Lib.hid eGB
  clear eGB
  obtain ⟨FT, eFT⟩ : ∃ b, fit17 s = b := ⟨_, rfl⟩
  have HFT := Lib.hid eFT
  clear eFT
  go_enter Tryd.func6, Tryd.ntmps6
  go_upto_region 1 with (fail)
  rw [← EW0.out, ← EP.out]
  obtain ⟨T, eT⟩ : ∃ b, (GB || !FT) = b := ⟨_, rfl⟩
  have HT := Lib.hid eT
  clear eT
  go_cut [13] (fun s13 wx => s13 = .bool T ∧ Hid (Below W0.heap.size W0 wx))
  case first =>
    cases GB
    · have HSM := Lib.hid (greatB_no HGB.out)
      have HRS : Hid (ScR w s A n c L m cm) := Lib.hid (HS.out.small (by have := HSM.out; omega) (by have := HSM.out; omega) (by have := HSM.out; omega))
      have HMO : Hid (0 ≤ s.mouse) := Lib.hid HS.out.b6.1
      cases FT
      · go_wp2_with (first
          | (refine wpList_load_row rfl 25 (.tmp 1) rfl p rfl 25 _ (0, 0) _ HP0.out Tryd.underlying25 rfl (info_sc.trans rfl) ?_)
          | ((with_reducible refine wpList_openG (o := ⟨some 10, _, _, _, _, _⟩) rfl ?_); (refine wpList_load_row rfl 25 (.tmp 1) rfl p rfl 25 _ (0, 0) _ HP1.out Tryd.underlying25 rfl (info_sc.trans rfl) ?_))
          | (go_at_call 7; (refine (great17_c s A n c L m cm W0).mono ?_); rintro _ w1 ⟨rfl, hb1⟩; rw [HGB.out]; have HB1 := Lib.hid hb1; have HP1 := Lib.hid (HP0.out.below hb1); clear hb1)
          | (go_at_call 16; (refine (refFits17_c s A n c L m cm w1 (HRS.out.below (HB0.out.trans (HB1.out.mono HB0.out.size))) (HU.out.next (HB0.out.trans (HB1.out.mono HB0.out.size)))).mono ?_); rintro _ w2 ⟨rfl, hb2⟩; rw [HFT.out]; have HB2 := Lib.hid (HB1.out.trans (hb2.mono HB1.out.size)); clear hb2))
        go_meet
        exact ⟨by rw [← HT.out] <;> rfl, HB2⟩
      · go_wp2_with (first
          | (refine wpList_load_row rfl 25 (.tmp 1) rfl p rfl 25 _ (0, 0) _ HP0.out Tryd.underlying25 rfl (info_sc.trans rfl) ?_)
          | ((with_reducible refine wpList_openG (o := ⟨some 10, _, _, _, _, _⟩) rfl ?_); (refine wpList_load_row rfl 25 (.tmp 1) rfl p rfl 25 _ (0, 0) _ HP1.out Tryd.underlying25 rfl (info_sc.trans rfl) ?_))
          | (go_at_call 7; (refine (great17_c s A n c L m cm W0).mono ?_); rintro _ w1 ⟨rfl, hb1⟩; rw [HGB.out]; have HB1 := Lib.hid hb1; have HP1 := Lib.hid (HP0.out.below hb1); clear hb1)
          | (go_at_call 16; (refine (refFits17_c s A n c L m cm w1 (HRS.out.below (HB0.out.trans (HB1.out.mono HB0.out.size))) (HU.out.next (HB0.out.trans (HB1.out.mono HB0.out.size)))).mono ?_); rintro _ w2 ⟨rfl, hb2⟩; rw [HFT.out]; have HB2 := Lib.hid (HB1.out.trans (hb2.mono HB1.out.size)); clear hb2))
        go_meet
        exact ⟨by rw [← HT.out] <;> rfl, HB2⟩
    · go_wp2_with (first
        | (refine wpList_load_row rfl 25 (.tmp 1) rfl p rfl 25 _ (0, 0) _ HP0.out Tryd.underlying25 rfl (info_sc.trans rfl) ?_)
        | ((with_reducible refine wpList_openG (o := ⟨some 10, _, _, _, _, _⟩) rfl ?_); (refine wpList_load_row rfl 25 (.tmp 1) rfl p rfl 25 _ (0, 0) _ HP1.out Tryd.underlying25 rfl (info_sc.trans rfl) ?_))
        | (go_at_call 7; (refine (great17_c s A n c L m cm W0).mono ?_); rintro _ w1 ⟨rfl, hb1⟩; rw [HGB.out]; have HB1 := Lib.hid hb1; have HP1 := Lib.hid (HP0.out.below hb1); clear hb1)
        | (go_at_call 16; (refine (refFits17_c s A n c L m cm w1 (HRS.out.below (HB0.out.trans (HB1.out.mono HB0.out.size))) (HU.out.next (HB0.out.trans (HB1.out.mono HB0.out.size)))).mono ?_); rintro _ w2 ⟨rfl, hb2⟩; rw [HFT.out]; have HB2 := Lib.hid (HB1.out.trans (hb2.mono HB1.out.size)); clear hb2))
      go_meet
      exact ⟨by rw [← HT.out] <;> rfl, HB1⟩
  case rest =>
  obtain ⟨rfl, hbc⟩ := hcut
  have HBC := Lib.hid (HB0.out.trans (hbc.out.mono HB0.out.size))
  have HPC := Lib.hid (HP0.out.below hbc.out)
  clear hbc
  cases T
  · have hb := HT.out
    simp only [Bool.or_eq_false_iff, Bool.not_eq_false'] at hb
    obtain ⟨rfl, rfl⟩ := hb
    have HSM := Lib.hid (greatB_no HGB.out)
    have HRS : Hid (ScR w s A n c L m cm) := Lib.hid (HS.out.small (by have := HSM.out; omega) (by have := HSM.out; omega) (by have := HSM.out; omega))
    have HMO : Hid (0 ≤ s.mouse) := Lib.hid HS.out.b6.1
    have HOK : Hid (∀ d ∈ s.cells, CeOk d) := Lib.hid HS.out.ce
    have HE : Hid (enc17 s s = ([], 0)) := Lib.hid (still17 HFT.out)
    have HA : Hid (app17 s [] = (s, 0)) := Lib.hid (app17_nil HFT.out)
    go_upto_region 4 with (first
      | (refine wpList_load_row rfl 25 (.tmp 1) rfl p rfl 25 _ (0, 0) _ HPC.out Tryd.underlying25 rfl (info_sc.trans rfl) ?_)
      | (go_at_call 10; (refine (enc17_c s s A n c L m cm A n c L m cm wc (HRS.out.below HBC.out) (HRS.out.below HBC.out) HOK.out HMO.out (HU.out.next HBC.out)).mono ?_); rintro _ w4 ⟨v4, rfl, ho4, hb4⟩; rw [HE.out] at ho4 ⊢; obtain ⟨A4, k4, rfl, _, _, _, _⟩ := OwnB.form ho4; have HB4 := Lib.hid (HBC.out.trans (hb4.mono HBC.out.size)); have HP4 := Lib.hid (HPC.out.below hb4); clear ho4 hb4))
    go_upto_region 5 with (first
      | (refine wpList_load_row rfl 25 (.tmp 1) rfl p rfl 25 _ (0, 0) _ HP4.out Tryd.underlying25 rfl (info_sc.trans rfl) ?_)
      | (go_at_call 18; (refine (apply17_c s A n c L m cm none 0 0 [] w4 (HRS.out.below HB4.out) rfl (.inl rfl) (by decide) (HU.out.next HB4.out)).mono ?_); rw [HA.out]; rintro _ w6 ⟨⟨A6, n6, c6, L6, d6, rfl, ho6, hl6, hb6⟩, -⟩; have HO6 := Lib.hid ho6; have HLK := Lib.hid hl6; have HB6 := Lib.hid (HB4.out.trans (hb6.mono HB4.out.size)); have HP6 := Lib.hid (HP4.out.below hb6); clear ho6 hl6 hb6)
      | (refine wpList_store_rowTo rfl 25 (.tmp 5) (.tmp 24) rfl rfl w6.heap.size (scC s A6 n6 c6 L6 0 d6) rfl rfl 25 _ (heap_alloc_new w6 _) (info_sc.trans rfl) rfl (sc_one _ _ _ _ _ _ _) ?_))
    generalize eXX : World.alloc w6 _ = XX
    have hx : Below w6.heap.size w6 XX := by rw [← eXX]; exact (Below.refl _ _).alloc (Nat.le_refl _) _
    obtain ⟨old, hq2⟩ : ∃ old, XX.heap[w6.heap.size]? = some (.cells old 25 (0, 0)) := ⟨_, by rw [← eXX]; exact heap_alloc_new _ _⟩
    obtain ⟨g, eg⟩ : ∃ g, g = w6.heap.size := ⟨_, rfl⟩
    obtain ⟨W7, eWW⟩ : ∃ W, W = XX.setRow w6.heap.size (scC s A6 n6 c6 L6 0 d6) := ⟨_, rfl⟩
    rw [← eWW, ← eg]
    have HG7 : Hid (ScB W7 g s A6 n6 c6 L6 0 d6) := Lib.hid (by rw [eWW, eg]; exact setRow_heap _ _ _ _ _ _ hq2)
    have hbs : Below w6.heap.size w6 W7 := by rw [eWW]; exact below_setRow hx (Nat.le_refl _) _
    have EGg := Lib.hid eg
    clear eXX hx hq2 eg eWW
    have HB7 := Lib.hid (HB6.out.trans (hbs.mono HB6.out.size))
    have HP7 := Lib.hid (HP6.out.below hbs)
    have HRA7 : Hid (ScR W7 s A6 n6 c6 L6 0 d6) := Lib.hid (fit_read17 HFT.out (OwnC.below HO6.out hbs) HLK.out HRS.out.ok)
    have HRS7 := Lib.hid (HRS.out.below HB7.out)
    clear hbs HO6
    go_wp2_with (first
      | (go_at_call 8; (refine (fixed17_c W7 (HU.out.next HB7.out)).mono ?_); rintro _ wa ⟨rfl, hb9⟩; have HB9 := Lib.hid (HB7.out.trans (hb9.mono HB7.out.size)); have HPa := Lib.hid (HP7.out.below hb9); have HGa := Lib.hid (HG7.out.below hb9); have HRAa := Lib.hid (HRA7.out.below hb9); have HRSa := Lib.hid (HRS7.out.below hb9); clear hb9)
      | ((with_reducible refine wpList_openG (o := ⟨some 41, _, _, _, _, _⟩) rfl ?_); (refine wpList_load_row rfl 25 (.tmp 5) rfl g rfl 25 _ (0, 0) _ HGa.out Tryd.underlying25 rfl (info_sc.trans rfl) ?_))
      | ((with_reducible refine wpList_openG (o := ⟨some 42, _, _, _, _, _⟩) rfl ?_); (refine wpList_load_row rfl 25 (.tmp 1) rfl p rfl 25 _ (0, 0) _ HPa.out Tryd.underlying25 rfl (info_sc.trans rfl) ?_))
      | (go_at_call 17; (with_reducible refine (same_c s s A6 n6 c6 L6 0 d6 A n c L m cm wa HRAa.out HRSa.out).mono ?_); rintro _ wb ⟨rfl, hbb⟩; rw [sameS_self]; have HBb := Lib.hid (HB9.out.trans (hbb.mono HB9.out.size)); clear hbb))
    go_ret
    exact ⟨rfl, HBb.out⟩
  · go_wp2_with (first
      | (go_at_call 8; (refine (fixed17_c wc (HU.out.next HBC.out)).mono ?_); rintro _ w9 ⟨rfl, hb9⟩; have HB9 := Lib.hid (HBC.out.trans (hb9.mono HBC.out.size)); clear hb9))
    go_ret
    exact ⟨rfl, HB9.out⟩
end Go.Proofs.YtnnekdefncfeeaaDoor

