/- Parts one behind the other: The walk of RunsThere: what is told of two screens leads from the one to the other. Conditions: as told at each. -/
import Derived.Test.YtnnekdefncfeeaaDoorPF26

set_option linter.unusedVariables false
set_option linter.unusedSimpArgs false
/- The walk of RunsThere: what is told of two screens leads from the one to the other. Conditions: the tables lie where they were laid. -/
namespace Go.Proofs.YtnnekdefncfeeaaDoor
open Go Go.RowKit Go.Lib

set_option maxRecDepth 100000 in
set_option maxHeartbeats 16000000 in
theorem RunsThere_walk (w : World) (s : ScD) (A : Option Addr) (n c : Nat) (L : Option Addr) (m cm : Nat) (hs : ScO w s A n c L m cm) (t : ScD) (B : Option Addr) (k d : Nat) (M : Option Addr) (l dm : Nat) (ht : ScO w t B k d M l dm) (hU : TabU w) :
    Calls Tryd.prog 4 #[.agg (scC s A n c L m cm), .agg (scC t B k d M l dm)] w fun r w' => r = .returned (.bool true) ∧ Below w.heap.size w w' := by
  obtain ⟨X, eX⟩ : ∃ X, X = scC s A n c L m cm := ⟨_, rfl⟩
  obtain ⟨Y, eY⟩ : ∃ Y, Y = scC t B k d M l dm := ⟨_, rfl⟩
  rw [← eX, ← eY]
  obtain ⟨W0, eW0⟩ : ∃ W0, W0 = (w.alloc (.cells X 25)).alloc (.cells Y 25) := ⟨_, rfl⟩
  obtain ⟨p, ep⟩ : ∃ p, p = w.heap.size := ⟨_, rfl⟩
  obtain ⟨q, eq⟩ : ∃ q, q = w.heap.size + 1 := ⟨_, rfl⟩
  have hb0 : Below w.heap.size w W0 := by rw [eW0]; exact ((Below.refl _ _).alloc (Nat.le_refl _) _).alloc (by simp) _
  have HP0 : Hid (ScB W0 p s A n c L m cm) := Lib.hid (by rw [eW0, ep, eX]; exact (Below.heap_alloc _ _ _ (by simp)).trans (heap_alloc_new _ _))
  have HQ0 : Hid (ScB W0 q t B k d M l dm) := Lib.hid (by rw [eW0, eq, eY]; exact heap_alloc2_new _ _ _)
  have EW0 := Lib.hid eW0
  have EP := Lib.hid ep
  have EQ := Lib.hid eq
  have HB0 := Lib.hid hb0
  have HS := Lib.hid hs
  have HT := Lib.hid ht
  have HU := Lib.hid hU
  clear eX eY eW0 ep eq hb0 hs ht hU
  obtain ⟨GB, eGB⟩ : ∃ b, greatB n s.title.size m = b := ⟨_, rfl⟩
  have HGB := Lib.hid eGB
  obtain ⟨GC, eGC⟩ : ∃ b, greatB k t.title.size l = b := ⟨_, rfl⟩
  have HGC := Lib.hid eGC
  obtain ⟨FA, eFA⟩ : ∃ b, fit17 s = b := ⟨_, rfl⟩
  have HFA := Lib.hid eFA
  obtain ⟨FB, eFB⟩ : ∃ b, fit17 t = b := ⟨_, rfl⟩
  have HFB := Lib.hid eFB
  clear eGB eGC eFA eFB
  go_enter Tryd.func4, Tryd.ntmps4
  go_upto_region 1 with (fail)
  rw [← EW0.out, ← EQ.out, ← EP.out]
  obtain ⟨T, eT⟩ : ∃ b, (GB || (GC || (!FA || !FB))) = b := ⟨_, rfl⟩
  have HTT := Lib.hid eT
  clear eT
  go_cut [28] (fun s28 wx => s28 = .bool T ∧ Hid (Below W0.heap.size W0 wx))
  case first =>
    cases GB
    · cases GC
      · have HSM := Lib.hid (greatB_no HGB.out)
        have HRS : Hid (ScR w s A n c L m cm) := Lib.hid (HS.out.small (by have := HSM.out; omega) (by have := HSM.out; omega) (by have := HSM.out; omega))
        have HMS : Hid (0 ≤ s.mouse) := Lib.hid HS.out.b6.1
        have HSN := Lib.hid (greatB_no HGC.out)
        have HRT : Hid (ScR w t B k d M l dm) := Lib.hid (HT.out.small (by have := HSN.out; omega) (by have := HSN.out; omega) (by have := HSN.out; omega))
        have HMT : Hid (0 ≤ t.mouse) := Lib.hid HT.out.b6.1
        cases FA
        · go_wp2_with (first
            | (refine wpList_load_row rfl 25 (.tmp 2) rfl p rfl 25 _ (0, 0) _ HP0.out Tryd.underlying25 rfl (info_sc.trans rfl) ?_)
            | ((with_reducible refine wpList_openG (o := ⟨some 16, _, _, _, _, _⟩) rfl ?_); (refine wpList_load_row rfl 25 (.tmp 3) rfl q rfl 25 _ (0, 0) _ (HQ0.out.below HB1.out) Tryd.underlying25 rfl (info_sc.trans rfl) ?_))
            | ((with_reducible refine wpList_openG (o := ⟨some 20, _, _, _, _, _⟩) rfl ?_); (refine wpList_load_row rfl 25 (.tmp 2) rfl p rfl 25 _ (0, 0) _ (HP0.out.below HB2.out) Tryd.underlying25 rfl (info_sc.trans rfl) ?_))
            | ((with_reducible refine wpList_openG (o := ⟨some 25, _, _, _, _, _⟩) rfl ?_); (refine wpList_load_row rfl 25 (.tmp 3) rfl q rfl 25 _ (0, 0) _ (HQ0.out.below HB3.out) Tryd.underlying25 rfl (info_sc.trans rfl) ?_))
            | (go_at_call 7; (with_reducible refine (great17_c s A n c L m cm W0).mono ?_); rintro _ w1 ⟨rfl, hb1⟩; rw [HGB.out]; have HB1 : Hid (Below W0.heap.size W0 w1) := Lib.hid hb1; clear hb1)
            | (go_at_call 7; (with_reducible refine (great17_c t B k d M l dm w1).mono ?_); rintro _ w2 ⟨rfl, hb1⟩; rw [HGC.out]; have HB2 : Hid (Below W0.heap.size W0 w2) := Lib.hid (HB1.out.trans (hb1.mono HB1.out.size)); clear hb1)
            | (go_at_call 16; (with_reducible refine (refFits17_c s A n c L m cm w2 (HRS.out.below (HB0.out.trans (HB2.out.mono HB0.out.size))) (HU.out.next (HB0.out.trans (HB2.out.mono HB0.out.size)))).mono ?_); rintro _ w3 ⟨rfl, hb1⟩; rw [HFA.out]; have HB3 : Hid (Below W0.heap.size W0 w3) := Lib.hid (HB2.out.trans (hb1.mono HB2.out.size)); clear hb1)
            | (go_at_call 16; (with_reducible refine (refFits17_c t B k d M l dm w3 (HRT.out.below (HB0.out.trans (HB3.out.mono HB0.out.size))) (HU.out.next (HB0.out.trans (HB3.out.mono HB0.out.size)))).mono ?_); rintro _ w4 ⟨rfl, hb1⟩; rw [HFB.out]; have HB4 : Hid (Below W0.heap.size W0 w4) := Lib.hid (HB3.out.trans (hb1.mono HB3.out.size)); clear hb1))
          go_meet
          exact ⟨by rw [← HTT.out] <;> rfl, HB3⟩
        · cases FB
          · go_wp2_with (first
              | (refine wpList_load_row rfl 25 (.tmp 2) rfl p rfl 25 _ (0, 0) _ HP0.out Tryd.underlying25 rfl (info_sc.trans rfl) ?_)
              | ((with_reducible refine wpList_openG (o := ⟨some 16, _, _, _, _, _⟩) rfl ?_); (refine wpList_load_row rfl 25 (.tmp 3) rfl q rfl 25 _ (0, 0) _ (HQ0.out.below HB1.out) Tryd.underlying25 rfl (info_sc.trans rfl) ?_))
              | ((with_reducible refine wpList_openG (o := ⟨some 20, _, _, _, _, _⟩) rfl ?_); (refine wpList_load_row rfl 25 (.tmp 2) rfl p rfl 25 _ (0, 0) _ (HP0.out.below HB2.out) Tryd.underlying25 rfl (info_sc.trans rfl) ?_))
              | ((with_reducible refine wpList_openG (o := ⟨some 25, _, _, _, _, _⟩) rfl ?_); (refine wpList_load_row rfl 25 (.tmp 3) rfl q rfl 25 _ (0, 0) _ (HQ0.out.below HB3.out) Tryd.underlying25 rfl (info_sc.trans rfl) ?_))
              | (go_at_call 7; (with_reducible refine (great17_c s A n c L m cm W0).mono ?_); rintro _ w1 ⟨rfl, hb1⟩; rw [HGB.out]; have HB1 : Hid (Below W0.heap.size W0 w1) := Lib.hid hb1; clear hb1)
              | (go_at_call 7; (with_reducible refine (great17_c t B k d M l dm w1).mono ?_); rintro _ w2 ⟨rfl, hb1⟩; rw [HGC.out]; have HB2 : Hid (Below W0.heap.size W0 w2) := Lib.hid (HB1.out.trans (hb1.mono HB1.out.size)); clear hb1)
              | (go_at_call 16; (with_reducible refine (refFits17_c s A n c L m cm w2 (HRS.out.below (HB0.out.trans (HB2.out.mono HB0.out.size))) (HU.out.next (HB0.out.trans (HB2.out.mono HB0.out.size)))).mono ?_); rintro _ w3 ⟨rfl, hb1⟩; rw [HFA.out]; have HB3 : Hid (Below W0.heap.size W0 w3) := Lib.hid (HB2.out.trans (hb1.mono HB2.out.size)); clear hb1)
              | (go_at_call 16; (with_reducible refine (refFits17_c t B k d M l dm w3 (HRT.out.below (HB0.out.trans (HB3.out.mono HB0.out.size))) (HU.out.next (HB0.out.trans (HB3.out.mono HB0.out.size)))).mono ?_); rintro _ w4 ⟨rfl, hb1⟩; rw [HFB.out]; have HB4 : Hid (Below W0.heap.size W0 w4) := Lib.hid (HB3.out.trans (hb1.mono HB3.out.size)); clear hb1))
            go_meet
            exact ⟨by rw [← HTT.out] <;> rfl, HB4⟩
          · go_wp2_with (first
              | (refine wpList_load_row rfl 25 (.tmp 2) rfl p rfl 25 _ (0, 0) _ HP0.out Tryd.underlying25 rfl (info_sc.trans rfl) ?_)
              | ((with_reducible refine wpList_openG (o := ⟨some 16, _, _, _, _, _⟩) rfl ?_); (refine wpList_load_row rfl 25 (.tmp 3) rfl q rfl 25 _ (0, 0) _ (HQ0.out.below HB1.out) Tryd.underlying25 rfl (info_sc.trans rfl) ?_))
              | ((with_reducible refine wpList_openG (o := ⟨some 20, _, _, _, _, _⟩) rfl ?_); (refine wpList_load_row rfl 25 (.tmp 2) rfl p rfl 25 _ (0, 0) _ (HP0.out.below HB2.out) Tryd.underlying25 rfl (info_sc.trans rfl) ?_))
              | ((with_reducible refine wpList_openG (o := ⟨some 25, _, _, _, _, _⟩) rfl ?_); (refine wpList_load_row rfl 25 (.tmp 3) rfl q rfl 25 _ (0, 0) _ (HQ0.out.below HB3.out) Tryd.underlying25 rfl (info_sc.trans rfl) ?_))
              | (go_at_call 7; (with_reducible refine (great17_c s A n c L m cm W0).mono ?_); rintro _ w1 ⟨rfl, hb1⟩; rw [HGB.out]; have HB1 : Hid (Below W0.heap.size W0 w1) := Lib.hid hb1; clear hb1)
              | (go_at_call 7; (with_reducible refine (great17_c t B k d M l dm w1).mono ?_); rintro _ w2 ⟨rfl, hb1⟩; rw [HGC.out]; have HB2 : Hid (Below W0.heap.size W0 w2) := Lib.hid (HB1.out.trans (hb1.mono HB1.out.size)); clear hb1)
              | (go_at_call 16; (with_reducible refine (refFits17_c s A n c L m cm w2 (HRS.out.below (HB0.out.trans (HB2.out.mono HB0.out.size))) (HU.out.next (HB0.out.trans (HB2.out.mono HB0.out.size)))).mono ?_); rintro _ w3 ⟨rfl, hb1⟩; rw [HFA.out]; have HB3 : Hid (Below W0.heap.size W0 w3) := Lib.hid (HB2.out.trans (hb1.mono HB2.out.size)); clear hb1)
              | (go_at_call 16; (with_reducible refine (refFits17_c t B k d M l dm w3 (HRT.out.below (HB0.out.trans (HB3.out.mono HB0.out.size))) (HU.out.next (HB0.out.trans (HB3.out.mono HB0.out.size)))).mono ?_); rintro _ w4 ⟨rfl, hb1⟩; rw [HFB.out]; have HB4 : Hid (Below W0.heap.size W0 w4) := Lib.hid (HB3.out.trans (hb1.mono HB3.out.size)); clear hb1))
            go_meet
            exact ⟨by rw [← HTT.out] <;> rfl, HB4⟩
      · go_wp2_with (first
          | (refine wpList_load_row rfl 25 (.tmp 2) rfl p rfl 25 _ (0, 0) _ HP0.out Tryd.underlying25 rfl (info_sc.trans rfl) ?_)
          | ((with_reducible refine wpList_openG (o := ⟨some 16, _, _, _, _, _⟩) rfl ?_); (refine wpList_load_row rfl 25 (.tmp 3) rfl q rfl 25 _ (0, 0) _ (HQ0.out.below HB1.out) Tryd.underlying25 rfl (info_sc.trans rfl) ?_))
          | ((with_reducible refine wpList_openG (o := ⟨some 20, _, _, _, _, _⟩) rfl ?_); (refine wpList_load_row rfl 25 (.tmp 2) rfl p rfl 25 _ (0, 0) _ (HP0.out.below HB2.out) Tryd.underlying25 rfl (info_sc.trans rfl) ?_))
          | ((with_reducible refine wpList_openG (o := ⟨some 25, _, _, _, _, _⟩) rfl ?_); (refine wpList_load_row rfl 25 (.tmp 3) rfl q rfl 25 _ (0, 0) _ (HQ0.out.below HB3.out) Tryd.underlying25 rfl (info_sc.trans rfl) ?_))
          | (go_at_call 7; (with_reducible refine (great17_c s A n c L m cm W0).mono ?_); rintro _ w1 ⟨rfl, hb1⟩; rw [HGB.out]; have HB1 : Hid (Below W0.heap.size W0 w1) := Lib.hid hb1; clear hb1)
          | (go_at_call 7; (with_reducible refine (great17_c t B k d M l dm w1).mono ?_); rintro _ w2 ⟨rfl, hb1⟩; rw [HGC.out]; have HB2 : Hid (Below W0.heap.size W0 w2) := Lib.hid (HB1.out.trans (hb1.mono HB1.out.size)); clear hb1)
          | (go_at_call 16; (with_reducible refine (refFits17_c s A n c L m cm w2 (HRS.out.below (HB0.out.trans (HB2.out.mono HB0.out.size))) (HU.out.next (HB0.out.trans (HB2.out.mono HB0.out.size)))).mono ?_); rintro _ w3 ⟨rfl, hb1⟩; rw [HFA.out]; have HB3 : Hid (Below W0.heap.size W0 w3) := Lib.hid (HB2.out.trans (hb1.mono HB2.out.size)); clear hb1)
          | (go_at_call 16; (with_reducible refine (refFits17_c t B k d M l dm w3 (HRT.out.below (HB0.out.trans (HB3.out.mono HB0.out.size))) (HU.out.next (HB0.out.trans (HB3.out.mono HB0.out.size)))).mono ?_); rintro _ w4 ⟨rfl, hb1⟩; rw [HFB.out]; have HB4 : Hid (Below W0.heap.size W0 w4) := Lib.hid (HB3.out.trans (hb1.mono HB3.out.size)); clear hb1))
        go_meet
        exact ⟨by rw [← HTT.out] <;> rfl, HB2⟩
    · go_wp2_with (first
        | (refine wpList_load_row rfl 25 (.tmp 2) rfl p rfl 25 _ (0, 0) _ HP0.out Tryd.underlying25 rfl (info_sc.trans rfl) ?_)
        | ((with_reducible refine wpList_openG (o := ⟨some 16, _, _, _, _, _⟩) rfl ?_); (refine wpList_load_row rfl 25 (.tmp 3) rfl q rfl 25 _ (0, 0) _ (HQ0.out.below HB1.out) Tryd.underlying25 rfl (info_sc.trans rfl) ?_))
        | ((with_reducible refine wpList_openG (o := ⟨some 20, _, _, _, _, _⟩) rfl ?_); (refine wpList_load_row rfl 25 (.tmp 2) rfl p rfl 25 _ (0, 0) _ (HP0.out.below HB2.out) Tryd.underlying25 rfl (info_sc.trans rfl) ?_))
        | ((with_reducible refine wpList_openG (o := ⟨some 25, _, _, _, _, _⟩) rfl ?_); (refine wpList_load_row rfl 25 (.tmp 3) rfl q rfl 25 _ (0, 0) _ (HQ0.out.below HB3.out) Tryd.underlying25 rfl (info_sc.trans rfl) ?_))
        | (go_at_call 7; (with_reducible refine (great17_c s A n c L m cm W0).mono ?_); rintro _ w1 ⟨rfl, hb1⟩; rw [HGB.out]; have HB1 : Hid (Below W0.heap.size W0 w1) := Lib.hid hb1; clear hb1)
        | (go_at_call 7; (with_reducible refine (great17_c t B k d M l dm w1).mono ?_); rintro _ w2 ⟨rfl, hb1⟩; rw [HGC.out]; have HB2 : Hid (Below W0.heap.size W0 w2) := Lib.hid (HB1.out.trans (hb1.mono HB1.out.size)); clear hb1)
        | (go_at_call 16; (with_reducible refine (refFits17_c s A n c L m cm w2 (HRS.out.below (HB0.out.trans (HB2.out.mono HB0.out.size))) (HU.out.next (HB0.out.trans (HB2.out.mono HB0.out.size)))).mono ?_); rintro _ w3 ⟨rfl, hb1⟩; rw [HFA.out]; have HB3 : Hid (Below W0.heap.size W0 w3) := Lib.hid (HB2.out.trans (hb1.mono HB2.out.size)); clear hb1)
        | (go_at_call 16; (with_reducible refine (refFits17_c t B k d M l dm w3 (HRT.out.below (HB0.out.trans (HB3.out.mono HB0.out.size))) (HU.out.next (HB0.out.trans (HB3.out.mono HB0.out.size)))).mono ?_); rintro _ w4 ⟨rfl, hb1⟩; rw [HFB.out]; have HB4 : Hid (Below W0.heap.size W0 w4) := Lib.hid (HB3.out.trans (hb1.mono HB3.out.size)); clear hb1))
      go_meet
      exact ⟨by rw [← HTT.out] <;> rfl, HB1⟩
  case rest =>
  obtain ⟨rfl, hbc⟩ := hcut
  have HBC := Lib.hid (HB0.out.trans (hbc.out.mono HB0.out.size))
  have HPC := Lib.hid (HP0.out.below hbc.out)
  have HQC := Lib.hid (HQ0.out.below hbc.out)
  clear hbc
  cases T
  · have hb := HTT.out
    simp only [Bool.or_eq_false_iff, Bool.not_eq_false'] at hb
    obtain ⟨rfl, rfl, rfl, rfl⟩ := hb
    have HSM := Lib.hid (greatB_no HGB.out)
    have HRS : Hid (ScR w s A n c L m cm) := Lib.hid (HS.out.small (by have := HSM.out; omega) (by have := HSM.out; omega) (by have := HSM.out; omega))
    have HMS : Hid (0 ≤ s.mouse) := Lib.hid HS.out.b6.1
    have HSN := Lib.hid (greatB_no HGC.out)
    have HRT : Hid (ScR w t B k d M l dm) := Lib.hid (HT.out.small (by have := HSN.out; omega) (by have := HSN.out; omega) (by have := HSN.out; omega))
    have HMT : Hid (0 ≤ t.mouse) := Lib.hid HT.out.b6.1
    have HCE : Hid (∀ d ∈ t.cells, CeOk d) := Lib.hid HT.out.ce
    have HTO := Lib.hid (told17_of HFB.out HCE.out)
    obtain ⟨E1, eE1⟩ : ∃ E, enc17 s t = (E, 0) := ⟨(enc17 s t).1, Prod.ext rfl (there17_enc HFA.out HFB.out HMT.out HTO.out).1⟩
    obtain ⟨E2, eE2⟩ : ∃ E, full17 t = (E, 0) := ⟨(full17 t).1, Prod.ext rfl (there17_full HFA.out HFB.out HMT.out HTO.out).1⟩
    have HE1 := Lib.hid eE1
    have HE2 := Lib.hid eE2
    have HA1 : Hid (app17 s E1 = (t, 0)) := Lib.hid (by have h := (there17_enc HFA.out HFB.out HMT.out HTO.out).2; rw [eE1] at h; exact h)
    have HA2 : Hid (app17 s E2 = (t, 0)) := Lib.hid (by have h := (there17_full HFA.out HFB.out HMT.out HTO.out).2; rw [eE2] at h; exact h)
    have HL1 : Hid (E1.length ≤ 200000) := Lib.hid (by have h := enc17_len (a := s) HCE.out; rw [eE1] at h; exact h)
    have HL2 : Hid (E2.length ≤ 200000) := Lib.hid (by have h := full17_len HCE.out; rw [eE2] at h; exact h)
    clear eE1 eE2
    go_upto_region 4 with (first
      | (refine wpList_load_row rfl 25 (.tmp 2) rfl p rfl 25 _ (0, 0) _ HPC.out Tryd.underlying25 rfl (info_sc.trans rfl) ?_)
      | (refine wpList_load_row rfl 25 (.tmp 3) rfl q rfl 25 _ (0, 0) _ HQC.out Tryd.underlying25 rfl (info_sc.trans rfl) ?_)
      | (go_at_call 10; (refine (enc17_c s t A n c L m cm B k d M l dm wc (HRS.out.below HBC.out) (HRT.out.below HBC.out) HCE.out HMT.out (HU.out.next HBC.out)).mono ?_); rintro _ w4 ⟨v4, rfl, ho4, hb4⟩; rw [HE1.out] at ho4 ⊢; obtain ⟨A4, k4, rfl, _, _, hr4, _⟩ := OwnB.form ho4; have HR4 := Lib.hid hr4; have HB4 := Lib.hid (HBC.out.trans (hb4.mono HBC.out.size)); have HP4 := Lib.hid (HPC.out.below hb4); have HQ4 := Lib.hid (HQC.out.below hb4); clear ho4 hb4 hr4))
    go_upto_region 5 with (first
      | (refine wpList_load_row rfl 25 (.tmp 3) rfl q rfl 25 _ (0, 0) _ HQ4.out Tryd.underlying25 rfl (info_sc.trans rfl) ?_)
      | (go_at_call 12; (refine (full17_c t B k d M l dm w4 (HRT.out.below HB4.out) HCE.out HMT.out (HU.out.next HB4.out)).mono ?_); rintro _ w5 ⟨v5, rfl, ho5, hb5⟩; rw [HE2.out] at ho5 ⊢; obtain ⟨A5, k5, rfl, _, _, hr5, _⟩ := OwnB.form ho5; have HR5 := Lib.hid hr5; have HR45 := Lib.hid (HR4.out.below hb5); have HB5 := Lib.hid (HB4.out.trans (hb5.mono HB4.out.size)); have HP5 := Lib.hid (HP4.out.below hb5); have HQ5 := Lib.hid (HQ4.out.below hb5); clear ho5 hb5 hr5))
    go_upto_region 6 with (first
      | (refine wpList_load_row rfl 25 (.tmp 2) rfl p rfl 25 _ (0, 0) _ HP5.out Tryd.underlying25 rfl (info_sc.trans rfl) ?_)
      | (go_at_call 18; (refine (apply17_c s A n c L m cm A4 E1.length k4 E1 w5 (HRS.out.below HB5.out) rfl HR45.out (by { have := HL1.out; omega }) (HU.out.next HB5.out)).mono ?_); rw [HA1.out]; rintro _ w6 ⟨⟨A6, n6, c6, L6, d6, rfl, ho6, hl6, hb6⟩, -⟩; have HO6 := Lib.hid ho6; have HLK := Lib.hid hl6; have HB6 := Lib.hid (HB5.out.trans (hb6.mono HB5.out.size)); have HP6 := Lib.hid (HP5.out.below hb6); have HQ6 := Lib.hid (HQ5.out.below hb6); have HR56 := Lib.hid (HR5.out.below hb6); clear ho6 hl6 hb6)
      | (refine wpList_store_rowTo rfl 25 (.tmp 9) (.tmp 45) rfl rfl w6.heap.size (scC t A6 n6 c6 L6 0 d6) rfl rfl 25 _ (heap_alloc_new w6 _) (info_sc.trans rfl) rfl (sc_one _ _ _ _ _ _ _) ?_))
    generalize eXX : World.alloc w6 _ = XX
    have hx : Below w6.heap.size w6 XX := by rw [← eXX]; exact (Below.refl _ _).alloc (Nat.le_refl _) _
    obtain ⟨old, hq2⟩ : ∃ old, XX.heap[w6.heap.size]? = some (.cells old 25 (0, 0)) := ⟨_, by rw [← eXX]; exact heap_alloc_new _ _⟩
    obtain ⟨g, eg⟩ : ∃ g, g = w6.heap.size := ⟨_, rfl⟩
    obtain ⟨W7, eWW⟩ : ∃ W, W = XX.setRow w6.heap.size (scC t A6 n6 c6 L6 0 d6) := ⟨_, rfl⟩
    rw [← eWW, ← eg]
    have HG7 : Hid (ScB W7 g t A6 n6 c6 L6 0 d6) := Lib.hid (by rw [eWW, eg]; exact setRow_heap _ _ _ _ _ _ hq2)
    have hbs : Below w6.heap.size w6 W7 := by rw [eWW]; exact below_setRow hx (Nat.le_refl _) _
    have EGg := Lib.hid eg
    clear eXX hx hq2 eg eWW
    have HB7 := Lib.hid (HB6.out.trans (hbs.mono HB6.out.size))
    have HP7 := Lib.hid (HP6.out.below hbs)
    have HQ7 := Lib.hid (HQ6.out.below hbs)
    have HR57 := Lib.hid (HR56.out.below hbs)
    have HRA7 : Hid (ScR W7 t A6 n6 c6 L6 0 d6) := Lib.hid (fit_read17 HFB.out (OwnC.below HO6.out hbs) HLK.out HRT.out.ok)
    clear hbs HO6
    go_upto_region 7 with (first
      | (refine wpList_load_row rfl 25 (.tmp 2) rfl p rfl 25 _ (0, 0) _ HP7.out Tryd.underlying25 rfl (info_sc.trans rfl) ?_)
      | (go_at_call 18; (refine (apply17_c s A n c L m cm A5 E2.length k5 E2 W7 (HRS.out.below HB7.out) rfl HR57.out (by { have := HL2.out; omega }) (HU.out.next HB7.out)).mono ?_); rw [HA2.out]; rintro _ w8 ⟨⟨A8, n8, c8, L8, d8, rfl, ho8, hl8, hb8⟩, -⟩; have HO8 := Lib.hid ho8; have HLJ := Lib.hid hl8; have HB8 := Lib.hid (HB7.out.trans (hb8.mono HB7.out.size)); have HQ8 := Lib.hid (HQ7.out.below hb8); have HG8 := Lib.hid (HG7.out.below hb8); have HRA8 := Lib.hid (HRA7.out.below hb8); clear ho8 hl8 hb8)
      | (refine wpList_store_rowTo rfl 25 (.tmp 11) (.tmp 51) rfl rfl w8.heap.size (scC t A8 n8 c8 L8 0 d8) rfl rfl 25 _ (heap_alloc_new w8 _) (info_sc.trans rfl) rfl (sc_one _ _ _ _ _ _ _) ?_))
    generalize eXX : World.alloc w8 _ = XX
    have hx : Below w8.heap.size w8 XX := by rw [← eXX]; exact (Below.refl _ _).alloc (Nat.le_refl _) _
    obtain ⟨old, hq2⟩ : ∃ old, XX.heap[w8.heap.size]? = some (.cells old 25 (0, 0)) := ⟨_, by rw [← eXX]; exact heap_alloc_new _ _⟩
    obtain ⟨h, eg⟩ : ∃ g, g = w8.heap.size := ⟨_, rfl⟩
    obtain ⟨W9, eWW⟩ : ∃ W, W = XX.setRow w8.heap.size (scC t A8 n8 c8 L8 0 d8) := ⟨_, rfl⟩
    rw [← eWW, ← eg]
    have HG9 : Hid (ScB W9 h t A8 n8 c8 L8 0 d8) := Lib.hid (by rw [eWW, eg]; exact setRow_heap _ _ _ _ _ _ hq2)
    have hbs : Below w8.heap.size w8 W9 := by rw [eWW]; exact below_setRow hx (Nat.le_refl _) _
    have EGh := Lib.hid eg
    clear eXX hx hq2 eg eWW
    have HB9 := Lib.hid (HB8.out.trans (hbs.mono HB8.out.size))
    have HQ9 := Lib.hid (HQ8.out.below hbs)
    have HGA := Lib.hid (HG8.out.below hbs)
    have HRA := Lib.hid (HRA8.out.below hbs)
    have HRB : Hid (ScR W9 t A8 n8 c8 L8 0 d8) := Lib.hid (fit_read17 HFB.out (OwnC.below HO8.out hbs) HLJ.out HRT.out.ok)
    have HRT9 := Lib.hid (HRT.out.below HB9.out)
    clear hbs HO8
    go_wp2_with (first
      | (go_at_call 8; (refine (fixed17_c W9 (HU.out.next HB9.out)).mono ?_); rintro _ wa ⟨rfl, hba⟩; have HBa := Lib.hid (HB9.out.trans (hba.mono HB9.out.size)); have HQa := Lib.hid (HQ9.out.below hba); have HGa := Lib.hid (HGA.out.below hba); have HHa := Lib.hid (HG9.out.below hba); have HRAa := Lib.hid (HRA.out.below hba); have HRBa := Lib.hid (HRB.out.below hba); have HRTa := Lib.hid (HRT9.out.below hba); clear hba)
      | ((with_reducible refine wpList_openG (o := ⟨some 71, _, _, _, _, _⟩) rfl ?_); (refine wpList_load_row rfl 25 (.tmp 9) rfl g rfl 25 _ (0, 0) _ HGa.out Tryd.underlying25 rfl (info_sc.trans rfl) ?_))
      | ((with_reducible refine wpList_openG (o := ⟨some 72, _, _, _, _, _⟩) rfl ?_); (refine wpList_load_row rfl 25 (.tmp 3) rfl q rfl 25 _ (0, 0) _ HQa.out Tryd.underlying25 rfl (info_sc.trans rfl) ?_))
      | (go_at_call 17; (with_reducible refine (same_c t t A6 n6 c6 L6 0 d6 B k d M l dm wa HRAa.out HRTa.out).mono ?_); rintro _ wb ⟨rfl, hbb⟩; rw [sameS_self]; have HBb := Lib.hid (HBa.out.trans (hbb.mono HBa.out.size)); have HQb := Lib.hid (HQa.out.below hbb); have HHb := Lib.hid (HHa.out.below hbb); have HRBb := Lib.hid (HRBa.out.below hbb); have HRTb := Lib.hid (HRTa.out.below hbb); clear hbb)
      | ((with_reducible refine wpList_openG (o := ⟨some 76, _, _, _, _, _⟩) rfl ?_); (refine wpList_load_row rfl 25 (.tmp 11) rfl h rfl 25 _ (0, 0) _ HHb.out Tryd.underlying25 rfl (info_sc.trans rfl) ?_))
      | ((with_reducible refine wpList_openG (o := ⟨some 77, _, _, _, _, _⟩) rfl ?_); (refine wpList_load_row rfl 25 (.tmp 3) rfl q rfl 25 _ (0, 0) _ HQb.out Tryd.underlying25 rfl (info_sc.trans rfl) ?_))
      | (go_at_call 17; (with_reducible refine (same_c t t A8 n8 c8 L8 0 d8 B k d M l dm wb HRBb.out HRTb.out).mono ?_); rintro _ wd ⟨rfl, hbb⟩; rw [sameS_self]; have HBd := Lib.hid (HBb.out.trans (hbb.mono HBb.out.size)); clear hbb))
    go_ret
    exact ⟨rfl, HBd.out⟩
  · go_wp2_with (first
      | (go_at_call 8; (refine (fixed17_c wc (HU.out.next HBC.out)).mono ?_); rintro _ w9 ⟨rfl, hb9⟩; have HB9 := Lib.hid (HBC.out.trans (hb9.mono HBC.out.size)); clear hb9))
    go_ret
    exact ⟨rfl, HB9.out⟩
end Go.Proofs.YtnnekdefncfeeaaDoor

