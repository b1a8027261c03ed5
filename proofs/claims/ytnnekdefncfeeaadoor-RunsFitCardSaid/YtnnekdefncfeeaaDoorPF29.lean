/- Parts one behind the other: The walk of RunsFit: whatever bytes lead anywhere, it is a screen that fits. Conditions: as told at each. -/
import Derived.Test.YtnnekdefncfeeaaDoorPF26

set_option linter.unusedVariables false
set_option linter.unusedSimpArgs false
/- The walk of RunsFit: whatever bytes lead anywhere, it is a screen that fits. Conditions: the tables lie where they were laid. -/
namespace Go.Proofs.YtnnekdefncfeeaaDoor
open Go Go.RowKit Go.Lib

set_option maxRecDepth 100000 in
set_option maxHeartbeats 16000000 in
theorem RunsFit_walk (w : World) (s : ScD) (A : Option Addr) (n c : Nat) (L : Option Addr) (m cm : Nat) (hs : ScO w s A n c L m cm) (D : Option Addr) (dn dc : Nat) (bs : List UInt8) (hdn : bs.length = dn) (hdr : Rd w D (bs.map bv)) (_hdc : dn ≤ dc) (_hdm : dc ≤ maxLen) (hdl : dn ≤ 140737488351232) (hU : TabU w) :
    Calls Tryd.prog 5 #[.agg (scC s A n c L m cm), .slice D dn dc] w fun r w' => r = .returned (.bool true) ∧ Below w.heap.size w w' := by
  clear _hdm _hdc
  have HDN := Lib.hid hdn
  have HDR := Lib.hid hdr
  have HDL := Lib.hid hdl
  clear hdn hdr hdl
  obtain ⟨X, eX⟩ : ∃ X, X = scC s A n c L m cm := ⟨_, rfl⟩
  rw [← eX]
  obtain ⟨W0, eW0⟩ : ∃ W0, W0 = w.alloc (.cells X 25) := ⟨_, rfl⟩
  obtain ⟨p, ep⟩ : ∃ p, p = w.heap.size := ⟨_, rfl⟩
  have hb0 : Below w.heap.size w W0 := by rw [eW0]; exact (Below.refl _ _).alloc (Nat.le_refl _) _
  have HP0 : Hid (ScB W0 p s A n c L m cm) := Lib.hid (by rw [eW0, ep, eX]; exact heap_alloc_new _ _)
  have EW0 := Lib.hid eW0
  have EP := Lib.hid ep
  have HB0 := Lib.hid hb0
  have HS := Lib.hid hs
  have HU := Lib.hid hU
  clear eX eW0 ep hb0 hs hU
  obtain ⟨GB, eGB⟩ : ∃ b, greatB n s.title.size m = b := ⟨_, rfl⟩
  have HGB := Lib.hid eGB
  clear eGB
  obtain ⟨bl, el⟩ : ∃ b, decide ((65536 : Int) < (dn : Int)) = b := ⟨_, rfl⟩
  have eln : decide (65536 < dn) = bl := by rw [← el]; exact decide_eq_decide.2 (by omega)
  go_enter Tryd.func5, Tryd.ntmps5
  go_upto_region 1 with (fail)
  rw [← EW0.out, ← EP.out]
  obtain ⟨T, eT⟩ : ∃ b, (GB || bl) = b := ⟨_, rfl⟩
  have HTT := Lib.hid eT
  clear eT
  go_cut [13] (fun s13 wx => s13 = .bool T ∧ Hid (Below W0.heap.size W0 wx))
  case first =>
    cases GB <;> cases bl <;>
    · go_wp2_with (first
        | (refine wpList_load_row rfl 25 (.tmp 2) rfl p rfl 25 _ (0, 0) _ HP0.out Tryd.underlying25 rfl (info_sc.trans rfl) ?_)
        | (go_at_call 7; (refine (great17_c s A n c L m cm W0).mono ?_); rintro _ w1 ⟨rfl, hb1⟩; rw [HGB.out]; have HB1 := Lib.hid hb1; clear hb1))
      go_meet
      exact ⟨by rw [← HTT.out] <;> rfl, HB1⟩
  case rest =>
  obtain ⟨rfl, hbc⟩ := hcut
  have HBC := Lib.hid (HB0.out.trans (hbc.out.mono HB0.out.size))
  have HPC := Lib.hid (HP0.out.below hbc.out)
  clear hbc el eln
  cases T
  · have hb := HTT.out
    simp only [Bool.or_eq_false_iff] at hb
    obtain ⟨rfl, rfl⟩ := hb
    have HSM := Lib.hid (greatB_no HGB.out)
    have HRS : Hid (ScR w s A n c L m cm) := Lib.hid (HS.out.small (by have := HSM.out; omega) (by have := HSM.out; omega) (by have := HSM.out; omega))
    obtain ⟨t, E, eZ⟩ : ∃ t E, app17 s bs = (t, E) := ⟨_, _, rfl⟩
    have HZ := Lib.hid eZ
    clear eZ
    go_upto_region 4 with (first
      | (refine wpList_load_row rfl 25 (.tmp 2) rfl p rfl 25 _ (0, 0) _ HPC.out Tryd.underlying25 rfl (info_sc.trans rfl) ?_)
      | (go_at_call 18; (refine (apply17_c s A n c L m cm D dn dc bs wc (HRS.out.below HBC.out) HDN.out (HDR.out.below HBC.out) (by { have := HDL.out; omega }) (HU.out.next HBC.out)).mono ?_); rw [HZ.out]; rintro _ w3 ⟨⟨A3, n3, c3, L3, d3, rfl, ho3, hl3, hb3⟩, hk3⟩; have HO3 := Lib.hid ho3; have HLK := Lib.hid hl3; have HOK := Lib.hid hk3; have HB3 := Lib.hid (HBC.out.trans (hb3.mono HBC.out.size)); clear ho3 hl3 hb3 hk3)
      | (refine wpList_store_rowTo rfl 25 (.tmp 5) (.tmp 19) rfl rfl w3.heap.size (scC t A3 n3 c3 L3 0 d3) rfl rfl 25 _ (heap_alloc_new w3 _) (info_sc.trans rfl) rfl (sc_one _ _ _ _ _ _ _) ?_))
    generalize eXX : World.alloc w3 _ = XX
    have hx : Below w3.heap.size w3 XX := by rw [← eXX]; exact (Below.refl _ _).alloc (Nat.le_refl _) _
    obtain ⟨old, hq2⟩ : ∃ old, XX.heap[w3.heap.size]? = some (.cells old 25 (0, 0)) := ⟨_, by rw [← eXX]; exact heap_alloc_new _ _⟩
    obtain ⟨g, eg⟩ : ∃ g, g = w3.heap.size := ⟨_, rfl⟩
    obtain ⟨W4, eWW⟩ : ∃ W, W = XX.setRow w3.heap.size (scC t A3 n3 c3 L3 0 d3) := ⟨_, rfl⟩
    rw [← eWW, ← eg]
    have HG4 : Hid (ScB W4 g t A3 n3 c3 L3 0 d3) := Lib.hid (by rw [eWW, eg]; exact setRow_heap _ _ _ _ _ _ hq2)
    have hbs : Below w3.heap.size w3 W4 := by rw [eWW]; exact below_setRow hx (Nat.le_refl _) _
    have EGg := Lib.hid eg
    clear eXX hx hq2 eg eWW
    have HB4 := Lib.hid (HB3.out.trans (hbs.mono HB3.out.size))
    have HO4 := Lib.hid (OwnC.below HO3.out hbs)
    clear hbs HO3
    by_cases hE : E = 0
    · have z0 : (((E : Nat) : Int) != 0) = false := by rw [bne_eq_false_iff_eq]; omega
      have HFT : Hid (fit17 t = true) := Lib.hid (app17_fit (by rw [HZ.out, hE]))
      have HRT : Hid (ScR W4 t A3 n3 c3 L3 0 d3) := Lib.hid (fit_read17 HFT.out HO4.out HLK.out HOK.out)
      clear hE
      go_wp2_with (first
        | (go_at_call 8; (refine (fixed17_c W4 (HU.out.next HB4.out)).mono ?_); rintro _ w5 ⟨rfl, hb9⟩; have HB9 := Lib.hid (HB4.out.trans (hb9.mono HB4.out.size)); have HG5 := Lib.hid (HG4.out.below hb9); have HR5 := Lib.hid (HRT.out.below hb9); clear hb9)
        | ((with_reducible refine wpList_openG (o := ⟨some 32, _, _, _, _, _⟩) rfl ?_); (refine wpList_load_row rfl 25 (.tmp 5) rfl g rfl 25 _ (0, 0) _ HG5.out Tryd.underlying25 rfl (info_sc.trans rfl) ?_))
        | (go_at_call 15; (refine (fits17_c t A3 n3 c3 L3 0 d3 w5 HR5.out (HU.out.next HB9.out)).mono ?_); rintro _ w6 ⟨rfl, hb6⟩; rw [HFT.out]; have HB6 := Lib.hid (HB9.out.trans (hb6.mono HB9.out.size)); clear hb6))
      go_ret
      exact ⟨rfl, HB6.out⟩
    · have z0 : (((E : Nat) : Int) != 0) = true := by rw [bne_iff_ne]; omega
      have hn3 : n3 = 0 := by
        have h := app17_none (a := s) (d := bs) (by rw [HZ.out]; exact hE)
        rw [HZ.out] at h
        have h2 := HO4.out.parts.1
        rw [← h2, show t = scZ from h]; rfl
      subst hn3
      have x2 : W4.cell? ⟨g, 2, none⟩ = some (.slice A3 0 c3) := HG4.out.nine.2.2.1
      have HGL := Lib.hid (heap_lt HG4.out)
      clear hE
      go_wp2_with (first
        | (go_at_call 8; (refine (fixed17_c W4 (HU.out.next HB4.out)).mono ?_); rintro _ w5 ⟨rfl, hb9⟩; have HB9 := Lib.hid (HB4.out.trans (hb9.mono HB4.out.size)); have y2 := (hb9.cell (p := ⟨g, 2, none⟩) HGL.out).trans x2; clear hb9))
      go_ret
      exact ⟨rfl, HB9.out⟩
  · go_wp2_with (first
      | (go_at_call 8; (refine (fixed17_c wc (HU.out.next HBC.out)).mono ?_); rintro _ w9 ⟨rfl, hb9⟩; have HB9 := Lib.hid (HBC.out.trans (hb9.mono HBC.out.size)); clear hb9))
    go_ret
    exact ⟨rfl, HB9.out⟩
end Go.Proofs.YtnnekdefncfeeaaDoor

