/- Parts one behind the other: The walk of RunsApplies: any bytes applied to any screen lead where the document says; what is handed in stays, what is answered is new memory. Conditions: as told at each. -/
import Derived.Test.YtndjggabdajbfaaGreatDoorPG26
import Derived.Test.YtndjggabdajbfaaGreatDoorPG30

set_option linter.unusedVariables false
set_option linter.unusedSimpArgs false
/- The walk of RunsApplies: any bytes applied to any screen lead where the document says; what is handed in stays, what is answered is new memory. Conditions: the tables lie where they were laid. -/
namespace Go.Proofs.YtndjggabdajbfaaGreatDoor
open Go Go.RowKit Go.Lib

theorem app17_small (a : ScD) (d : List UInt8) : (app17 a d).1.cells.length ≤ 1920 := by
  by_cases h : (app17 a d).2 = 0
  · obtain ⟨t, et⟩ : ∃ t, app17 a d = (t, 0) := ⟨(app17 a d).1, by rw [← h]⟩
    obtain ⟨C, R, hf⟩ := fit17_of (app17_fit et)
    rw [et]
    show t.cells.length ≤ 1920
    rw [hf.len]
    exact Nat.mul_le_mul hf.c2 hf.r2
  · rw [app17_none h]
    exact Nat.zero_le _
theorem below_set1 {B : Nat} {a w : World} (hb : Below B a w) (b o : Nat) (u : Value) (h : B ≤ b) : Below B a (w.setCell ⟨b, o, none⟩ u) := hb.setCell (p := ⟨b, o, none⟩) h u
set_option maxRecDepth 100000 in
set_option maxHeartbeats 16000000 in
theorem RunsApplies_walk (w : World) (s : ScD) (A : Option Addr) (n c : Nat) (L : Option Addr) (m cm : Nat) (hs : ScO w s A n c L m cm) (D : Option Addr) (dn dc : Nat) (bs : List UInt8) (hdn : bs.length = dn) (hdr : Rd w D (bs.map bv)) (hdc : dn ≤ dc) (_hdm : dc ≤ maxLen) (hdl : dn ≤ 140737488351232) (hU : TabU w) :
    Calls Tryz.prog 3 #[.agg (scC s A n c L m cm), .slice D dn dc] w fun r w' => r = .returned (.bool true) ∧ Below w.heap.size w w' := by
  have HDM := Lib.hid _hdm
  clear _hdm
  obtain ⟨X, eX⟩ : ∃ X, X = scC s A n c L m cm := ⟨_, rfl⟩
  rw [← eX]
  obtain ⟨W0, eW0⟩ : ∃ W0, W0 = w.alloc (.cells X 25) := ⟨_, rfl⟩
  obtain ⟨p, ep⟩ : ∃ p, p = w.heap.size := ⟨_, rfl⟩
  have hb0 : Below w.heap.size w W0 := by rw [eW0]; exact (Below.refl _ _).alloc (Nat.le_refl _) _
  have HP0 : Hid (ScB W0 p s A n c L m cm) := Lib.hid (by rw [eW0, ep, eX]; exact heap_alloc_new _ _)
  have EW0 := Lib.hid eW0
  have EP := Lib.hid ep
  have HB0 := Lib.hid hb0
  have HS := Lib.hid hs
  have HU := Lib.hid hU
  have HDN := Lib.hid hdn
  have HDR := Lib.hid hdr
  have HDL : Hid (dn ≤ 140737488355328) := Lib.hid (by omega)
  have HDC := Lib.hid hdc
  clear eX eW0 ep hb0 hs hU hdn hdr hdl hdc
  obtain ⟨GB, eGB⟩ : ∃ b, greatB n s.title.size m = b := ⟨_, rfl⟩
  have HGB := Lib.hid eGB
  obtain ⟨bl, el⟩ : ∃ b, decide ((65536 : Int) < (dn : Int)) = b := ⟨_, rfl⟩
  have eln : decide (65536 < dn) = bl := by rw [← el]; exact decide_eq_decide.2 (by omega)
  clear eGB
  go_enter Tryz.func3, Tryz.ntmps3
  go_upto_region 1 with (fail)
  rw [← EW0.out, ← EP.out]
  obtain ⟨T, eT⟩ : ∃ b, (GB || bl) = b := ⟨_, rfl⟩
  have HTT := Lib.hid eT
  clear eT
  go_cut [18] (fun s17 wx => s17 = .bool T ∧ Hid (Below W0.heap.size W0 wx))
  case first =>
    cases GB <;> cases bl <;>
    · go_wp2_with (first
        | (refine wpList_load_row rfl 25 (.tmp 2) rfl p rfl 25 _ (0, 0) _ HP0.out Tryz.underlying25 rfl (info_sc.trans rfl) ?_)
        | (go_at_call 4; (refine (great17_c s A n c L m cm W0).mono ?_); rintro _ w1 ⟨rfl, hb1⟩; rw [HGB.out]; have HB1 := Lib.hid hb1; clear hb1))
      go_meet
      exact ⟨by rw [← HTT.out] <;> rfl, HB1⟩
  case rest =>
  obtain ⟨rfl, hbc⟩ := hcut
  have HBC := Lib.hid (HB0.out.trans (hbc.out.mono HB0.out.size))
  have HPC := Lib.hid (HP0.out.below hbc.out)
  clear hbc el eln
  cases T
  · have hb := HTT.out
    simp only [Bool.or_eq_false_iff] at hb
    obtain ⟨rfl, rfl⟩ := hb
    have HSM := Lib.hid (greatB_no HGB.out)
    have HSO : Hid (Sound s) := Lib.hid (HS.out.sound (by have := HSM.out; omega) (by have := HSM.out; omega) (by have := HSM.out; omega))
    have HRS : Hid (ScR w s A n c L m cm) := Lib.hid (HS.out.small (by have := HSM.out; omega) (by have := HSM.out; omega) (by have := HSM.out; omega))
    have HMO : Hid (0 ≤ s.mouse) := Lib.hid HS.out.b6.1
    obtain ⟨t, E, eZ⟩ : ∃ t E, app17 s bs = (t, E) := ⟨_, _, rfl⟩
    have HZ := Lib.hid eZ
    clear eZ
    go_upto_region 4 with (first
      | (refine wpList_load_row rfl 25 (.tmp 2) rfl p rfl 25 _ (0, 0) _ HPC.out Tryz.underlying25 rfl (info_sc.trans rfl) ?_)
      | (go_at_call 6; (refine (refCopyS_c s A n c L m cm wc (HRS.out.below HBC.out)).mono ?_); rintro _ w2 ⟨A2, c2, L2, d2, rfl, ho2, ht2, _, hb2⟩; have HB2 := Lib.hid (HBC.out.trans (hb2.mono HBC.out.size)); have HP2 := Lib.hid (HPC.out.below hb2); have HR2 : Hid (ScR w2 s A2 n c2 L2 m d2) := Lib.hid (HSO.out.read ho2 ht2); clear ho2 ht2 hb2)
      | (go_at_call 7; (refine (Copy_c D dn dc bs w2 HDN.out (HDR.out.below HB2.out) HDL.out).mono ?_); rintro _ w3 ⟨vb, rfl, hob, hb3⟩; obtain ⟨Ab, cb, rfl, _, _, hrb, _⟩ := OwnB.form hob; have HB3 := Lib.hid (HB2.out.trans (hb3.mono HB2.out.size)); have HP3 := Lib.hid (HP2.out.below hb3); have HR3 := Lib.hid (HR2.out.below hb3); have HRB3 := Lib.hid hrb; clear hob hrb hb3)
      | (refine wpList_store_rowTo rfl 25 (.tmp 5) (.tmp 21) rfl rfl w3.heap.size (scC s A2 n c2 L2 m d2) rfl rfl 25 _ (heap_alloc_new w3 _) (info_sc.trans rfl) rfl (sc_one _ _ _ _ _ _ _) ?_))
    generalize eXX : World.alloc w3 _ = XX
    have hx : Below w3.heap.size w3 XX := by rw [← eXX]; exact (Below.refl _ _).alloc (Nat.le_refl _) _
    obtain ⟨old, hq2⟩ : ∃ old, XX.heap[w3.heap.size]? = some (.cells old 25 (0, 0)) := ⟨_, by rw [← eXX]; exact heap_alloc_new _ _⟩
    obtain ⟨g5, eg⟩ : ∃ g, g = w3.heap.size := ⟨_, rfl⟩
    obtain ⟨W4, eWW⟩ : ∃ W, W = XX.setRow w3.heap.size (scC s A2 n c2 L2 m d2) := ⟨_, rfl⟩
    rw [← eWW, ← eg]
    have HG4 : Hid (ScB W4 g5 s A2 n c2 L2 m d2) := Lib.hid (by rw [eWW, eg]; exact setRow_heap _ _ _ _ _ _ hq2)
    have hbs : Below w3.heap.size w3 W4 := by rw [eWW]; exact below_setRow hx (Nat.le_refl _) _
    have EGg5 := Lib.hid eg
    clear eXX hx hq2 eg eWW
    have HB4 := Lib.hid (HB3.out.trans (hbs.mono HB3.out.size))
    have HP4 := Lib.hid (HP3.out.below hbs)
    have HR4 := Lib.hid (HR3.out.below hbs)
    have HRB4 := Lib.hid (HRB3.out.below hbs)
    clear hbs
    go_upto_region 5 with (first
      | (refine wpList_load_row rfl 25 (.tmp 5) rfl g5 rfl 25 _ (0, 0) _ HG4.out Tryz.underlying25 rfl (info_sc.trans rfl) ?_)
      | (go_at_call 8; (refine (apply17_c s A2 n c2 L2 m d2 Ab bs.length cb bs W4 HR4.out rfl HRB4.out (by { rw [HDN.out]; exact HDL.out }) (HU.out.next HB4.out)).mono ?_); rw [HZ.out]; rintro _ w6 ⟨⟨A6, n6, c6, L6, d6, rfl, ho6, hl6, hb6⟩, _⟩; have HO6 := Lib.hid ho6; have HLK := Lib.hid hl6; have HK6 := Lib.hid hb6; clear ho6 hl6 hb6)
      | (refine wpList_store_rowTo rfl 25 (.tmp 7) (.tmp 28) rfl rfl w6.heap.size (scC t A6 n6 c6 L6 0 d6) rfl rfl 25 _ (heap_alloc_new w6 _) (info_sc.trans rfl) rfl (sc_one _ _ _ _ _ _ _) ?_))
    generalize eXX : World.alloc w6 _ = XX
    have hx : Below w6.heap.size w6 XX := by rw [← eXX]; exact (Below.refl _ _).alloc (Nat.le_refl _) _
    obtain ⟨old, hq2⟩ : ∃ old, XX.heap[w6.heap.size]? = some (.cells old 25 (0, 0)) := ⟨_, by rw [← eXX]; exact heap_alloc_new _ _⟩
    obtain ⟨g7, eg⟩ : ∃ g, g = w6.heap.size := ⟨_, rfl⟩
    obtain ⟨W7, eWW⟩ : ∃ W, W = XX.setRow w6.heap.size (scC t A6 n6 c6 L6 0 d6) := ⟨_, rfl⟩
    rw [← eWW, ← eg]
    have HG7 : Hid (ScB W7 g7 t A6 n6 c6 L6 0 d6) := Lib.hid (by rw [eWW, eg]; exact setRow_heap _ _ _ _ _ _ hq2)
    have hbs : Below w6.heap.size w6 W7 := by rw [eWW]; exact below_setRow hx (Nat.le_refl _) _
    have EGg7 := Lib.hid eg
    clear eXX hx hq2 eg eWW
    have HK7 : Hid (Below W4.heap.size W4 W7) := Lib.hid (HK6.out.trans (hbs.mono HK6.out.size))
    have HO7 := Lib.hid (OwnC.below HO6.out hbs)
    have HB7 := Lib.hid (HB4.out.trans (HK7.out.mono HB4.out.size))
    have HP7 := Lib.hid (HP4.out.below HK7.out)
    clear hbs
    go_upto_region 6 with (first
      | (refine wpList_load_row rfl 25 (.tmp 2) rfl p rfl 25 _ (0, 0) _ HP7.out Tryz.underlying25 rfl (info_sc.trans rfl) ?_)
      | (go_at_call 9; (refine (refApply17_c s A n c L m cm D dn dc bs W7 (HRS.out.below HB7.out) HDN.out (HDR.out.below HB7.out) HDL.out HDC.out HDM.out (HU.out.next HB7.out)).mono ?_); rw [HZ.out]; rintro _ w8 ⟨A8, n8, c8, L8, d8, rfl, ho8, hl8, hb8⟩; have HO8 := Lib.hid ho8; have HK8 := Lib.hid hb8; have HG8 := Lib.hid (HG7.out.below hb8); have HO78 := Lib.hid (OwnC.below HO7.out hb8); clear ho8 hl8 hb8)
      | (refine wpList_store_rowTo rfl 25 (.tmp 9) (.tmp 34) rfl rfl w8.heap.size (scC t A8 n8 c8 L8 0 d8) rfl rfl 25 _ (heap_alloc_new w8 _) (info_sc.trans rfl) rfl (sc_one _ _ _ _ _ _ _) ?_))
    generalize eXX : World.alloc w8 _ = XX
    have hx : Below w8.heap.size w8 XX := by rw [← eXX]; exact (Below.refl _ _).alloc (Nat.le_refl _) _
    obtain ⟨old, hq2⟩ : ∃ old, XX.heap[w8.heap.size]? = some (.cells old 25 (0, 0)) := ⟨_, by rw [← eXX]; exact heap_alloc_new _ _⟩
    obtain ⟨g9, eg⟩ : ∃ g, g = w8.heap.size := ⟨_, rfl⟩
    obtain ⟨W9, eWW⟩ : ∃ W, W = XX.setRow w8.heap.size (scC t A8 n8 c8 L8 0 d8) := ⟨_, rfl⟩
    rw [← eWW, ← eg]
    have HH9 : Hid (ScB W9 g9 t A8 n8 c8 L8 0 d8) := Lib.hid (by rw [eWW, eg]; exact setRow_heap _ _ _ _ _ _ hq2)
    have hbs : Below w8.heap.size w8 W9 := by rw [eWW]; exact below_setRow hx (Nat.le_refl _) _
    have EGg9 := Lib.hid eg
    clear eXX hx hq2 eg eWW
    have HK9 : Hid (Below W7.heap.size W7 W9) := Lib.hid (HK8.out.trans (hbs.mono HK8.out.size))
    have HQ9 : Hid (Below W4.heap.size W4 W9) := Lib.hid (HK7.out.trans (HK9.out.mono HK7.out.size))
    have HB9 := Lib.hid (HB7.out.trans (HK9.out.mono HB7.out.size))
    have HG9 := Lib.hid (HG8.out.below hbs)
    have HO9 := Lib.hid (OwnC.below HO78.out hbs)
    have HO89 := Lib.hid (OwnC.below HO8.out hbs)
    have HO6c := Lib.hid HO6.out
    clear hbs HO6 HO7 HO78 HO8 HG8 HG7
    have z1 : ((E : Int) != (E : Int)) = false := by rw [bne_eq_false_iff_eq]
    have HML : Hid (bs.length ≤ maxLen) := Lib.hid (by rw [HDN.out]; have := HDL.out; unfold maxLen; omega)
    have HOL := Lib.hid HO6c.out.parts
    have HNL : Hid (n6 ≤ 140737488355328) := Lib.hid (by have h := HO9.out.parts.1; have h2 := app17_small s bs; rw [HZ.out] at h2; simp only [] at h2; omega)
    go_upto_region 8 with (first
      | (go_at_call 5; (refine (fixed17_c W9 (HU.out.next HB9.out)).mono ?_); rintro _ wa ⟨rfl, hba⟩; have HQA := Lib.hid (HQ9.out.trans (hba.mono HQ9.out.size)); have HGA := Lib.hid (HG9.out.below hba); have HHA := Lib.hid (HH9.out.below hba); have HOA := Lib.hid (OwnC.below HO9.out hba); have HOB := Lib.hid (OwnC.below HO89.out hba); clear hba)
      | ((with_reducible refine wpList_openG (o := ⟨some 44, _, _, _, _, _⟩) rfl ?_); (refine wpList_load_row rfl 25 (.tmp 7) rfl g7 rfl 25 _ (0, 0) _ HGA.out Tryz.underlying25 rfl (info_sc.trans rfl) ?_))
      | ((with_reducible refine wpList_openG (o := ⟨some 45, _, _, _, _, _⟩) rfl ?_); (refine wpList_load_row rfl 25 (.tmp 9) rfl g9 rfl 25 _ (0, 0) _ HHA.out Tryz.underlying25 rfl (info_sc.trans rfl) ?_))
      | (go_at_call 10; (refine (refSameS_c t A6 n6 c6 L6 0 d6 t A8 n8 c8 L8 0 d8 wa HOA.out.parts.1 HOA.out.parts.2.1 (by { rw [HLK.out]; rfl }) (by { rw [HLK.out]; exact .inl rfl }) HOB.out.parts.1 HOB.out.parts.2.1 (by { rw [HLK.out]; rfl }) (by { rw [HLK.out]; exact .inl rfl }) HNL.out (by omega)).mono ?_); rintro _ wb ⟨rfl, hbb⟩; rw [sameS_self]; have HQB := Lib.hid (HQA.out.trans (hbb.mono HQA.out.size)); have HGB' := Lib.hid (HGA.out.below hbb); have HOC := Lib.hid (OwnC.below HOA.out hbb); clear hbb))
    have HGL : Hid (g7 = w6.heap.size ∧ W4.heap.size ≤ w6.heap.size) := Lib.hid ⟨EGg7.out, HK6.out.size⟩
    have HLA : Hid (∀ a, A6 = some a → W4.heap.size ≤ a.block ∧ a.block < w6.heap.size) := Lib.hid (fun a e => by have h := HOL.out.2.2.2.1 a e; exact ⟨h.1, h.2.1⟩)
    have x2 : wb.cell? ⟨g7, 2, none⟩ = some (.slice A6 n6 c6) := HGB'.out.nine.2.2.1
    clear z1
    go_wp2_with (fail)
    clear x2
    go_loopw [52] (fun i wr => ∃ (k : Nat) (ds : List CeD), k ≤ n6 ∧ i = .int .i64 (k : Int) ∧ Hid (ds.length = n6) ∧ Hid (OwnC wr W4.heap.size (.slice A6 n6 c6) ds) ∧ Hid (ScB wr g7 t A6 n6 c6 L6 0 d6) ∧ Hid (Below W4.heap.size W4 wr)) (fun i _ => n6 - (intOf i).toNat)
    case atStart => exact ⟨0, t.cells, Nat.zero_le _, rfl, Lib.hid HOC.out.parts.1, HOC, HGB', HQB⟩
    case round =>
      obtain ⟨k, ds, hk, rfl, HDS, HO, HH, HK⟩ := hrel
      have hn6 : n6 ≤ 140737488355328 := HNL.out
      have x2 : wr.cell? ⟨g7, 2, none⟩ = some (.slice A6 n6 c6) := HH.out.nine.2.2.1
      rcases Nat.lt_or_ge k n6 with hlt | hge
      · have hlt' : (k : Int) < (n6 : Int) := by omega
        obtain ⟨b, rfl⟩ := own_at2 HO.out (by rw [HDS.out]; omega)
        have hkl : k < ds.length := by rw [HDS.out]; exact hlt
        obtain ⟨r0, er⟩ : ∃ r, ds[k].r = r := ⟨_, rfl⟩
        have z0 : wr.cell? ⟨b, k * 6, none⟩ = some (.int .i32 r0) := by rw [← er]; exact (HO.out.six k hkl).1
        have f0 := HO.out.free (k * 6)
        have HBL : Hid (W4.heap.size ≤ b ∧ b ≠ g7) := Lib.hid (by have h := HLA.out _ rfl; have h2 := HGL.out.1; have h3 : b < w6.heap.size := h.2; exact ⟨h.1, by omega⟩)
        have HKL := Lib.hid hkl
        clear hkl er
        go_upto_region 12 with (fail)
        generalize eW8 : World.setCell wr ⟨b, k * 6, none⟩ _ = W8
        have HE8 : Hid (∃ x, W8 = wr.setCell ⟨b, k * 6, none⟩ (.int .i32 x)) := Lib.hid ⟨_, eW8.symm⟩
        clear eW8 z0 f0 x2
        have HO8 : Hid (∃ ds', ds'.length = n6 ∧ OwnC W8 W4.heap.size (.slice (some ⟨b, 0, none⟩) n6 c6) ds') := Lib.hid (by
          obtain ⟨x, e⟩ := HE8.out
          rw [e]
          exact ⟨_, by rw [List.length_set]; exact HDS.out, HO.out.rune k HKL.out x⟩)
        obtain ⟨ds', hl', ho'⟩ := HO8.out
        have HO9 := Lib.hid ho'
        have HL9 := Lib.hid hl'
        have HH9 : Hid (ScB W8 g7 t (some ⟨b, 0, none⟩) n6 c6 L6 0 d6) := Lib.hid (by obtain ⟨x, e⟩ := HE8.out; rw [e]; exact (heap_far _ (fun e2 => HBL.out.2 e2.symm)).trans HH.out)
        have HK9 : Hid (Below W4.heap.size W4 W8) := Lib.hid (by obtain ⟨x, e⟩ := HE8.out; rw [e]; exact below_set1 HK.out b _ _ HBL.out.1)
        clear ho' hl' HO8 HE8
        go_wp2_with (fail)
        go_roundw
        case rel => exact ⟨k + 1, ds', by omega, by go_num, HL9, HO9, HH9, HK9⟩
        case measure => simp [intOf]; omega
      · obtain rfl : k = n6 := by omega
        have HBZ := Lib.hid (HB4.out.trans (HK.out.mono HB4.out.size))
        have HGZ := Lib.hid (HG4.out.below HK.out)
        have HPZ := Lib.hid (HP4.out.below HK.out)
        have HRX := Lib.hid (HR4.out.below HK.out)
        have HRY := Lib.hid (HRS.out.below HBZ.out)
        have HRBZ := Lib.hid (HRB4.out.below HK.out)
        have HDZ := Lib.hid (HDR.out.below HBZ.out)
        clear x2
        go_wp2_with (first
          | (refine wpList_load_row rfl 25 (.tmp 5) rfl g5 rfl 25 _ (0, 0) _ HGZ.out Tryz.underlying25 rfl (info_sc.trans rfl) ?_)
          | (refine wpList_load_row rfl 25 (.tmp 2) rfl p rfl 25 _ (0, 0) _ HPZ.out Tryz.underlying25 rfl (info_sc.trans rfl) ?_)
          | (go_at_call 10; (with_reducible refine (same_c s s A2 n c2 L2 m d2 A n c L m cm wr HRX.out HRY.out).mono ?_); rintro _ wy ⟨rfl, hby⟩; rw [sameS_self]; have HBY := Lib.hid (HBZ.out.trans (hby.mono HBZ.out.size)); have HRBY := Lib.hid (HRBZ.out.below hby); have HDY := Lib.hid (HDZ.out.below hby); clear hby)
          | (go_at_call 11; (with_reducible refine (Same_t Ab D bs.length dn cb dc bs wy rfl HDN.out HRBY.out HDY.out HML.out).mono ?_); rintro _ wz ⟨rfl, q9, rfl⟩))
        go_ret
        exact ⟨rfl, below_drewN HBY.out _⟩
  · go_wp2_with (first
      | (go_at_call 5; (refine (fixed17_c wc (HU.out.next HBC.out)).mono ?_); rintro _ w9 ⟨rfl, hb9⟩; have HB9 := Lib.hid (HBC.out.trans (hb9.mono HBC.out.size)); clear hb9))
    go_ret
    exact ⟨rfl, HB9.out⟩
end Go.Proofs.YtndjggabdajbfaaGreatDoor


