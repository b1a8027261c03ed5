/- Parts one behind the other: What Full and Encode (16) answer, the code's and the reference's; Plain: to which screen a diff by rows leads; that a diff laid leads where it should; that a diff cut off leads nowhere; Plain: from a screen to itself with another cursor no row is told; the chapter's example by rows. Conditions: as told at each. -/
import Derived.Test.YtipofokinjkclaaDoorPC23
import Derived.Test.YtipofokinjkclaaDoorPC18
import Derived.Test.YtipofokinjkclaaDoorPC19
import Derived.Test.YtipofokinjkclaaDoorPC24
import Derived.Test.YtipofokinjkclaaDoorPC20
import Derived.Test.YtipofokinjkclaaDoorPC17

set_option linter.unusedVariables false
set_option linter.unusedSimpArgs false
/- What Full and Encode (16) answer, the code's and the reference's. Conditions: the screens' parts can be read; the tables lie where they were laid. -/
namespace Go.Proofs.YtipofokinjkclaaDoor
open Go Go.RowKit Go.Lib

theorem Fit16.cen {s : ScD} {C R : Nat} (h : Fit16 s C R) (hc : ∀ d ∈ s.cells, CeOk d) : ∀ d ∈ s.cells, CeN d := fun d hd => by
  have h1 := h.rune d hd
  obtain ⟨_, _, h2, h3⟩ := h.ce d hd
  obtain ⟨_, _, ⟨g1, _⟩, ⟨g2, _⟩, ⟨g3, g4⟩, _⟩ := hc d hd
  exact ⟨by omega, h1.2, g1, by omega, g2, by omega, g3, g4⟩
theorem Fit16.fits {s : ScD} {C R : Nat} (h : Fit16 s C R) : fitsI (C : Int) (R : Int) = true := by
  have h1 := h.c1; have h2 := h.c2; have h3 := h.r1; have h4 := h.r2
  simp only [fitsI, Bool.and_eq_true, decide_eq_true_eq]
  omega
theorem blank_sound16 {C R : Nat} (h : fitsI (C : Int) (R : Int) = true) : Sound (blankS C R) := by
  have hn := fitsI_nat h
  obtain ⟨C', R', e1, e2, c1, c2, r1, r2⟩ := hn
  have hm := Nat.mul_le_mul (show C ≤ 80 by omega) (show R ≤ 24 by omega)
  have e : ((C : Int) * (R : Int)).toNat = C * R := by rw [← Int.natCast_mul]; rfl
  have mem : ∀ d ∈ (blankS C R).cells, d = blankD := fun d hd => List.eq_of_mem_replicate hd
  exact ⟨by show (List.replicate ((C : Int) * (R : Int)).toNat blankD).length ≤ 60000; rw [List.length_replicate, e]; omega, Nat.zero_le _, fun u hu => (by cases hu), fun d hd => by rw [mem d hd]; decide, Nat.zero_le _, fun d hd => by rw [mem d hd]; decide⟩
theorem blank_read16 {w : World} {B C R N c : Nat} {A : Option Addr} (hf : fitsI (C : Int) (R : Int) = true) (hN : N = C * R) (h : OwnC w B (.slice A N c) (List.replicate N blankD)) : ScR w (blankS C R) A N c none 0 0 := by
  have e : ((C : Int) * (R : Int)).toNat = N := by rw [← Int.natCast_mul, hN]; rfl
  have h2 : OwnC w B (.slice A N c) (blankS C R).cells := by
    show OwnC w B (.slice A N c) (List.replicate ((C : Int) * (R : Int)).toNat blankD)
    rw [e]; exact h
  exact (blank_sound16 hf).read h2 (World.ownsRow_nil _ 0 _ _)
set_option maxRecDepth 100000 in
set_option maxHeartbeats 16000000 in
theorem full16_c (b : ScD) (A : Option Addr) (n c : Nat) (L : Option Addr) (m cm : Nat) (w : World) (hs : ScR w b A n c L m cm) (hc : ∀ d ∈ b.cells, CeOk d) (hU : TabU w) :
    Calls Tryd.prog 22 #[.agg (scC b A n c L m cm)] w fun e w' => ∃ v, e = .returned (.tuple #[v, .int .i64 ((full16 b).2 : Int)]) ∧ OwnB w' w.heap.size v (full16 b).1 ∧ Below w.heap.size w w' := by
  obtain ⟨X, eX⟩ : ∃ X, X = scC b A n c L m cm := ⟨_, rfl⟩
  rw [← eX]
  obtain ⟨W0, eW0⟩ : ∃ W0, W0 = w.alloc (.cells X 25) := ⟨_, rfl⟩
  obtain ⟨p, ep⟩ : ∃ p, p = w.heap.size := ⟨_, rfl⟩
  have hb0 : Below w.heap.size w W0 := by rw [eW0]; exact (Below.refl _ _).alloc (Nat.le_refl _) _
  have HP0 : Hid (ScB W0 p b A n c L m cm) := Lib.hid (by rw [eW0, ep, eX]; exact heap_alloc_new _ _)
  have EW0 := Lib.hid eW0
  have EP := Lib.hid ep
  have HB0 := Lib.hid hb0
  have HR0 := Lib.hid (hs.below hb0)
  have HU0 := Lib.hid (hU.next hb0)
  have HCO := Lib.hid hc
  obtain ⟨Z, eZ⟩ : ∃ Z, full16 b = Z := ⟨_, rfl⟩
  rw [eZ]
  unfold full16 at eZ
  clear eX eW0 ep hb0 hs hU hc
  obtain ⟨b1, e1⟩ : ∃ t, fit16 b = t := ⟨_, rfl⟩
  rw [e1] at eZ
  have E1 := Lib.hid e1
  have EZ := Lib.hid eZ
  clear eZ e1
  go_enter Tryd.func22, Tryd.ntmps22
  go_upto_region 1 with (fail)
  rw [← EW0.out, ← EP.out]
  cases b1
  · go_wp2_with (first
      | (refine wpList_load_row rfl 25 (.tmp 1) rfl p rfl 25 _ (0, 0) _ HP0.out Tryd.underlying25 rfl (info_sc.trans rfl) ?_)
      | (go_at_call 25; (refine (fits16_c b A n c L m cm W0 HR0.out  HU0.out).mono ?_); rintro _ w1 ⟨rfl, hb1⟩; rw [E1.out]; have HB1 := Lib.hid (HB0.out.trans (hb1.mono HB0.out.size)); clear hb1))
    go_ret2
    exact ⟨_, by rw [← EZ.out] <;> rfl, by rw [← EZ.out]; exact Own.nil_ _ _ _, HB1.out⟩
  · obtain ⟨C, R, hf⟩ := fit16_of E1.out
    have HF := Lib.hid hf
    have HFI := Lib.hid hf.fits
    obtain ⟨N, eN⟩ : ∃ N, N = C * R := ⟨_, rfl⟩
    have HN := Lib.hid eN
    have HZ : Hid ((layB (blankS C R) b 4, 0) = Z) := Lib.hid (by rw [← EZ.out, hf.c, hf.r]; rfl)
    clear hf eN
    go_upto_region 4 with (first
      | (refine wpList_load_row rfl 25 (.tmp 1) rfl p rfl 25 _ (0, 0) _ HP0.out Tryd.underlying25 rfl (info_sc.trans rfl) ?_)
      | (go_at_call 25; (refine (fits16_c b A n c L m cm W0 HR0.out  HU0.out).mono ?_); rintro _ w1 ⟨rfl, hb1⟩; rw [E1.out]; have HB1 := Lib.hid (HB0.out.trans (hb1.mono HB0.out.size)); have HR1 := Lib.hid (HR0.out.below hb1); have HP1 := Lib.hid (HP0.out.below hb1); have x0 : w1.cell? ⟨p, 0, none⟩ = some (.int .i64 (C : Int)) := by { rw [← HF.out.c]; exact HP1.out.nine.1 }; have x1 : w1.cell? ⟨p, 1, none⟩ = some (.int .i64 (R : Int)) := by { rw [← HF.out.r]; exact HP1.out.nine.2.1 }; clear hb1)
      | (go_at_call 34; (refine (projBlank_c C R N w1 HFI.out HN.out).mono ?_); rintro _ w2 ⟨A2, c2, rfl, ho2, hb2⟩; have HS2 := Lib.hid (blank_read16 HFI.out HN.out ho2); have HB2 := Lib.hid (HB1.out.trans (hb2.mono HB1.out.size)); have HR2 := Lib.hid (HR1.out.below hb2); have HP2 := Lib.hid (HP1.out.below hb2); clear ho2 hb2)
      | (refine wpList_store_rowTo rfl 25 (.tmp 4) (.tmp 15) rfl rfl w2.heap.size (scC (blankS C R) A2 N c2 none 0 0) rfl rfl 25 _ (heap_alloc_new w2 _) (info_sc.trans rfl) rfl (sc_one _ _ _ _ _ _ _) ?_))
    generalize eX : World.alloc w2 _ = X3
    have hx : Below w2.heap.size w2 X3 := by rw [← eX]; exact (Below.refl _ _).alloc (Nat.le_refl _) _
    obtain ⟨old, hq2⟩ : ∃ old, X3.heap[w2.heap.size]? = some (.cells old 25 (0, 0)) := ⟨_, by rw [← eX]; exact heap_alloc_new _ _⟩
    obtain ⟨g, eg⟩ : ∃ g, g = w2.heap.size := ⟨_, rfl⟩
    obtain ⟨W3, eW3⟩ : ∃ W, W = X3.setRow w2.heap.size (scC (blankS C R) A2 N c2 none 0 0) := ⟨_, rfl⟩
    rw [← eW3, ← eg]
    have HG3 : Hid (ScB W3 g (blankS C R) A2 N c2 none 0 0) := Lib.hid (by rw [eW3, eg]; exact setRow_heap _ _ _ _ _ _ hq2)
    have hb3 : Below w2.heap.size w2 W3 := by rw [eW3]; exact below_setRow hx (Nat.le_refl _) _
    have HB3 := Lib.hid (HB2.out.trans (hb3.mono HB2.out.size))
    have HS3 := Lib.hid (HS2.out.below hb3)
    have HR3 := Lib.hid (HR2.out.below hb3)
    have HP3 := Lib.hid (HP2.out.below hb3)
    clear eX hx hq2 eg eW3 hb3 x0 x1
    go_wp2_with (first
      | (refine wpList_load_row rfl 25 (.tmp 4) rfl g rfl 25 _ (0, 0) _ HG3.out Tryd.underlying25 rfl (info_sc.trans rfl) ?_)
      | (refine wpList_load_row rfl 25 (.tmp 1) rfl p rfl 25 _ (0, 0) _ HP3.out Tryd.underlying25 rfl (info_sc.trans rfl) ?_)
      | (go_at_call 48; (refine (lay_c (blankS C R) b A2 N c2 none 0 0 A n c L m cm C R 4 W3 HS3.out HR3.out HF.out (HF.out.cen HCO.out) (by rw [HS3.out.hn, HN.out]) (by decide)).mono ?_); rintro _ w4 ⟨v4, rfl, ho4, hb4⟩; have HO4 := Lib.hid (Own.low ho4 HB3.out.size); have HB4 := Lib.hid (HB3.out.trans (hb4.mono HB3.out.size)); clear ho4 hb4))
    go_ret2
    exact ⟨_, by rw [← HZ.out] <;> rfl, by rw [← HZ.out]; exact HO4.out, HB4.out⟩
set_option maxRecDepth 100000 in
set_option maxHeartbeats 16000000 in
theorem refFull16_c (b : ScD) (A : Option Addr) (n c : Nat) (L : Option Addr) (m cm : Nat) (w : World) (hs : ScR w b A n c L m cm) (hc : ∀ d ∈ b.cells, CeOk d) (hm : 0 ≤ b.mouse) (hU : TabU w) :
    Calls Tryd.prog 23 #[.agg (scC b A n c L m cm)] w fun e w' => ∃ v, e = .returned (.tuple #[v, .int .i64 ((full16 b).2 : Int)]) ∧ OwnB w' w.heap.size v (full16 b).1 ∧ Below w.heap.size w w' := by
  obtain ⟨X, eX⟩ : ∃ X, X = scC b A n c L m cm := ⟨_, rfl⟩
  rw [← eX]
  obtain ⟨W0, eW0⟩ : ∃ W0, W0 = w.alloc (.cells X 25) := ⟨_, rfl⟩
  obtain ⟨p, ep⟩ : ∃ p, p = w.heap.size := ⟨_, rfl⟩
  have hb0 : Below w.heap.size w W0 := by rw [eW0]; exact (Below.refl _ _).alloc (Nat.le_refl _) _
  have HP0 : Hid (ScB W0 p b A n c L m cm) := Lib.hid (by rw [eW0, ep, eX]; exact heap_alloc_new _ _)
  have EW0 := Lib.hid eW0
  have EP := Lib.hid ep
  have HB0 := Lib.hid hb0
  have HR0 := Lib.hid (hs.below hb0)
  have HU0 := Lib.hid (hU.next hb0)
  have HCO := Lib.hid hc
  have HMO := Lib.hid hm
  clear hm
  obtain ⟨Z, eZ⟩ : ∃ Z, full16 b = Z := ⟨_, rfl⟩
  rw [eZ]
  unfold full16 at eZ
  clear eX eW0 ep hb0 hs hU hc
  obtain ⟨b1, e1⟩ : ∃ t, fit16 b = t := ⟨_, rfl⟩
  rw [e1] at eZ
  have E1 := Lib.hid e1
  have EZ := Lib.hid eZ
  clear eZ e1
  go_enter Tryd.func23, Tryd.ntmps23
  go_upto_region 1 with (fail)
  rw [← EW0.out, ← EP.out]
  cases b1
  · go_wp2_with (first
      | (refine wpList_load_row rfl 25 (.tmp 1) rfl p rfl 25 _ (0, 0) _ HP0.out Tryd.underlying25 rfl (info_sc.trans rfl) ?_)
      | (go_at_call 26; (refine (refFits16_c b A n c L m cm W0 HR0.out HMO.out HU0.out).mono ?_); rintro _ w1 ⟨rfl, hb1⟩; rw [E1.out]; have HB1 := Lib.hid (HB0.out.trans (hb1.mono HB0.out.size)); clear hb1))
    go_ret2
    exact ⟨_, by rw [← EZ.out] <;> rfl, by rw [← EZ.out]; exact Own.nil_ _ _ _, HB1.out⟩
  · obtain ⟨C, R, hf⟩ := fit16_of E1.out
    have HF := Lib.hid hf
    have HFI := Lib.hid hf.fits
    obtain ⟨N, eN⟩ : ∃ N, N = C * R := ⟨_, rfl⟩
    have HN := Lib.hid eN
    have HZ : Hid ((layB (blankS C R) b 4, 0) = Z) := Lib.hid (by rw [← EZ.out, hf.c, hf.r]; rfl)
    clear hf eN
    go_upto_region 4 with (first
      | (refine wpList_load_row rfl 25 (.tmp 1) rfl p rfl 25 _ (0, 0) _ HP0.out Tryd.underlying25 rfl (info_sc.trans rfl) ?_)
      | (go_at_call 26; (refine (refFits16_c b A n c L m cm W0 HR0.out HMO.out HU0.out).mono ?_); rintro _ w1 ⟨rfl, hb1⟩; rw [E1.out]; have HB1 := Lib.hid (HB0.out.trans (hb1.mono HB0.out.size)); have HR1 := Lib.hid (HR0.out.below hb1); have HP1 := Lib.hid (HP0.out.below hb1); have x0 : w1.cell? ⟨p, 0, none⟩ = some (.int .i64 (C : Int)) := by { rw [← HF.out.c]; exact HP1.out.nine.1 }; have x1 : w1.cell? ⟨p, 1, none⟩ = some (.int .i64 (R : Int)) := by { rw [← HF.out.r]; exact HP1.out.nine.2.1 }; clear hb1)
      | (go_at_call 35; (refine (refBlank15_c C R N w1 HFI.out HN.out).mono ?_); rintro _ w2 ⟨A2, c2, rfl, ho2, hb2⟩; have HS2 := Lib.hid (blank_read16 HFI.out HN.out ho2); have HB2 := Lib.hid (HB1.out.trans (hb2.mono HB1.out.size)); have HR2 := Lib.hid (HR1.out.below hb2); have HP2 := Lib.hid (HP1.out.below hb2); clear ho2 hb2)
      | (refine wpList_store_rowTo rfl 25 (.tmp 4) (.tmp 15) rfl rfl w2.heap.size (scC (blankS C R) A2 N c2 none 0 0) rfl rfl 25 _ (heap_alloc_new w2 _) (info_sc.trans rfl) rfl (sc_one _ _ _ _ _ _ _) ?_))
    generalize eX : World.alloc w2 _ = X3
    have hx : Below w2.heap.size w2 X3 := by rw [← eX]; exact (Below.refl _ _).alloc (Nat.le_refl _) _
    obtain ⟨old, hq2⟩ : ∃ old, X3.heap[w2.heap.size]? = some (.cells old 25 (0, 0)) := ⟨_, by rw [← eX]; exact heap_alloc_new _ _⟩
    obtain ⟨g, eg⟩ : ∃ g, g = w2.heap.size := ⟨_, rfl⟩
    obtain ⟨W3, eW3⟩ : ∃ W, W = X3.setRow w2.heap.size (scC (blankS C R) A2 N c2 none 0 0) := ⟨_, rfl⟩
    rw [← eW3, ← eg]
    have HG3 : Hid (ScB W3 g (blankS C R) A2 N c2 none 0 0) := Lib.hid (by rw [eW3, eg]; exact setRow_heap _ _ _ _ _ _ hq2)
    have hb3 : Below w2.heap.size w2 W3 := by rw [eW3]; exact below_setRow hx (Nat.le_refl _) _
    have HB3 := Lib.hid (HB2.out.trans (hb3.mono HB2.out.size))
    have HS3 := Lib.hid (HS2.out.below hb3)
    have HR3 := Lib.hid (HR2.out.below hb3)
    have HP3 := Lib.hid (HP2.out.below hb3)
    clear eX hx hq2 eg eW3 hb3 x0 x1
    go_wp2_with (first
      | (refine wpList_load_row rfl 25 (.tmp 4) rfl g rfl 25 _ (0, 0) _ HG3.out Tryd.underlying25 rfl (info_sc.trans rfl) ?_)
      | (refine wpList_load_row rfl 25 (.tmp 1) rfl p rfl 25 _ (0, 0) _ HP3.out Tryd.underlying25 rfl (info_sc.trans rfl) ?_)
      | (go_at_call 49; (refine (diff_c (blankS C R) b A2 N c2 none 0 0 A n c L m cm C R 4 W3 HS3.out HR3.out HF.out (HF.out.cen HCO.out) (by rw [HS3.out.hn, HN.out]) (by decide)).mono ?_); rintro _ w4 ⟨v4, rfl, ho4, hb4⟩; have HO4 := Lib.hid (Own.low ho4 HB3.out.size); have HB4 := Lib.hid (HB3.out.trans (hb4.mono HB3.out.size)); clear ho4 hb4))
    go_ret2
    exact ⟨_, by rw [← HZ.out] <;> rfl, by rw [← HZ.out]; exact HO4.out, HB4.out⟩
set_option maxRecDepth 100000 in
set_option maxHeartbeats 16000000 in
theorem enc16_c (a b : ScD) (A1 : Option Addr) (n1 c1 : Nat) (L1 : Option Addr) (m1 k1 : Nat) (A : Option Addr) (n c : Nat) (L : Option Addr) (m cm : Nat) (w : World) (ha : ScR w a A1 n1 c1 L1 m1 k1) (hs : ScR w b A n c L m cm) (hc : ∀ d ∈ b.cells, CeOk d) (hU : TabU w) :
    Calls Tryd.prog 20 #[.agg (scC a A1 n1 c1 L1 m1 k1), .agg (scC b A n c L m cm)] w fun e w' => ∃ v, e = .returned (.tuple #[v, .int .i64 ((enc16 a b).2 : Int)]) ∧ OwnB w' w.heap.size v (enc16 a b).1 ∧ Below w.heap.size w w' := by
  obtain ⟨X, eX⟩ : ∃ X, X = scC a A1 n1 c1 L1 m1 k1 := ⟨_, rfl⟩
  obtain ⟨Y, eY⟩ : ∃ Y, Y = scC b A n c L m cm := ⟨_, rfl⟩
  rw [← eX, ← eY]
  obtain ⟨W0, eW0⟩ : ∃ W0, W0 = (w.alloc (.cells X 25)).alloc (.cells Y 25) := ⟨_, rfl⟩
  obtain ⟨p, ep⟩ : ∃ p, p = w.heap.size := ⟨_, rfl⟩
  obtain ⟨q, eq⟩ : ∃ q, q = w.heap.size + 1 := ⟨_, rfl⟩
  have hb0 : Below w.heap.size w W0 := by rw [eW0]; exact ((Below.refl _ _).alloc (Nat.le_refl _) _).alloc (by simp) _
  have HP0 : Hid (ScB W0 p a A1 n1 c1 L1 m1 k1) := Lib.hid (by rw [eW0, ep, eX]; exact (Below.heap_alloc _ _ _ (by simp)).trans (heap_alloc_new _ _))
  have HQ0 : Hid (ScB W0 q b A n c L m cm) := Lib.hid (by rw [eW0, eq, eY]; exact heap_alloc2_new _ _ _)
  have EW0 := Lib.hid eW0
  have EP := Lib.hid ep
  have EQ := Lib.hid eq
  have HB0 := Lib.hid hb0
  have HA0 := Lib.hid (ha.below hb0)
  have HR0 := Lib.hid (hs.below hb0)
  have HU0 := Lib.hid (hU.next hb0)
  have HCO := Lib.hid hc
  obtain ⟨Z, eZ⟩ : ∃ Z, enc16 a b = Z := ⟨_, rfl⟩
  rw [eZ]
  unfold enc16 at eZ
  clear eX eY eW0 ep eq hb0 ha hs hU hc
  obtain ⟨b1, e1⟩ : ∃ t, fit16 a = t := ⟨_, rfl⟩
  obtain ⟨b2, e2⟩ : ∃ t, fit16 b = t := ⟨_, rfl⟩
  rw [e1, e2] at eZ
  have E1 := Lib.hid e1
  have E2 := Lib.hid e2
  have EZ := Lib.hid eZ
  clear eZ e1 e2
  go_enter Tryd.func20, Tryd.ntmps20
  go_upto_region 1 with (fail)
  rw [← EW0.out, ← EQ.out, ← EP.out]
  cases b1
  · go_wp2_with (first
      | (refine wpList_load_row rfl 25 (.tmp 2) rfl p rfl 25 _ (0, 0) _ HP0.out Tryd.underlying25 rfl (info_sc.trans rfl) ?_)
      | (go_at_call 25; (refine (fits16_c a A1 n1 c1 L1 m1 k1 W0 HA0.out  HU0.out).mono ?_); rintro _ w1 ⟨rfl, hb1⟩; rw [E1.out]; have HB1 := Lib.hid (HB0.out.trans (hb1.mono HB0.out.size)); clear hb1))
    go_ret2
    exact ⟨_, by rw [← EZ.out] <;> rfl, by rw [← EZ.out]; exact Own.nil_ _ _ _, HB1.out⟩
  · cases b2
    · go_wp2_with (first
        | (refine wpList_load_row rfl 25 (.tmp 2) rfl p rfl 25 _ (0, 0) _ HP0.out Tryd.underlying25 rfl (info_sc.trans rfl) ?_)
        | ((with_reducible refine wpList_openG (o := ⟨some 11, _, _, _, _, _⟩) rfl ?_); (refine wpList_load_row rfl 25 (.tmp 3) rfl q rfl 25 _ (0, 0) _ HQ1.out Tryd.underlying25 rfl (info_sc.trans rfl) ?_))
        | (go_at_call 25; (refine (fits16_c b A n c L m cm w1 HR1.out  HU1.out).mono ?_); rintro _ w2 ⟨rfl, hb2⟩; rw [E2.out]; have HB2 := Lib.hid (HB1.out.trans (hb2.mono HB1.out.size)); clear hb2)
        | (go_at_call 25; (refine (fits16_c a A1 n1 c1 L1 m1 k1 W0 HA0.out  HU0.out).mono ?_); rintro _ w1 ⟨rfl, hb1⟩; rw [E1.out]; have HB1 := Lib.hid (HB0.out.trans (hb1.mono HB0.out.size)); have HR1 := Lib.hid (HR0.out.below hb1); have HQ1 := Lib.hid (HQ0.out.below hb1); have HU1 := Lib.hid (HU0.out.next hb1); clear hb1))
      go_ret2
      exact ⟨_, by rw [← EZ.out] <;> rfl, by rw [← EZ.out]; exact Own.nil_ _ _ _, HB2.out⟩
    · obtain ⟨C1, R1, hf1⟩ := fit16_of E1.out
      obtain ⟨C, R, hf⟩ := fit16_of E2.out
      have HF1 := Lib.hid hf1
      have HF := Lib.hid hf
      clear hf1 hf
      go_upto_if 6 with (first
        | (refine wpList_load_row rfl 25 (.tmp 2) rfl p rfl 25 _ (0, 0) _ HP0.out Tryd.underlying25 rfl (info_sc.trans rfl) ?_)
        | ((with_reducible refine wpList_openG (o := ⟨some 11, _, _, _, _, _⟩) rfl ?_); (refine wpList_load_row rfl 25 (.tmp 3) rfl q rfl 25 _ (0, 0) _ HQ1.out Tryd.underlying25 rfl (info_sc.trans rfl) ?_))
        | (go_at_call 25; (refine (fits16_c b A n c L m cm w1 HR1.out  HU1.out).mono ?_); rintro _ w2 ⟨rfl, hb2⟩; rw [E2.out]; have HB2 := Lib.hid (HB1.out.trans (hb2.mono HB1.out.size)); have HR2 := Lib.hid (HR1.out.below hb2); have HA2 := Lib.hid (HA1.out.below hb2); have HQ2 := Lib.hid (HQ1.out.below hb2); have HP2 := Lib.hid (HP1.out.below hb2); have HU2 := Lib.hid (HU1.out.next hb2); clear hb2)
        | (go_at_call 25; (refine (fits16_c a A1 n1 c1 L1 m1 k1 W0 HA0.out  HU0.out).mono ?_); rintro _ w1 ⟨rfl, hb1⟩; rw [E1.out]; have HB1 := Lib.hid (HB0.out.trans (hb1.mono HB0.out.size)); have HR1 := Lib.hid (HR0.out.below hb1); have HA1 := Lib.hid (HA0.out.below hb1); have HQ1 := Lib.hid (HQ0.out.below hb1); have HP1 := Lib.hid (HP0.out.below hb1); have HU1 := Lib.hid (HU0.out.next hb1); clear hb1))
      have x0 : w2.cell? ⟨p, 0, none⟩ = some (.int .i64 (C1 : Int)) := by rw [← HF1.out.c]; exact HP2.out.nine.1
      have x1 : w2.cell? ⟨p, 1, none⟩ = some (.int .i64 (R1 : Int)) := by rw [← HF1.out.r]; exact HP2.out.nine.2.1
      have y0 : w2.cell? ⟨q, 0, none⟩ = some (.int .i64 (C : Int)) := by rw [← HF.out.c]; exact HQ2.out.nine.1
      have y1 : w2.cell? ⟨q, 1, none⟩ = some (.int .i64 (R : Int)) := by rw [← HF.out.r]; exact HQ2.out.nine.2.1
      by_cases hC : C1 = C
      · have hC' : ((C1 : Int) == (C : Int)) = true := by rw [hC]; exact beq_self_eq_true _
        have hCn : ((C1 : Int) != (C : Int)) = false := by rw [bne, hC']; rfl
        by_cases hR : R1 = R
        · have hR' : ((R1 : Int) == (R : Int)) = true := by rw [hR]; exact beq_self_eq_true _
          have hRn : ((R1 : Int) != (R : Int)) = false := by rw [bne, hR']; rfl
          have HZ : Hid ((layB a b 0, 0) = Z) := Lib.hid (by rw [← EZ.out, HF1.out.c, HF1.out.r, HF.out.c, HF.out.r, hC', hR']; rfl)
          have HAL : Hid (a.cells.length = C * R) := Lib.hid (by rw [HF1.out.len, hC, hR])
          clear hC hR
          go_wp2_with (first
            | (refine wpList_load_row rfl 25 (.tmp 2) rfl p rfl 25 _ (0, 0) _ HP2.out Tryd.underlying25 rfl (info_sc.trans rfl) ?_)
            | (refine wpList_load_row rfl 25 (.tmp 3) rfl q rfl 25 _ (0, 0) _ HQ2.out Tryd.underlying25 rfl (info_sc.trans rfl) ?_)
            | (go_at_call 48; (refine (lay_c a b A1 n1 c1 L1 m1 k1 A n c L m cm C R 0 w2 HA2.out HR2.out HF.out (HF.out.cen HCO.out) HAL.out (by decide)).mono ?_); rintro _ w4 ⟨v4, rfl, ho4, hb4⟩; have HO4 := Lib.hid (Own.low ho4 HB2.out.size); have HB4 := Lib.hid (HB2.out.trans (hb4.mono HB2.out.size)); clear ho4 hb4))
          go_ret2
          exact ⟨_, by rw [← HZ.out] <;> rfl, by rw [← HZ.out]; exact HO4.out, HB4.out⟩
        · have hR' : ((R1 : Int) == (R : Int)) = false := by rw [beq_eq_false_iff_ne]; omega
          have hRn : ((R1 : Int) != (R : Int)) = true := by rw [bne, hR']; rfl
          have HZ : Hid (full16 b = Z) := Lib.hid (by rw [← EZ.out, HF1.out.c, HF1.out.r, HF.out.c, HF.out.r, hC', hR']; rfl)
          clear hC hR
          go_wp2_with (first
            | (refine wpList_load_row rfl 25 (.tmp 3) rfl q rfl 25 _ (0, 0) _ HQ2.out Tryd.underlying25 rfl (info_sc.trans rfl) ?_)
            | (go_at_call 22; (refine (full16_c b A n c L m cm w2 HR2.out HCO.out  HU2.out).mono ?_); rintro _ w4 ⟨v4, rfl, ho4, hb4⟩; have HO4 := Lib.hid (Own.low ho4 HB2.out.size); have HB4 := Lib.hid (HB2.out.trans (hb4.mono HB2.out.size)); clear ho4 hb4))
          go_ret2
          exact ⟨_, by rw [← HZ.out] <;> rfl, by rw [← HZ.out]; exact HO4.out, HB4.out⟩
      · have hC' : ((C1 : Int) == (C : Int)) = false := by rw [beq_eq_false_iff_ne]; omega
        have hCn : ((C1 : Int) != (C : Int)) = true := by rw [bne, hC']; rfl
        have HZ : Hid (full16 b = Z) := Lib.hid (by rw [← EZ.out, HF1.out.c, HF1.out.r, HF.out.c, HF.out.r, hC']; rfl)
        clear hC
        go_wp2_with (first
          | (refine wpList_load_row rfl 25 (.tmp 3) rfl q rfl 25 _ (0, 0) _ HQ2.out Tryd.underlying25 rfl (info_sc.trans rfl) ?_)
          | (go_at_call 22; (refine (full16_c b A n c L m cm w2 HR2.out HCO.out  HU2.out).mono ?_); rintro _ w4 ⟨v4, rfl, ho4, hb4⟩; have HO4 := Lib.hid (Own.low ho4 HB2.out.size); have HB4 := Lib.hid (HB2.out.trans (hb4.mono HB2.out.size)); clear ho4 hb4))
        go_ret2
        exact ⟨_, by rw [← HZ.out] <;> rfl, by rw [← HZ.out]; exact HO4.out, HB4.out⟩
set_option maxRecDepth 100000 in
set_option maxHeartbeats 16000000 in
theorem refEnc16_c (a b : ScD) (A1 : Option Addr) (n1 c1 : Nat) (L1 : Option Addr) (m1 k1 : Nat) (A : Option Addr) (n c : Nat) (L : Option Addr) (m cm : Nat) (w : World) (ha : ScR w a A1 n1 c1 L1 m1 k1) (hs : ScR w b A n c L m cm) (hc : ∀ d ∈ b.cells, CeOk d) (hma : 0 ≤ a.mouse) (hm : 0 ≤ b.mouse) (hU : TabU w) :
    Calls Tryd.prog 21 #[.agg (scC a A1 n1 c1 L1 m1 k1), .agg (scC b A n c L m cm)] w fun e w' => ∃ v, e = .returned (.tuple #[v, .int .i64 ((enc16 a b).2 : Int)]) ∧ OwnB w' w.heap.size v (enc16 a b).1 ∧ Below w.heap.size w w' := by
  obtain ⟨X, eX⟩ : ∃ X, X = scC a A1 n1 c1 L1 m1 k1 := ⟨_, rfl⟩
  obtain ⟨Y, eY⟩ : ∃ Y, Y = scC b A n c L m cm := ⟨_, rfl⟩
  rw [← eX, ← eY]
  obtain ⟨W0, eW0⟩ : ∃ W0, W0 = (w.alloc (.cells X 25)).alloc (.cells Y 25) := ⟨_, rfl⟩
  obtain ⟨p, ep⟩ : ∃ p, p = w.heap.size := ⟨_, rfl⟩
  obtain ⟨q, eq⟩ : ∃ q, q = w.heap.size + 1 := ⟨_, rfl⟩
  have hb0 : Below w.heap.size w W0 := by rw [eW0]; exact ((Below.refl _ _).alloc (Nat.le_refl _) _).alloc (by simp) _
  have HP0 : Hid (ScB W0 p a A1 n1 c1 L1 m1 k1) := Lib.hid (by rw [eW0, ep, eX]; exact (Below.heap_alloc _ _ _ (by simp)).trans (heap_alloc_new _ _))
  have HQ0 : Hid (ScB W0 q b A n c L m cm) := Lib.hid (by rw [eW0, eq, eY]; exact heap_alloc2_new _ _ _)
  have EW0 := Lib.hid eW0
  have EP := Lib.hid ep
  have EQ := Lib.hid eq
  have HB0 := Lib.hid hb0
  have HA0 := Lib.hid (ha.below hb0)
  have HR0 := Lib.hid (hs.below hb0)
  have HU0 := Lib.hid (hU.next hb0)
  have HCO := Lib.hid hc
  have HMO := Lib.hid hm
  have HMA := Lib.hid hma
  clear hm hma
  obtain ⟨Z, eZ⟩ : ∃ Z, enc16 a b = Z := ⟨_, rfl⟩
  rw [eZ]
  unfold enc16 at eZ
  clear eX eY eW0 ep eq hb0 ha hs hU hc
  obtain ⟨b1, e1⟩ : ∃ t, fit16 a = t := ⟨_, rfl⟩
  obtain ⟨b2, e2⟩ : ∃ t, fit16 b = t := ⟨_, rfl⟩
  rw [e1, e2] at eZ
  have E1 := Lib.hid e1
  have E2 := Lib.hid e2
  have EZ := Lib.hid eZ
  clear eZ e1 e2
  go_enter Tryd.func21, Tryd.ntmps21
  go_upto_region 1 with (fail)
  rw [← EW0.out, ← EQ.out, ← EP.out]
  cases b1
  · go_wp2_with (first
      | (refine wpList_load_row rfl 25 (.tmp 2) rfl p rfl 25 _ (0, 0) _ HP0.out Tryd.underlying25 rfl (info_sc.trans rfl) ?_)
      | (go_at_call 26; (refine (refFits16_c a A1 n1 c1 L1 m1 k1 W0 HA0.out HMA.out HU0.out).mono ?_); rintro _ w1 ⟨rfl, hb1⟩; rw [E1.out]; have HB1 := Lib.hid (HB0.out.trans (hb1.mono HB0.out.size)); clear hb1))
    go_ret2
    exact ⟨_, by rw [← EZ.out] <;> rfl, by rw [← EZ.out]; exact Own.nil_ _ _ _, HB1.out⟩
  · cases b2
    · go_wp2_with (first
        | (refine wpList_load_row rfl 25 (.tmp 2) rfl p rfl 25 _ (0, 0) _ HP0.out Tryd.underlying25 rfl (info_sc.trans rfl) ?_)
        | ((with_reducible refine wpList_openG (o := ⟨some 10, _, _, _, _, _⟩) rfl ?_); (refine wpList_load_row rfl 25 (.tmp 3) rfl q rfl 25 _ (0, 0) _ HQ1.out Tryd.underlying25 rfl (info_sc.trans rfl) ?_))
        | (go_at_call 26; (refine (refFits16_c b A n c L m cm w1 HR1.out HMO.out HU1.out).mono ?_); rintro _ w2 ⟨rfl, hb2⟩; rw [E2.out]; have HB2 := Lib.hid (HB1.out.trans (hb2.mono HB1.out.size)); clear hb2)
        | (go_at_call 26; (refine (refFits16_c a A1 n1 c1 L1 m1 k1 W0 HA0.out HMA.out HU0.out).mono ?_); rintro _ w1 ⟨rfl, hb1⟩; rw [E1.out]; have HB1 := Lib.hid (HB0.out.trans (hb1.mono HB0.out.size)); have HR1 := Lib.hid (HR0.out.below hb1); have HQ1 := Lib.hid (HQ0.out.below hb1); have HU1 := Lib.hid (HU0.out.next hb1); clear hb1))
      go_ret2
      exact ⟨_, by rw [← EZ.out] <;> rfl, by rw [← EZ.out]; exact Own.nil_ _ _ _, HB2.out⟩
    · obtain ⟨C1, R1, hf1⟩ := fit16_of E1.out
      obtain ⟨C, R, hf⟩ := fit16_of E2.out
      have HF1 := Lib.hid hf1
      have HF := Lib.hid hf
      clear hf1 hf
      go_upto_if 13 with (first
        | (refine wpList_load_row rfl 25 (.tmp 2) rfl p rfl 25 _ (0, 0) _ HP0.out Tryd.underlying25 rfl (info_sc.trans rfl) ?_)
        | ((with_reducible refine wpList_openG (o := ⟨some 10, _, _, _, _, _⟩) rfl ?_); (refine wpList_load_row rfl 25 (.tmp 3) rfl q rfl 25 _ (0, 0) _ HQ1.out Tryd.underlying25 rfl (info_sc.trans rfl) ?_))
        | (go_at_call 26; (refine (refFits16_c b A n c L m cm w1 HR1.out HMO.out HU1.out).mono ?_); rintro _ w2 ⟨rfl, hb2⟩; rw [E2.out]; have HB2 := Lib.hid (HB1.out.trans (hb2.mono HB1.out.size)); have HR2 := Lib.hid (HR1.out.below hb2); have HA2 := Lib.hid (HA1.out.below hb2); have HQ2 := Lib.hid (HQ1.out.below hb2); have HP2 := Lib.hid (HP1.out.below hb2); have HU2 := Lib.hid (HU1.out.next hb2); clear hb2)
        | (go_at_call 26; (refine (refFits16_c a A1 n1 c1 L1 m1 k1 W0 HA0.out HMA.out HU0.out).mono ?_); rintro _ w1 ⟨rfl, hb1⟩; rw [E1.out]; have HB1 := Lib.hid (HB0.out.trans (hb1.mono HB0.out.size)); have HR1 := Lib.hid (HR0.out.below hb1); have HA1 := Lib.hid (HA0.out.below hb1); have HQ1 := Lib.hid (HQ0.out.below hb1); have HP1 := Lib.hid (HP0.out.below hb1); have HU1 := Lib.hid (HU0.out.next hb1); clear hb1))
      have x0 : w2.cell? ⟨p, 0, none⟩ = some (.int .i64 (C1 : Int)) := by rw [← HF1.out.c]; exact HP2.out.nine.1
      have x1 : w2.cell? ⟨p, 1, none⟩ = some (.int .i64 (R1 : Int)) := by rw [← HF1.out.r]; exact HP2.out.nine.2.1
      have y0 : w2.cell? ⟨q, 0, none⟩ = some (.int .i64 (C : Int)) := by rw [← HF.out.c]; exact HQ2.out.nine.1
      have y1 : w2.cell? ⟨q, 1, none⟩ = some (.int .i64 (R : Int)) := by rw [← HF.out.r]; exact HQ2.out.nine.2.1
      by_cases hC : C1 = C
      · have hC' : ((C1 : Int) == (C : Int)) = true := by rw [hC]; exact beq_self_eq_true _
        have hCn : ((C1 : Int) != (C : Int)) = false := by rw [bne, hC']; rfl
        by_cases hR : R1 = R
        · have hR' : ((R1 : Int) == (R : Int)) = true := by rw [hR]; exact beq_self_eq_true _
          have hRn : ((R1 : Int) != (R : Int)) = false := by rw [bne, hR']; rfl
          have HZ : Hid ((layB a b 0, 0) = Z) := Lib.hid (by rw [← EZ.out, HF1.out.c, HF1.out.r, HF.out.c, HF.out.r, hC', hR']; rfl)
          have HAL : Hid (a.cells.length = C * R) := Lib.hid (by rw [HF1.out.len, hC, hR])
          clear hC hR
          go_wp2_with (first
            | (refine wpList_load_row rfl 25 (.tmp 2) rfl p rfl 25 _ (0, 0) _ HP2.out Tryd.underlying25 rfl (info_sc.trans rfl) ?_)
            | (refine wpList_load_row rfl 25 (.tmp 3) rfl q rfl 25 _ (0, 0) _ HQ2.out Tryd.underlying25 rfl (info_sc.trans rfl) ?_)
            | (go_at_call 49; (refine (diff_c a b A1 n1 c1 L1 m1 k1 A n c L m cm C R 0 w2 HA2.out HR2.out HF.out (HF.out.cen HCO.out) HAL.out (by decide)).mono ?_); rintro _ w4 ⟨v4, rfl, ho4, hb4⟩; have HO4 := Lib.hid (Own.low ho4 HB2.out.size); have HB4 := Lib.hid (HB2.out.trans (hb4.mono HB2.out.size)); clear ho4 hb4))
          go_ret2
          exact ⟨_, by rw [← HZ.out] <;> rfl, by rw [← HZ.out]; exact HO4.out, HB4.out⟩
        · have hR' : ((R1 : Int) == (R : Int)) = false := by rw [beq_eq_false_iff_ne]; omega
          have hRn : ((R1 : Int) != (R : Int)) = true := by rw [bne, hR']; rfl
          have HZ : Hid (full16 b = Z) := Lib.hid (by rw [← EZ.out, HF1.out.c, HF1.out.r, HF.out.c, HF.out.r, hC', hR']; rfl)
          clear hC hR
          go_wp2_with (first
            | (refine wpList_load_row rfl 25 (.tmp 3) rfl q rfl 25 _ (0, 0) _ HQ2.out Tryd.underlying25 rfl (info_sc.trans rfl) ?_)
            | (go_at_call 23; (refine (refFull16_c b A n c L m cm w2 HR2.out HCO.out HMO.out HU2.out).mono ?_); rintro _ w4 ⟨v4, rfl, ho4, hb4⟩; have HO4 := Lib.hid (Own.low ho4 HB2.out.size); have HB4 := Lib.hid (HB2.out.trans (hb4.mono HB2.out.size)); clear ho4 hb4))
          go_ret2
          exact ⟨_, by rw [← HZ.out] <;> rfl, by rw [← HZ.out]; exact HO4.out, HB4.out⟩
      · have hC' : ((C1 : Int) == (C : Int)) = false := by rw [beq_eq_false_iff_ne]; omega
        have hCn : ((C1 : Int) != (C : Int)) = true := by rw [bne, hC']; rfl
        have HZ : Hid (full16 b = Z) := Lib.hid (by rw [← EZ.out, HF1.out.c, HF1.out.r, HF.out.c, HF.out.r, hC']; rfl)
        clear hC
        go_wp2_with (first
          | (refine wpList_load_row rfl 25 (.tmp 3) rfl q rfl 25 _ (0, 0) _ HQ2.out Tryd.underlying25 rfl (info_sc.trans rfl) ?_)
          | (go_at_call 23; (refine (refFull16_c b A n c L m cm w2 HR2.out HCO.out HMO.out HU2.out).mono ?_); rintro _ w4 ⟨v4, rfl, ho4, hb4⟩; have HO4 := Lib.hid (Own.low ho4 HB2.out.size); have HB4 := Lib.hid (HB2.out.trans (hb4.mono HB2.out.size)); clear ho4 hb4))
        go_ret2
        exact ⟨_, by rw [← HZ.out] <;> rfl, by rw [← HZ.out]; exact HO4.out, HB4.out⟩
end Go.Proofs.YtipofokinjkclaaDoor

/- Plain: to which screen a diff by rows leads; that a diff laid leads where it should; that a diff cut off leads nowhere. Conditions: none. -/
namespace Go.Proofs.YtipofokinjkclaaDoor
open Go Go.RowKit Go.Lib

/-- The cell of nine bytes. -/
def cellAt (l : List UInt8) : CeD := ⟨IntKind.i32.wrap (beN (l.take 4) : Int), 0, (beN ((l.drop 4).take 2) : Int), (beN ((l.drop 6).take 2) : Int), (beN ((l.drop 8).take 1) : Int), 0⟩
def badAt16 (c : CeD) : Bool := !mayC c || (decide (256 < c.fg) || decide (256 < c.bg))
/-- So many cells, laid from the place p on: the error, the bytes left, the cells. -/
def cellsP : Nat → Nat → List UInt8 → List CeD → Nat × List UInt8 × List CeD
  | 0, _, l, cs => (0, l, cs)
  | n + 1, p, l, cs => if l.length < 9 then (2, l, cs) else if badAt16 (cellAt l) then (3, l, cs) else cellsP n (p + 1) (l.drop 9) (cs.set p (cellAt l))
/-- So many rows behind the row last. -/
def rowsP (C R : Nat) : Nat → Int → List UInt8 → List CeD → Nat × List CeD
  | 0, _, l, cs => (if l.length = 0 then 0 else 6, cs)
  | _ + 1, _, [], cs => (2, cs)
  | k + 1, last, y :: l, cs =>
    if R ≤ y.toNat ∨ (y.toNat : Int) ≤ last then (3, cs)
    else if (cellsP C (y.toNat * C) l cs).1 = 0 then rowsP C R k (y.toNat : Int) (cellsP C (y.toNat * C) l cs).2.1 (cellsP C (y.toNat * C) l cs).2.2
    else ((cellsP C (y.toNat * C) l cs).1, (cellsP C (y.toNat * C) l cs).2.2)
def readP (C R : Nat) : List UInt8 → List CeD → Nat × List CeD
  | [], cs => (2, cs)
  | k :: l, cs => rowsP C R k.toNat (-1) l cs
/-- The title's part. -/
def titP (f : Nat) (t : ByteArray) : List UInt8 → Option (ByteArray × List UInt8)
  | l => if f / 2 % 2 = 1 then (match l with
    | [] => none
    | n :: l2 => if l2.length < n.toNat then none else some (⟨(l2.take n.toNat).toArray⟩, l2.drop n.toNat)) else some (t, l)
/-- The screen from which the rows go on. -/
def base16 (a : ScD) (c r x y f : Nat) : ScD := { (if f < 4 then a else blankS c r) with x := x, y := y, hid := f % 2 == 1 }
def end16 (s : ScD) (p : Nat × List CeD) : ScD × Nat := if p.1 = 0 then (if fit16 { s with cells := p.2 } then ({ s with cells := p.2 }, 0) else (scZ, 3)) else (scZ, p.1)
def app16 (a : ScD) (d : List UInt8) : ScD × Nat :=
  if fit16 a then
    (match d with
    | c :: r :: x :: y :: f :: l =>
      if 7 < f.toNat ∨ fitsI (c.toNat : Int) (r.toNat : Int) = false then (scZ, 3)
      else if f.toNat < 4 ∧ ¬ ((c.toNat : Int) = a.cols ∧ (r.toNat : Int) = a.rows) then (scZ, 15)
      else (match titP f.toNat (base16 a c.toNat r.toNat x.toNat y.toNat f.toNat).title l with
        | none => (scZ, 2)
        | some (t, l2) => end16 { base16 a c.toNat r.toNat x.toNat y.toNat f.toNat with title := t } (readP c.toNat r.toNat l2 (base16 a c.toNat r.toNat x.toNat y.toNat f.toNat).cells))
    | _ => (scZ, 2))
  else (scZ, 1)

/-! ### What leads anywhere fits -/
theorem end16_fit {s t : ScD} {p : Nat × List CeD} (h : end16 s p = (t, 0)) : fit16 t = true := by
  unfold end16 at h
  split at h
  · split at h
    · rename_i h2; injection h with h1 h3; rw [← h1]; exact h2
    · injection h with h1 h3; cases h3
  · rename_i h2; injection h with h1 h3; exact absurd h3 h2
theorem app16_fit {a t : ScD} {d : List UInt8} (h : app16 a d = (t, 0)) : fit16 t = true := by
  unfold app16 at h
  split at h
  · split at h
    · split at h
      · injection h with h1 h3; cases h3
      · split at h
        · injection h with h1 h3; cases h3
        · split at h
          · injection h with h1 h3; cases h3
          · exact end16_fit h
    · injection h with h1 h3; cases h3
  · injection h with h1 h3; cases h3
theorem end16_none {s : ScD} {p : Nat × List CeD} (h : (end16 s p).2 ≠ 0) : (end16 s p).1 = scZ := by
  unfold end16 at h ⊢
  split
  · rename_i h4
    rw [if_pos h4] at h
    split
    · rename_i h5; rw [if_pos h5] at h; exact absurd rfl h
    · rfl
  · rfl
theorem app16_none {a : ScD} {d : List UInt8} (h : (app16 a d).2 ≠ 0) : (app16 a d).1 = scZ := by
  unfold app16 at h ⊢
  split at h
  · rename_i hf
    rw [if_pos hf]
    split at h
    · simp only []
      split at h
      · rename_i h1; rw [if_pos h1]
      · rename_i h1
        rw [if_neg h1]
        split at h
        · rename_i h2; rw [if_pos h2]
        · rename_i h2
          rw [if_neg h2]
          split at h
          · rfl
          · exact end16_none h
    · rfl
  · rename_i hf
    rw [if_neg hf]

/-! ### What holds of each cell -/
theorem set_all {P : CeD → Prop} {l : List CeD} (h : ∀ d ∈ l, P d) (p : Nat) {c : CeD} (hc : P c) : ∀ d ∈ l.set p c, P d := fun d hd => by
  rcases List.mem_or_eq_of_mem_set hd with h1 | rfl
  · exact h d h1
  · exact hc
theorem cellsP_all {P : CeD → Prop} (hc : ∀ l, P (cellAt l)) : ∀ (n p : Nat) (l : List UInt8) (cs : List CeD), (∀ d ∈ cs, P d) → ∀ d ∈ (cellsP n p l cs).2.2, P d
  | 0, _, _, _, h => h
  | n + 1, p, l, cs, h => by
    rw [cellsP]
    split
    · exact h
    · split
      · exact h
      · exact cellsP_all hc n _ _ _ (set_all h _ (hc _))
theorem rowsP_all {P : CeD → Prop} (hc : ∀ l, P (cellAt l)) (C R : Nat) : ∀ (k : Nat) (last : Int) (l : List UInt8) (cs : List CeD), (∀ d ∈ cs, P d) → ∀ d ∈ (rowsP C R k last l cs).2, P d
  | 0, _, _, _, h => h
  | _ + 1, _, [], _, h => h
  | k + 1, last, y :: l, cs, h => by
    rw [rowsP]
    split
    · exact h
    · split
      · exact rowsP_all hc C R k _ _ _ (cellsP_all hc _ _ _ _ h)
      · exact cellsP_all hc _ _ _ _ h
theorem readP_all {P : CeD → Prop} (hc : ∀ l, P (cellAt l)) (C R : Nat) (l : List UInt8) (cs : List CeD) (h : ∀ d ∈ cs, P d) : ∀ d ∈ (readP C R l cs).2, P d := by
  cases l with
  | nil => exact h
  | cons k l => exact rowsP_all hc C R _ _ _ _ h
theorem cellsP_len : ∀ (n p : Nat) (l : List UInt8) (cs : List CeD), (cellsP n p l cs).2.2.length = cs.length
  | 0, _, _, _ => rfl
  | n + 1, p, l, cs => by
    rw [cellsP]
    split
    · rfl
    · split
      · rfl
      · rw [cellsP_len, List.length_set]
theorem rowsP_len (C R : Nat) : ∀ (k : Nat) (last : Int) (l : List UInt8) (cs : List CeD), (rowsP C R k last l cs).2.length = cs.length
  | 0, _, _, _ => rfl
  | _ + 1, _, [], _ => rfl
  | k + 1, last, y :: l, cs => by
    rw [rowsP]
    split
    · rfl
    · split
      · rw [rowsP_len, cellsP_len]
      · rw [cellsP_len]
theorem readP_len (C R : Nat) (l : List UInt8) (cs : List CeD) : (readP C R l cs).2.length = cs.length := by
  cases l with
  | nil => rfl
  | cons k l => exact rowsP_len C R _ _ _ _

/-! ### Cut off -/
theorem cellAt_take {l : List UInt8} {m : Nat} (h : 9 ≤ m) : cellAt (l.take m) = cellAt l := by
  unfold cellAt
  rw [List.take_take, List.drop_take, List.drop_take, List.drop_take, List.take_take, List.take_take, List.take_take, Nat.min_eq_left (by omega), Nat.min_eq_left (by omega), Nat.min_eq_left (by omega), Nat.min_eq_left (by omega)]
theorem cellsP_cut : ∀ (n p : Nat) (l : List UInt8) (cs : List CeD), (cellsP n p l cs).1 = 0 → n * 9 ≤ l.length ∧ (cellsP n p l cs).2.1 = l.drop (n * 9) ∧ ∀ m, (m < n * 9 → (cellsP n p (l.take m) cs).1 ≠ 0) ∧ (n * 9 ≤ m → cellsP n p (l.take m) cs = (0, (l.drop (n * 9)).take (m - n * 9), (cellsP n p l cs).2.2))
  | 0, p, l, cs, _ => by
    refine ⟨by omega, by rw [Nat.zero_mul]; rfl, fun m => ⟨fun h => by omega, fun _ => ?_⟩⟩
    rw [Nat.zero_mul, Nat.sub_zero]; rfl
  | n + 1, p, l, cs, h => by
    rw [cellsP] at h
    split at h
    · cases h
    · rename_i h1
      split at h
      · cases h
      · rename_i h2
        obtain ⟨g1, g2, g3⟩ := cellsP_cut n (p + 1) (l.drop 9) (cs.set p (cellAt l)) h
        have e : cellsP (n + 1) p l cs = cellsP n (p + 1) (l.drop 9) (cs.set p (cellAt l)) := by rw [cellsP, if_neg h1, if_neg h2]
        rw [List.length_drop] at g1
        refine ⟨by omega, by rw [e, g2, List.drop_drop]; congr 1; omega, fun m => ?_⟩
        by_cases hm : m < 9
        · refine ⟨fun _ => ?_, fun h9 => by omega⟩
          rw [cellsP, if_pos (by rw [List.length_take]; omega)]
          exact (by decide : (2 : Nat) ≠ 0)
        · have e2 : cellsP (n + 1) p (l.take m) cs = cellsP n (p + 1) ((l.drop 9).take (m - 9)) (cs.set p (cellAt l)) := by
            rw [cellsP, if_neg (by rw [List.length_take]; omega), cellAt_take (by omega), if_neg h2, List.drop_take]
          obtain ⟨k1, k2⟩ := g3 (m - 9)
          rw [e2, e]
          refine ⟨fun hl => k1 (by omega), fun hl => ?_⟩
          rw [k2 (by omega), List.drop_drop, show 9 + n * 9 = (n + 1) * 9 by omega, show m - 9 - n * 9 = m - (n + 1) * 9 by omega]
theorem rowsP_cut (C R : Nat) : ∀ (k : Nat) (last : Int) (l : List UInt8) (cs : List CeD), (rowsP C R k last l cs).1 = 0 → ∀ m, m < l.length → (rowsP C R k last (l.take m) cs).1 ≠ 0
  | 0, last, l, cs, h, m, hm => by
    rw [rowsP] at h
    simp only [] at h
    split at h
    · omega
    · cases h
  | k + 1, last, [], cs, h, m, hm => absurd hm (Nat.not_lt_zero _)
  | k + 1, last, y :: l, cs, h, m, hm => by
    cases m with
    | zero => rw [List.take_zero, rowsP]; exact (by decide : (2 : Nat) ≠ 0)
    | succ m =>
      rw [rowsP] at h
      rw [List.take_succ_cons, rowsP]
      split at h
      · cases h
      · rename_i h1
        rw [if_neg h1]
        split at h
        · rename_i h2
          obtain ⟨g1, g2, g3⟩ := cellsP_cut C (y.toNat * C) l cs h2
          rw [List.length_cons] at hm
          by_cases hc : m < C * 9
          · have h5 := (g3 m).1 hc
            rw [if_neg h5]; exact h5
          · rw [(g3 m).2 (by omega)]
            simp only [if_true]
            rw [g2] at h
            exact rowsP_cut C R k _ _ _ h _ (by rw [List.length_drop]; omega)
        · rename_i h2; exact absurd h h2
theorem readP_cut (C R : Nat) (l : List UInt8) (cs : List CeD) (h : (readP C R l cs).1 = 0) (m : Nat) (hm : m < l.length) : (readP C R (l.take m) cs).1 ≠ 0 := by
  cases l with
  | nil => exact absurd hm (Nat.not_lt_zero _)
  | cons k l =>
    cases m with
    | zero => exact (by decide : (2 : Nat) ≠ 0)
    | succ m => exact rowsP_cut C R _ _ _ _ h _ (by simpa using hm)
theorem end16_err {s : ScD} {p : Nat × List CeD} (h : p.1 ≠ 0) : (end16 s p).2 ≠ 0 := by rw [end16, if_neg h]; exact h
theorem end16_ok {s : ScD} {p : Nat × List CeD} (h : (end16 s p).2 = 0) : p.1 = 0 := by
  by_cases h0 : p.1 = 0
  · exact h0
  · exact absurd h (end16_err h0)
theorem titP_cut {f : Nat} {t u : ByteArray} {l l2 : List UInt8} (h : titP f t l = some (u, l2)) (m : Nat) (hm : m < l.length) : titP f t (l.take m) = none ∨ ∃ k, k < l2.length ∧ titP f t (l.take m) = some (u, l2.take k) := by
  unfold titP at h ⊢
  split
  · rename_i hf
    rw [if_pos hf] at h
    cases l with
    | nil => exact absurd hm (Nat.not_lt_zero _)
    | cons n l =>
      simp only [] at h
      split at h
      · cases h
      · rename_i hl
        injection h with h
        injection h with h1 h2
        cases m with
        | zero => exact .inl rfl
        | succ m =>
          rw [List.take_succ_cons]
          simp only [List.length_take]
          rw [List.length_cons] at hm
          by_cases hs : m < n.toNat
          · rw [if_pos (by omega)]; exact .inl rfl
          · rw [if_neg (by omega)]
            refine .inr ⟨m - n.toNat, by rw [← h2, List.length_drop]; omega, ?_⟩
            rw [← h1, ← h2, List.take_take, Nat.min_eq_left (by omega), List.drop_take]
  · rename_i hf
    rw [if_neg hf] at h
    injection h with h
    injection h with h1 h2
    subst h1 h2
    exact .inr ⟨m, hm, rfl⟩
theorem app16_cut {a : ScD} {d : List UInt8} (h : (app16 a d).2 = 0) (m : Nat) (hm : m < d.length) : (app16 a (d.take m)).2 ≠ 0 := by
  unfold app16 at h ⊢
  split at h
  · rename_i hf
    rw [if_pos hf]
    split at h
    · rename_i c r x y f l
      rcases m with _ | _ | _ | _ | _ | m
      · exact (by decide : (2 : Nat) ≠ 0)
      · exact (by decide : (2 : Nat) ≠ 0)
      · exact (by decide : (2 : Nat) ≠ 0)
      · exact (by decide : (2 : Nat) ≠ 0)
      · exact (by decide : (2 : Nat) ≠ 0)
      · simp only [List.take_succ_cons]
        split at h
        · cases h
        · rename_i h1
          rw [if_neg h1]
          split at h
          · cases h
          · rename_i h2
            rw [if_neg h2]
            split at h
            · cases h
            · rename_i t l2 h3
              rcases titP_cut h3 m (by simpa using hm) with e | ⟨k, hk, e⟩
              · rw [e]; exact (by decide : (2 : Nat) ≠ 0)
              · rw [e]
                exact end16_err (readP_cut _ _ _ _ (end16_ok h) k hk)
    · cases h
  · cases h

/-! ### What was laid is read -/
theorem lo_small {n : Nat} (h : n < 256) : (lo n).toNat = n := by rw [lo_nat]; omega
theorem beN_numL1 {n : Nat} (h : n < 256) : beN [lo n] = n := by
  show 0 * 256 + (lo n).toNat = n
  rw [lo_small h]; omega
theorem beN_numL2 {n : Nat} (h : n < 65536) : beN (numL n 2) = n := by
  have e : numL n 2 = [lo (n / 256), lo n] := by simp [numL, List.range_succ, List.map]
  rw [e]
  show (0 * 256 + (lo (n / 256)).toNat) * 256 + (lo n).toNat = n
  rw [lo_nat, lo_nat]; omega
theorem beN_numL4 {n : Nat} (h : n < 4294967296) : beN (numL n 4) = n := by
  have e : numL n 4 = [lo (n / 16777216), lo (n / 65536), lo (n / 256), lo n] := by simp [numL, List.range_succ, List.map]
  rw [e]
  show (((0 * 256 + (lo (n / 16777216)).toNat) * 256 + (lo (n / 65536)).toNat) * 256 + (lo (n / 256)).toNat) * 256 + (lo n).toNat = n
  rw [lo_nat, lo_nat, lo_nat, lo_nat]; omega
/-- A cell such as the first version tells it. -/
def Told16 (d : CeD) : Prop := 0 ≤ d.r ∧ d.r ≤ 1114111 ∧ d.w = 0 ∧ 0 ≤ d.fg ∧ d.fg ≤ 256 ∧ 0 ≤ d.bg ∧ d.bg ≤ 256 ∧ 0 ≤ d.at_ ∧ d.at_ ≤ 255 ∧ d.ln = 0 ∧ mayC d = true
theorem cellAt_B {d : CeD} (h : Told16 d) (l : List UInt8) : cellAt (cellB d ++ l) = d := by
  obtain ⟨r, w, fg, bg, a, ln⟩ := d
  obtain ⟨h1, h2, h3, h4, h5, h6, h7, h8, h9, h10, -⟩ := h
  simp only at h1 h2 h3 h4 h5 h6 h7 h8 h9 h10
  have a1 : (cellB ⟨r, w, fg, bg, a, ln⟩ ++ l).take 4 = numL r.toNat 4 := by
    unfold cellB
    simp only [List.append_assoc]
    rw [List.take_append_of_le_length (by rw [numL_length]; exact Nat.le_refl _), List.take_of_length_le (by rw [numL_length]; exact Nat.le_refl _)]
  have a2 : ((cellB ⟨r, w, fg, bg, a, ln⟩ ++ l).drop 4).take 2 = numL fg.toNat 2 := by
    unfold cellB
    simp only [List.append_assoc]
    rw [List.drop_append_of_le_length (by rw [numL_length]; exact Nat.le_refl _), List.drop_of_length_le (by rw [numL_length]; exact Nat.le_refl _), List.nil_append, List.take_append_of_le_length (by rw [numL_length]; exact Nat.le_refl _), List.take_of_length_le (by rw [numL_length]; exact Nat.le_refl _)]
  have a3 : ((cellB ⟨r, w, fg, bg, a, ln⟩ ++ l).drop 6).take 2 = numL bg.toNat 2 := by
    unfold cellB
    simp only [List.append_assoc]
    rw [← List.append_assoc (numL r.toNat 4), List.drop_append_of_le_length (by simp [numL_length]), List.drop_of_length_le (by simp [numL_length]), List.nil_append, List.take_append_of_le_length (by rw [numL_length]; exact Nat.le_refl _), List.take_of_length_le (by rw [numL_length]; exact Nat.le_refl _)]
  have a4 : ((cellB ⟨r, w, fg, bg, a, ln⟩ ++ l).drop 8).take 1 = [lo a.toNat] := by
    unfold cellB
    simp only [List.append_assoc]
    rw [← List.append_assoc (numL r.toNat 4), ← List.append_assoc (_ ++ _), List.drop_append_of_le_length (by simp [numL_length]), List.drop_of_length_le (by simp [numL_length])]
    rfl
  unfold cellAt
  rw [a1, a2, a3, a4, beN_numL4 (by omega), beN_numL2 (by omega), beN_numL2 (by omega), beN_numL1 (by omega), Int.toNat_of_nonneg h1, Int.toNat_of_nonneg h4, Int.toNat_of_nonneg h6, Int.toNat_of_nonneg h8, h3, h10]
  congr 1
  exact IntWalk.i32_in _ ⟨by omega, by omega⟩
theorem told_good {d : CeD} (h : Told16 d) : badAt16 d = false := by
  obtain ⟨-, -, -, -, h5, -, h7, -, -, -, h11⟩ := h
  unfold badAt16
  rw [h11, decide_eq_false (by omega), decide_eq_false (by omega)]; rfl
theorem cellsP_told : ∀ (ds : List CeD) (p : Nat) (l : List UInt8) (cs : List CeD), (∀ d ∈ ds, Told16 d) → p + ds.length ≤ cs.length → cellsP ds.length p (cellsB ds ++ l) cs = (0, l, cs.take p ++ (ds ++ cs.drop (p + ds.length)))
  | [], p, l, cs, _, _ => by
    show (0, l, cs) = _
    rw [List.length_nil, Nat.add_zero, List.nil_append, List.take_append_drop]
  | d :: ds, p, l, cs, h, hl => by
    have hd := h d (List.mem_cons_self ..)
    have e : cellsB (d :: ds) ++ l = cellB d ++ (cellsB ds ++ l) := by
      show (cellB d ++ cellsB ds) ++ l = _
      rw [List.append_assoc]
    rw [List.length_cons] at hl
    rw [e, List.length_cons, cellsP, if_neg (by rw [List.length_append, cellB_length]; omega), cellAt_B hd, if_neg (by rw [told_good hd]; decide), List.drop_append_of_le_length (by rw [cellB_length]; exact Nat.le_refl _), List.drop_of_length_le (by rw [cellB_length]; exact Nat.le_refl _), List.nil_append,
      cellsP_told ds (p + 1) l (cs.set p d) (fun x hx => h x (List.mem_cons_of_mem _ hx)) (by rw [List.length_set]; omega)]
    have e1 : (cs.set p d).take (p + 1) = cs.take p ++ [d] := by
      rw [List.take_set, List.take_add_one, List.getElem?_eq_getElem (by omega)]
      simp only [Option.toList_some]
      rw [List.set_append_right _ _ (by rw [List.length_take]; omega), List.length_take, Nat.min_eq_left (by omega), Nat.sub_self]
      rfl
    have e2 : (cs.set p d).drop (p + 1 + ds.length) = cs.drop (p + (ds.length + 1)) := by
      rw [List.drop_set_of_lt (by omega)]
      congr 1
      omega
    rw [e1, e2, List.append_assoc]
    rfl
theorem cellEq_eq {a b : CeD} (h : cellEq a b = true) : a = b := by
  obtain ⟨r, w, fg, bg, a_, ln⟩ := a
  obtain ⟨r', w', fg', bg', a', ln'⟩ := b
  simp only [cellEq, penEq, Bool.and_eq_true, decide_eq_true_eq] at h
  obtain ⟨h1, h2, ⟨⟨h3, h4⟩, h5⟩, h6⟩ := h
  rw [h1, h2, h3, h4, h5, h6]
theorem sameC_eq : ∀ {a b : List CeD}, sameC a b = true → a = b
  | [], [], _ => rfl
  | x :: a, y :: b, h => by
    simp only [sameC, Bool.and_eq_true] at h
    rw [cellEq_eq h.1, sameC_eq h.2]
  | [], _ :: _, h => by cases h
  | _ :: _, [], h => by cases h
theorem mix_row {C y : Nat} {a b : List CeD} (hy : (y + 1) * C ≤ b.length) : b.take (y * C) ++ (rowAt C y b ++ a.drop ((y + 1) * C)) = b.take ((y + 1) * C) ++ a.drop ((y + 1) * C) := by
  rw [← List.append_assoc]
  congr 1
  unfold rowAt
  rw [show (y + 1) * C = y * C + C by rw [Nat.add_mul, Nat.one_mul], List.take_add]
theorem rowsP_told {C R : Nat} {a b : List CeD} (ha : a.length = C * R) (hb : b.length = C * R) (hR : R ≤ 255) (ht : ∀ d ∈ b, Told16 d) : ∀ (y : Nat), y ≤ R → ∃ last : Int, -1 ≤ last ∧ last < (y : Int) ∧ ∀ (j : Nat) (l : List UInt8), rowsP C R ((rowsT C a b y).1 + j) (-1) ((rowsT C a b y).2 ++ l) a = rowsP C R j last l (b.take (y * C) ++ a.drop (y * C))
  | 0, _ => ⟨-1, by omega, by omega, fun j l => by rw [rowsT, Nat.zero_mul, Nat.zero_add]; rfl⟩
  | y + 1, hy => by
    obtain ⟨last, h0, h1, h2⟩ := rowsP_told ha hb hR ht y (by omega)
    have hm : (y + 1) * C ≤ C * R := by rw [Nat.mul_comm C R]; exact Nat.mul_le_mul_right C hy
    have hm2 : (y + 1) * C = y * C + C := by rw [Nat.add_mul, Nat.one_mul]
    rw [rowsT]
    split
    · rename_i hs
      refine ⟨last, h0, by omega, fun j l => ?_⟩
      rw [h2]
      congr 1
      rw [← mix_row (a := a) (b := b) (y := y) (C := C) (by omega)]
      congr 1
      rw [← sameC_eq hs]
      unfold rowAt
      rw [hm2, ← List.drop_drop, List.take_append_drop]
    · refine ⟨(y : Int), by omega, by omega, fun j l => ?_⟩
      have hrl : (rowAt C y b).length = C := rowAt_length (by omega)
      have e : (lo y).toNat = y := lo_small (by omega)
      simp only [List.append_assoc, List.cons_append]
      rw [show (rowsT C a b y).1 + 1 + j = (rowsT C a b y).1 + (j + 1) by omega, h2, rowsP, e]
      rw [if_neg (by omega)]
      have hc := cellsP_told (rowAt C y b) (y * C) l (b.take (y * C) ++ a.drop (y * C)) (fun d hd => ht d (List.mem_of_mem_drop (List.mem_of_mem_take hd))) (by rw [hrl, List.length_append, List.length_take, List.length_drop]; omega)
      rw [hrl] at hc
      rw [hc]
      simp only [if_true]
      congr 1
      rw [List.take_append_of_le_length (by rw [List.length_take]; omega), List.take_take, Nat.min_self, ← mix_row (a := a) (b := b) (y := y) (C := C) (by omega)]
      congr 2
      rw [List.drop_append, List.drop_of_length_le (by rw [List.length_take]; omega), List.nil_append, List.drop_drop, List.length_take]
      congr 1
      omega
theorem readP_told {C R : Nat} {a b : List CeD} (ha : a.length = C * R) (hb : b.length = C * R) (hR : R ≤ 255) (ht : ∀ d ∈ b, Told16 d) : readP C R (lo (rowsT C a b R).1 :: (rowsT C a b R).2) a = (0, b) := by
  obtain ⟨last, _, _, h⟩ := rowsP_told ha hb hR ht R (Nat.le_refl _)
  have h2 := h 0 []
  rw [List.append_nil, Nat.add_zero] at h2
  have hl := rowsT_le C a b R
  rw [readP, lo_small (by omega), h2, rowsP]
  rw [List.take_of_length_le (by rw [hb, Nat.mul_comm]; exact Nat.le_refl _), List.drop_of_length_le (by rw [ha, Nat.mul_comm]; exact Nat.le_refl _), List.append_nil]
  rfl
theorem Fit16.told {s : ScD} {C R : Nat} (h : Fit16 s C R) (hf : fit16 s = true) (hc : ∀ d ∈ s.cells, (0 ≤ d.fg ∧ 0 ≤ d.bg) ∧ (0 ≤ d.at_ ∧ d.at_ ≤ 255) ∧ 0 ≤ d.ln) : ∀ d ∈ s.cells, Told16 d := fun d hd => by
  have h1 := h.rune d hd
  obtain ⟨g0, g1, g2, g3⟩ := h.ce d hd
  obtain ⟨⟨k1, k2⟩, ⟨k3, k4⟩, k5⟩ := hc d hd
  have hr := fit16_right hf
  unfold rightS at hr
  rw [Bool.and_eq_true, Bool.and_eq_true] at hr
  have hk := hr.2.1
  unfold lnkP at hk
  rw [h.lk] at hk
  simp only [Bool.and_eq_true, decide_eq_true_eq] at hk
  have := topGo_zero _ hk.2.2 d hd
  exact ⟨by omega, h1.2, g1, k1, g2, k2, g3, k3, k4, by omega, g0⟩
theorem flags_bits (f0 : Nat) (h t : Bool) (hf : f0 = 0 ∨ f0 = 4) : (lo (flagsN f0 h t)).toNat = flagsN f0 h t ∧ flagsN f0 h t ≤ 7 ∧ (flagsN f0 h t < 4 ↔ f0 = 0) ∧ (flagsN f0 h t % 2 == 1) = h ∧ (flagsN f0 h t / 2 % 2 = 1 ↔ t = true) := by
  rcases hf with rfl | rfl <;> cases h <;> cases t <;> decide
theorem titles_eq {a b : ByteArray} (h : a.toList = b.toList) : a = b := by
  rw [ByteArray.toList_eq, ByteArray.toList_eq] at h
  cases a; cases b
  congr 1
  exact Array.toList_inj.1 h
/-- A diff laid from a base of the same size leads to the screen. -/
theorem app16_lay {a base b : ScD} {C R f0 : Nat} (hfa : fit16 a = true) (hfb : fit16 b = true) (hb : Fit16 b C R) (hf0 : f0 = 0 ∨ f0 = 4) (hbase : (f0 = 0 → base = a ∧ Fit16 a C R) ∧ (f0 = 4 → base = blankS C R)) (ht : ∀ d ∈ b.cells, Told16 d) : app16 a (layB base b f0) = (b, 0) := by
  have c1 := hb.c1; have c2 := hb.c2; have r1 := hb.r1; have r2 := hb.r2
  have x0 := hb.x0; have x1 := hb.x1; have y0 := hb.y0; have y1 := hb.y1
  obtain ⟨t, et⟩ : ∃ t, (!(b.title.toList == base.title.toList)) = t := ⟨_, rfl⟩
  obtain ⟨q1, q2, q3, q4, q5⟩ := flags_bits f0 b.hid t hf0
  have ec : (lo b.cols.toNat).toNat = C := by rw [hb.c, Int.toNat_natCast]; exact lo_small (by omega)
  have er : (lo b.rows.toNat).toNat = R := by rw [hb.r, Int.toNat_natCast]; exact lo_small (by omega)
  have ex : ((lo b.x.toNat).toNat : Int) = b.x := by rw [lo_small (by omega)]; omega
  have ey : ((lo b.y.toNat).toNat : Int) = b.y := by rw [lo_small (by omega)]; omega
  have hfit : fitsI (C : Int) (R : Int) = true := by
    simp only [fitsI, Bool.and_eq_true, decide_eq_true_eq]; omega
  obtain ⟨L, eL⟩ : ∃ L, L = lo (rowsT b.cols.toNat base.cells b.cells b.rows.toNat).1 :: (rowsT b.cols.toNat base.cells b.cells b.rows.toNat).2 := ⟨_, rfl⟩
  have hL : layB base b f0 = lo b.cols.toNat :: lo b.rows.toNat :: lo b.x.toNat :: lo b.y.toNat :: lo (flagsN f0 b.hid t) :: (ttlB t b.title ++ L) := by
    unfold layB headB
    rw [et, eL]
    rfl
  -- the base
  have hb16 : ∃ tt, base16 a C R (lo b.x.toNat).toNat (lo b.y.toNat).toNat (flagsN f0 b.hid t) = ⟨b.cols, b.rows, base.cells, b.x, b.y, b.hid, b.mouse, tt, b.links⟩ ∧ tt = base.title ∧ base.cells.length = C * R := by
    unfold base16
    rw [q4, ex, ey]
    rcases hf0 with rfl | rfl
    · obtain ⟨rfl, hA⟩ := hbase.1 rfl
      rw [if_pos (q3.2 rfl)]
      refine ⟨base.title, ?_, rfl, hA.len⟩
      dsimp only
      rw [hA.c, hA.r, hA.mo, hA.lk, hb.c, hb.r, hb.mo, hb.lk]
    · have hA := hbase.2 rfl
      subst hA
      rw [if_neg (by rw [q3]; decide)]
      refine ⟨⟨#[]⟩, ?_, rfl, ?_⟩
      · rw [hb.c, hb.r, hb.mo, hb.lk]; rfl
      · show (List.replicate ((C : Int) * (R : Int)).toNat blankD).length = C * R
        rw [List.length_replicate, ← Int.natCast_mul]; rfl
  obtain ⟨tt, hb16, ett, hbl⟩ := hb16
  have htit : titP (flagsN f0 b.hid t) tt (ttlB t b.title ++ L) = some (b.title, L) := by
    unfold titP
    cases t with
    | true =>
      rw [if_pos (q5.2 rfl)]
      have htl := hb.tl
      have e1 : ttlB true b.title ++ L = lo b.title.size :: (strB b.title ++ L) := rfl
      rw [e1]
      simp only []
      rw [lo_small (by omega), if_neg (by rw [List.length_append, strB_len]; omega), List.take_append_of_le_length (by rw [strB_len]; exact Nat.le_refl _), List.take_of_length_le (by rw [strB_len]; exact Nat.le_refl _), List.drop_append_of_le_length (by rw [strB_len]; exact Nat.le_refl _), List.drop_of_length_le (by rw [strB_len]; exact Nat.le_refl _)]
      rfl
    | false =>
      rw [if_neg (by rw [q5]; decide)]
      have e2 : b.title = tt := by
        rw [Bool.not_eq_false', beq_iff_eq] at et
        rw [ett]
        exact titles_eq et
      rw [e2]
      rfl
  have hread : readP C R L base.cells = (0, b.cells) := by
    rw [eL, hb.c, hb.r, Int.toNat_natCast, Int.toNat_natCast]
    exact readP_told hbl hb.len (by omega) ht
  rw [hL]
  unfold app16
  rw [if_pos hfa]
  simp only []
  rw [ec, er, q1, if_neg (by rw [hfit]; simp; omega), if_neg ?_, hb16]
  · simp only []
    rw [htit]
    simp only []
    rw [hread]
    unfold end16
    rw [if_pos rfl]
    simp only []
    rw [if_pos hfb]
  · rintro ⟨h1, h2⟩
    obtain ⟨_, hA⟩ := hbase.1 (q3.1 h1)
    exact h2 ⟨hA.c.symm, hA.r.symm⟩
end Go.Proofs.YtipofokinjkclaaDoor

/- Plain: from a screen to itself with another cursor no row is told; the chapter's example by rows. Conditions: none. -/
namespace Go.Proofs.YtipofokinjkclaaDoor
open Go Go.RowKit Go.Lib

theorem rowsT_self (C : Nat) (a : List CeD) : ∀ y, rowsT C a a y = (0, [])
  | 0 => rfl
  | y + 1 => by rw [rowsT, if_pos (sameC_self _), rowsT_self C a y]
theorem still_fit {a : ScD} {x y : Int} {h : Bool} (hf : fit16 a = true) (x0 : 0 ≤ x) (x1 : x < a.cols) (y0 : 0 ≤ y) (y1 : y < a.rows) : fit16 ⟨a.cols, a.rows, a.cells, x, y, h, a.mouse, a.title, a.links⟩ = true := by
  unfold fit16 rightS at hf ⊢
  simp only [Bool.and_eq_true, Bool.not_eq_true', decide_eq_false_iff_not] at hf ⊢
  obtain ⟨⟨h1, h2, _, _, _, _, h3⟩, h4⟩ := hf
  exact ⟨⟨h1, h2, by omega, by omega, by omega, by omega, h3⟩, h4⟩
theorem still_enc {a : ScD} {x y : Int} {h : Bool} (hf : fit16 a = true) (x0 : 0 ≤ x) (x1 : x < a.cols) (y0 : 0 ≤ y) (y1 : y < a.rows) : ∃ p q r s t, enc16 a ⟨a.cols, a.rows, a.cells, x, y, h, a.mouse, a.title, a.links⟩ = ([p, q, r, s, t, 0], 0) := by
  unfold enc16
  rw [hf, still_fit hf x0 x1 y0 y1]
  simp only [Bool.and_self, beq_self_eq_true, if_true]
  unfold layB headB
  simp only [beq_self_eq_true, Bool.not_true]
  rw [rowsT_self]
  exact ⟨_, _, _, _, _, rfl⟩
/-- The chapter's example. -/
def fxCs16 : List CeD := [⟨97, 0, 0, 0, 0, 0⟩, blankD]
def fxS16 : ScD := ⟨2, 1, fxCs16, 0, 0, false, 0, ⟨#[]⟩, []⟩
set_option maxRecDepth 100000 in
theorem fx16_fit : fit16 (blankS 2 1) = true ∧ fit16 fxS16 = true := by constructor <;> kernel_rfl
set_option maxRecDepth 100000 in
theorem fx16_enc : enc16 (blankS 2 1) fxS16 = ([2, 1, 0, 0, 0, 1, 0, 0, 0, 0, 97, 0, 0, 0, 0, 0, 0, 0, 0, 32, 0, 0, 0, 0, 0], 0) := by kernel_rfl
end Go.Proofs.YtipofokinjkclaaDoor
