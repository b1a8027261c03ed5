/- Parts one behind the other: What Full and Encode (17) answer; Plain: from a screen to itself with another cursor no row is told; the chapter's example by rows; What law 16's great and fixed answer; What the reader of the layer wire does: its small methods. Conditions: as told at each. -/
import Derived.Test.YtnnekdefncfeeaaDoorPF18
import Derived.Test.YtnnekdefncfeeaaDoorPF11
import Derived.Test.YtnnekdefncfeeaaDoorPF15
import Derived.Test.YtnnekdefncfeeaaDoorPF13
import Derived.Test.YtnnekdefncfeeaaDoorPF16
import Derived.Test.YtnnekdefncfeeaaDoorPF1

set_option linter.unusedVariables false
set_option linter.unusedSimpArgs false
/- What Full and Encode (17) answer. Conditions: the screens' parts can be read; the tables lie where they were laid. -/
namespace Go.Proofs.YtnnekdefncfeeaaDoor
open Go Go.RowKit Go.Lib

theorem Fit17.fits {s : ScD} {C R : Nat} (h : Fit17 s C R) : fitsI (C : Int) (R : Int) = true := by
  have h1 := h.c1; have h2 := h.c2; have h3 := h.r1; have h4 := h.r2
  simp only [fitsI, Bool.and_eq_true, decide_eq_true_eq]
  omega
/-- Bytes of the own. -/
def Rl.ob (B : Nat) (bs : List UInt8) : Rl := ⟨fun w v => OwnB w B v bs, fun h hb => Own.below h hb⟩
/-- Bytes of the call's own, not too many. -/
def Rl.ownl (B : Nat) (bs : List UInt8) : Rl := ⟨fun w v => OwnB w B v bs ∧ bs.length ≤ 200000, fun h hb => ⟨Own.below h.1 hb, h.2⟩⟩
/-- Numbers in a slice. -/
def Rl.nus (n : Nat) (l : List Nat) : Rl := ⟨fun w v => ∃ X, v = .slice X n n ∧ Rd w X (l.map nv), fun ⟨X, h, r⟩ hb => ⟨X, h, r.below hb⟩⟩
set_option maxRecDepth 100000 in
set_option maxHeartbeats 16000000 in
theorem full17_c (b : ScD) (A : Option Addr) (n c : Nat) (L : Option Addr) (m cm : Nat) (w : World) (hs : ScR w b A n c L m cm) (hc : ∀ d ∈ b.cells, CeOk d) (hm : 0 ≤ b.mouse) (hU : TabU w) :
    Calls Tryd.prog 12 #[.agg (scC b A n c L m cm)] w fun e w' => ∃ v, e = .returned (.tuple #[v, .int .i64 ((full17 b).2 : Int)]) ∧ OwnB w' w.heap.size v (full17 b).1 ∧ Below w.heap.size w w' := by
  obtain ⟨X, eX⟩ : ∃ X, X = scC b A n c L m cm := ⟨_, rfl⟩
  rw [← eX]
  obtain ⟨W0, eW0⟩ : ∃ W0, W0 = w.alloc (.cells X 25) := ⟨_, rfl⟩
  obtain ⟨p, ep⟩ : ∃ p, p = w.heap.size := ⟨_, rfl⟩
  have hb0 : Below w.heap.size w W0 := by rw [eW0]; exact (Below.refl _ _).alloc (Nat.le_refl _) _
  have HP0 : Hid (ScB W0 p b A n c L m cm) := Lib.hid (by rw [eW0, ep, eX]; exact heap_alloc_new _ _)
  have EW0 := Lib.hid eW0
  have EP := Lib.hid ep
  have HB0 := Lib.hid hb0
  have HR0 := Lib.hid (hs.below hb0)
  have HU0 := Lib.hid (hU.next hb0)
  have HCO := Lib.hid hc
  have HMO := Lib.hid hm
  clear hm
  obtain ⟨Z, eZ⟩ : ∃ Z, full17 b = Z := ⟨_, rfl⟩
  rw [eZ]
  unfold full17 at eZ
  clear eX eW0 ep hb0 hs hU hc
  obtain ⟨b1, e1⟩ : ∃ t, fit17 b = t := ⟨_, rfl⟩
  rw [e1] at eZ
  have E1 := Lib.hid e1
  have EZ := Lib.hid eZ
  clear eZ e1
  go_enter Tryd.func12, Tryd.ntmps12
  go_upto_region 1 with (fail)
  rw [← EW0.out, ← EP.out]
  cases b1
  · go_wp2_with (first
      | (refine wpList_load_row rfl 25 (.tmp 1) rfl p rfl 25 _ (0, 0) _ HP0.out Tryd.underlying25 rfl (info_sc.trans rfl) ?_)
      | (go_at_call 15; (refine (fits17_c b A n c L m cm W0 HR0.out  HU0.out).mono ?_); rintro _ w1 ⟨rfl, hb1⟩; rw [E1.out]; have HB1 := Lib.hid (HB0.out.trans (hb1.mono HB0.out.size)); clear hb1))
    go_ret2
    exact ⟨_, by rw [← EZ.out] <;> rfl, by rw [← EZ.out]; exact Own.nil_ _ _ _, HB1.out⟩
  · obtain ⟨C, R, hf⟩ := fit17_of E1.out
    have HF := Lib.hid hf
    have HFI := Lib.hid hf.fits
    obtain ⟨N, eN⟩ : ∃ N, N = C * R := ⟨_, rfl⟩
    have HN := Lib.hid eN
    have HZ : Hid (((lo 1 :: varsL [C, R]) ++ lay17 (blankS C R) b, 0) = Z) := Lib.hid (by rw [← EZ.out, hf.c, hf.r]; simp only [varsL, List.flatMap_cons, List.flatMap_nil, List.append_nil, Int.toNat_natCast, if_true]; rfl)
    clear hf eN
    go_upto_region 4 with (first
      | (refine wpList_load_row rfl 25 (.tmp 1) rfl p rfl 25 _ (0, 0) _ HP0.out Tryd.underlying25 rfl (info_sc.trans rfl) ?_)
      | (go_at_call 15; (refine (fits17_c b A n c L m cm W0 HR0.out  HU0.out).mono ?_); rintro _ w1 ⟨rfl, hb1⟩; rw [E1.out]; have HB1 := Lib.hid (HB0.out.trans (hb1.mono HB0.out.size)); have HR1 := Lib.hid (HR0.out.below hb1); have HP1 := Lib.hid (HP0.out.below hb1); have x0 : w1.cell? ⟨p, 0, none⟩ = some (.int .i64 (C : Int)) := by { rw [← HF.out.c]; exact HP1.out.nine.1 }; have x1 : w1.cell? ⟨p, 1, none⟩ = some (.int .i64 (R : Int)) := by { rw [← HF.out.r]; exact HP1.out.nine.2.1 }; clear hb1)
      | (go_at_call 22; (refine (projBlank_c C R N w1 HFI.out HN.out).mono ?_); rintro _ w2 ⟨A2, c2, rfl, ho2, hb2⟩; have HS2 := Lib.hid (blank_read16 HFI.out HN.out ho2); have HB2 := Lib.hid (HB1.out.trans (hb2.mono HB1.out.size)); have HR2 := Lib.hid (HR1.out.below hb2); have HP2 := Lib.hid (HP1.out.below hb2); clear ho2 hb2)
      | (refine wpList_store_rowTo rfl 25 (.tmp 4) (.tmp 15) rfl rfl w2.heap.size (scC (blankS C R) A2 N c2 none 0 0) rfl rfl 25 _ (heap_alloc_new w2 _) (info_sc.trans rfl) rfl (sc_one _ _ _ _ _ _ _) ?_))
    generalize eX : World.alloc w2 _ = X3
    have hx : Below w2.heap.size w2 X3 := by rw [← eX]; exact (Below.refl _ _).alloc (Nat.le_refl _) _
    obtain ⟨old, hq2⟩ : ∃ old, X3.heap[w2.heap.size]? = some (.cells old 25 (0, 0)) := ⟨_, by rw [← eX]; exact heap_alloc_new _ _⟩
    obtain ⟨g, eg⟩ : ∃ g, g = w2.heap.size := ⟨_, rfl⟩
    obtain ⟨W3, eW3⟩ : ∃ W, W = X3.setRow w2.heap.size (scC (blankS C R) A2 N c2 none 0 0) := ⟨_, rfl⟩
    rw [← eW3, ← eg]
    have HG3 : Hid (ScB W3 g (blankS C R) A2 N c2 none 0 0) := Lib.hid (by rw [eW3, eg]; exact setRow_heap _ _ _ _ _ _ hq2)
    have hb3 : Below w2.heap.size w2 W3 := by rw [eW3]; exact below_setRow hx (Nat.le_refl _) _
    have HB3 := Lib.hid (HB2.out.trans (hb3.mono HB2.out.size))
    have HS3 := Lib.hid (HS2.out.below hb3)
    have HR3 := Lib.hid (HR2.out.below hb3)
    have HP3 := Lib.hid (HP2.out.below hb3)
    have HS3z : Hid (w.heap.size ≤ W3.heap.size) := Lib.hid HB3.out.size
    have HCR : Hid ((∀ x ∈ [C, R], x < 2 ^ 63) ∧ (varsL [C, R]).length ≤ 20) := Lib.hid (by
      have h1 := HF.out.c2; have h2 := HF.out.r2
      have h3 : ∀ x ∈ [C, R], x < 2 ^ 63 := by
        intro x hx
        simp only [List.mem_cons, List.not_mem_nil, or_false] at hx
        rcases hx with rfl | rfl <;> omega
      refine ⟨h3, ?_⟩
      have h4 := varsL_le [C, R] (fun x hx => by have := h3 x hx; unfold U64; omega)
      simpa using h4)
    clear eX hx hq2 eg eW3 hb3 x0 x1
    go_upto_region 4 with (fail)
    refine wp_region_rt 27 9 [Rl.eq (.pointer (some ⟨p, 0, none⟩)), Rl.eq (.int .i64 (C : Int)), Rl.eq (.pointer (some ⟨p, 1, none⟩)), Rl.eq (.int .i64 (R : Int)), Rl.nus 2 [C, R], Rl.ob w.heap.size (lo 1 :: varsL [C, R]), Rl.eq (.agg (scC (blankS C R) A2 N c2 none 0 0)), Rl.eq (.agg (scC b A n c L m cm)), Rl.ownl w.heap.size (lay17 (blankS C R) b)] [17, 18, 19, 20, 21, 22, 23, 24, 25, 26, 2, 3] (by kernel_rfl) rfl (by kernel_rfl) (by kernel_rfl) (by decide) (by kernel_rfl) (by kernel_rfl) ?_ ?_
    · simp only [List.take_succ_cons, List.take_zero]
      repeat (first | exact AllFrom.nil_ | (refine AllFrom.cons_ (by rfl) ?_ ?_; rotate_left))
      · intro f_ w' g_ hF hD
        have h1 : f_ 1 = .pointer (some ⟨p, 0, none⟩) := hF 1 (by kernel_rfl)
        rw [if_pos (wanted_none rfl)]
        clear hF hD
        exact gives_val (by simp only [execOp, evF, h1]; first | rfl | go_simp) ⟨Gr.refl _, rfl⟩
      · intro f_ w' g_ hF hD
        have h17 : f_ 17 = (.pointer (some ⟨p, 0, none⟩)) := hD 0 17 (by kernel_rfl) rfl
        rw [if_pos (wanted_none rfl)]
        clear hF hD
        have kg : Below W3.heap.size W3 w' := (below_drewN (Below.refl _ _) 1).trans g_
        have cl : w'.cell? ⟨p, 0, none⟩ = some (.int .i64 (C : Int)) := by rw [← HF.out.c]; exact (HP3.out.below kg).nine.1
        exact gives_val (by simp only [execOp, evF, h17]; go_simp) ⟨Gr.refl _, rfl⟩
      · intro f_ w' g_ hF hD
        have h1 : f_ 1 = .pointer (some ⟨p, 0, none⟩) := hF 1 (by kernel_rfl)
        rw [if_pos (wanted_none rfl)]
        clear hF hD
        exact gives_val (by simp only [execOp, evF, h1]; first | rfl | go_simp) ⟨Gr.refl _, rfl⟩
      · intro f_ w' g_ hF hD
        have h19 : f_ 19 = (.pointer (some ⟨p, 1, none⟩)) := hD 2 19 (by kernel_rfl) rfl
        rw [if_pos (wanted_none rfl)]
        clear hF hD
        have kg : Below W3.heap.size W3 w' := (below_drewN (Below.refl _ _) 1).trans g_
        have cl : w'.cell? ⟨p, 1, none⟩ = some (.int .i64 (R : Int)) := by rw [← HF.out.r]; exact (HP3.out.below kg).nine.2.1
        exact gives_val (by simp only [execOp, evF, h19]; go_simp) ⟨Gr.refl _, rfl⟩
      · intro f_ w' g_ hF hD
        have h18 : f_ 18 = (.int .i64 (C : Int)) := hD 1 18 (by kernel_rfl) rfl
        have h20 : f_ 20 = (.int .i64 (R : Int)) := hD 3 20 (by kernel_rfl) rfl
        rw [if_pos (wanted_none rfl)]
        clear hF hD
        have r1 : ∃ X, Value.slice (some ⟨w'.heap.size, 0, none⟩) 2 2 = .slice X 2 2 ∧ Rd (w'.alloc (.cells #[.int .i64 (C : Int), .int .i64 (R : Int)] 3)) X ([C, R].map nv) := ⟨_, rfl, rd_nums w' [C, R] _ _ rfl⟩
        exact gives_val (by simp only [execOp, evF, h18, h20]; first | rfl | go_simp) ⟨(Below.refl _ _).alloc (Nat.le_refl _) _, r1⟩
      · intro f_ w' g_ hF hD
        have q21 := hD 4 21 (by kernel_rfl) rfl
        rw [if_pos (wanted_none rfl)]
        clear hF hD
        have kg : Below W3.heap.size W3 w' := (below_drewN (Below.refl _ _) 1).trans g_
        obtain ⟨X21, e21, r21⟩ := q21
        refine gives_func rfl Tryd.func23 (by kernel_rfl) rfl (by simp only [List.map_toArray, List.map_cons, List.map_nil, evF, e21]; rfl) ((put17_c 1 (by decide) X21 2 2 [C, R] w' rfl r21 (by decide) HCR.out.1).mono ?_)
        rintro e w'' ⟨v, rfl, ho, hb⟩
        exact ⟨_, rfl, hb, Own.low ho (Nat.le_trans HS3z.out kg.size)⟩
      · intro f_ w' g_ hF hD
        have h4 : f_ 4 = .pointer (some ⟨g, 0, none⟩) := hF 4 (by kernel_rfl)
        rw [if_pos (wanted_none rfl)]
        clear hF hD
        have kg : Below W3.heap.size W3 w' := (below_drewN (Below.refl _ _) 1).trans g_
        exact gives_load_row 25 (.tmp 4) rfl g (by simp only [evF, h4]) 25 (scC (blankS C R) A2 N c2 none 0 0) (0, 0) _ (HG3.out.below kg) Tryd.underlying25 rfl (info_sc.trans rfl) ⟨Gr.refl _, rfl⟩
      · intro f_ w' g_ hF hD
        have h1 : f_ 1 = .pointer (some ⟨p, 0, none⟩) := hF 1 (by kernel_rfl)
        rw [if_pos (wanted_none rfl)]
        clear hF hD
        have kg : Below W3.heap.size W3 w' := (below_drewN (Below.refl _ _) 1).trans g_
        exact gives_load_row 25 (.tmp 1) rfl p (by simp only [evF, h1]) 25 (scC b A n c L m cm) (0, 0) _ (HP3.out.below kg) Tryd.underlying25 rfl (info_sc.trans rfl) ⟨Gr.refl _, rfl⟩
      · intro f_ w' g_ hF hD
        have h23 : f_ 23 = (.agg (scC (blankS C R) A2 N c2 none 0 0)) := hD 6 23 (by kernel_rfl) rfl
        have h24 : f_ 24 = (.agg (scC b A n c L m cm)) := hD 7 24 (by kernel_rfl) rfl
        rw [if_pos (wanted_none rfl)]
        clear hF hD
        have kg : Below W3.heap.size W3 w' := (below_drewN (Below.refl _ _) 1).trans g_
        refine gives_func rfl Tryd.func20 (by kernel_rfl) rfl (by simp only [List.map_toArray, List.map_cons, List.map_nil, evF, h23, h24]) ((lay17_c (blankS C R) b A2 N c2 none 0 0 A n c L m cm C R w' (HS3.out.below kg) (HR3.out.below kg) HF.out HCO.out (by rw [HS3.out.hn, HN.out]) HMO.out).mono ?_)
        rintro e w'' ⟨v, rfl, ho, hb, hl⟩
        exact ⟨_, rfl, hb, Own.low ho (Nat.le_trans HS3z.out kg.size), hl⟩
    intro f_ w7 gg hD
    have h22 : OwnB w7 w.heap.size (f_ 22) (lo 1 :: varsL [C, R]) := hD 5 22 (by decide) rfl
    obtain ⟨h25, hl25⟩ : OwnB w7 w.heap.size (f_ 25) (lay17 (blankS C R) b) ∧ (lay17 (blankS C R) b).length ≤ 200000 := hD 8 25 (by decide) rfl
    simp only [List.drop_succ_cons, List.drop_zero, putAll, List.setIfInBounds_toArray, List.set_cons_zero, List.set_cons_succ]
    have H22 := Lib.hid h22
    obtain ⟨A5, c5, e5, _, _, r5, _⟩ := OwnB.form h25
    have R5 := Lib.hid r5
    have kg : Below W3.heap.size W3 w7 := (below_drewN (Below.refl _ _) 1).trans gg
    have HK7 := Lib.hid (HB3.out.trans (kg.mono HS3z.out))
    have HLN : Hid ((lo 1 :: varsL [C, R]).length ≤ 21) := Lib.hid (by rw [List.length_cons]; have := HCR.out.2; omega)
    have HL5 := Lib.hid hl25
    rw [e5]
    generalize f_ 17 = d17
    generalize f_ 18 = d18
    generalize f_ 19 = d19
    generalize f_ 20 = d20
    generalize f_ 21 = d21
    generalize f_ 22 = d22 at H22 ⊢
    generalize f_ 23 = d23
    generalize f_ 24 = d24
    generalize f_ 26 = d26
    clear hD gg h22 h25 hl25 r5 kg e5
    go_wp2_with (first
      | (at_builtin; refine wpList_appB _ rfl (.tmp 22) (.tmp 25) rfl w.heap.size _ _ rfl H22.out A5 _ c5 _ rfl rfl R5.out (by have := HLN.out; have := HL5.out; omega) HK7.out.size ?_; intro v8 w8 h8 hg8 _; have HO8 := Lib.hid h8; have HK8 := Lib.hid (HK7.out.grown hg8 HK7.out.size (fun q e => (Own.lt H22.out q e).1)); clear h8 hg8))
    go_ret2
    exact ⟨_, by rw [← HZ.out] <;> rfl, by rw [← HZ.out]; exact HO8.out, HK8.out⟩
set_option maxRecDepth 100000 in
set_option maxHeartbeats 16000000 in
theorem enc17_c (a b : ScD) (A1 : Option Addr) (n1 c1 : Nat) (L1 : Option Addr) (m1 k1 : Nat) (A : Option Addr) (n c : Nat) (L : Option Addr) (m cm : Nat) (w : World) (ha : ScR w a A1 n1 c1 L1 m1 k1) (hs : ScR w b A n c L m cm) (hc : ∀ d ∈ b.cells, CeOk d) (hm : 0 ≤ b.mouse) (hU : TabU w) :
    Calls Tryd.prog 10 #[.agg (scC a A1 n1 c1 L1 m1 k1), .agg (scC b A n c L m cm)] w fun e w' => ∃ v, e = .returned (.tuple #[v, .int .i64 ((enc17 a b).2 : Int)]) ∧ OwnB w' w.heap.size v (enc17 a b).1 ∧ Below w.heap.size w w' := by
  obtain ⟨X, eX⟩ : ∃ X, X = scC a A1 n1 c1 L1 m1 k1 := ⟨_, rfl⟩
  obtain ⟨Y, eY⟩ : ∃ Y, Y = scC b A n c L m cm := ⟨_, rfl⟩
  rw [← eX, ← eY]
  obtain ⟨W0, eW0⟩ : ∃ W0, W0 = (w.alloc (.cells X 25)).alloc (.cells Y 25) := ⟨_, rfl⟩
  obtain ⟨p, ep⟩ : ∃ p, p = w.heap.size := ⟨_, rfl⟩
  obtain ⟨q, eq⟩ : ∃ q, q = w.heap.size + 1 := ⟨_, rfl⟩
  have hb0 : Below w.heap.size w W0 := by rw [eW0]; exact ((Below.refl _ _).alloc (Nat.le_refl _) _).alloc (by simp) _
  have HP0 : Hid (ScB W0 p a A1 n1 c1 L1 m1 k1) := Lib.hid (by rw [eW0, ep, eX]; exact (Below.heap_alloc _ _ _ (by simp)).trans (heap_alloc_new _ _))
  have HQ0 : Hid (ScB W0 q b A n c L m cm) := Lib.hid (by rw [eW0, eq, eY]; exact heap_alloc2_new _ _ _)
  have EW0 := Lib.hid eW0
  have EP := Lib.hid ep
  have EQ := Lib.hid eq
  have HB0 := Lib.hid hb0
  have HA0 := Lib.hid (ha.below hb0)
  have HR0 := Lib.hid (hs.below hb0)
  have HU0 := Lib.hid (hU.next hb0)
  have HCO := Lib.hid hc
  have HMO := Lib.hid hm
  clear hm
  obtain ⟨Z, eZ⟩ : ∃ Z, enc17 a b = Z := ⟨_, rfl⟩
  rw [eZ]
  unfold enc17 at eZ
  clear eX eY eW0 ep eq hb0 ha hs hU hc
  obtain ⟨b1, e1⟩ : ∃ t, fit17 a = t := ⟨_, rfl⟩
  obtain ⟨b2, e2⟩ : ∃ t, fit17 b = t := ⟨_, rfl⟩
  rw [e1, e2] at eZ
  have E1 := Lib.hid e1
  have E2 := Lib.hid e2
  have EZ := Lib.hid eZ
  clear eZ e1 e2
  go_enter Tryd.func10, Tryd.ntmps10
  go_upto_region 1 with (fail)
  rw [← EW0.out, ← EQ.out, ← EP.out]
  cases b1
  · go_wp2_with (first
      | (refine wpList_load_row rfl 25 (.tmp 2) rfl p rfl 25 _ (0, 0) _ HP0.out Tryd.underlying25 rfl (info_sc.trans rfl) ?_)
      | (go_at_call 15; (refine (fits17_c a A1 n1 c1 L1 m1 k1 W0 HA0.out  HU0.out).mono ?_); rintro _ w1 ⟨rfl, hb1⟩; rw [E1.out]; have HB1 := Lib.hid (HB0.out.trans (hb1.mono HB0.out.size)); clear hb1))
    go_ret2
    exact ⟨_, by rw [← EZ.out] <;> rfl, by rw [← EZ.out]; exact Own.nil_ _ _ _, HB1.out⟩
  · cases b2
    · go_wp2_with (first
        | (refine wpList_load_row rfl 25 (.tmp 2) rfl p rfl 25 _ (0, 0) _ HP0.out Tryd.underlying25 rfl (info_sc.trans rfl) ?_)
        | ((with_reducible refine wpList_openG (o := ⟨some 11, _, _, _, _, _⟩) rfl ?_); (refine wpList_load_row rfl 25 (.tmp 3) rfl q rfl 25 _ (0, 0) _ HQ1.out Tryd.underlying25 rfl (info_sc.trans rfl) ?_))
        | (go_at_call 15; (refine (fits17_c b A n c L m cm w1 HR1.out  HU1.out).mono ?_); rintro _ w2 ⟨rfl, hb2⟩; rw [E2.out]; have HB2 := Lib.hid (HB1.out.trans (hb2.mono HB1.out.size)); clear hb2)
        | (go_at_call 15; (refine (fits17_c a A1 n1 c1 L1 m1 k1 W0 HA0.out  HU0.out).mono ?_); rintro _ w1 ⟨rfl, hb1⟩; rw [E1.out]; have HB1 := Lib.hid (HB0.out.trans (hb1.mono HB0.out.size)); have HR1 := Lib.hid (HR0.out.below hb1); have HQ1 := Lib.hid (HQ0.out.below hb1); have HU1 := Lib.hid (HU0.out.next hb1); clear hb1))
      go_ret2
      exact ⟨_, by rw [← EZ.out] <;> rfl, by rw [← EZ.out]; exact Own.nil_ _ _ _, HB2.out⟩
    · obtain ⟨C1, R1, hf1⟩ := fit17_of E1.out
      obtain ⟨C, R, hf⟩ := fit17_of E2.out
      have HF1 := Lib.hid hf1
      have HF := Lib.hid hf
      clear hf1 hf
      go_upto_if 6 with (first
        | (refine wpList_load_row rfl 25 (.tmp 2) rfl p rfl 25 _ (0, 0) _ HP0.out Tryd.underlying25 rfl (info_sc.trans rfl) ?_)
        | ((with_reducible refine wpList_openG (o := ⟨some 11, _, _, _, _, _⟩) rfl ?_); (refine wpList_load_row rfl 25 (.tmp 3) rfl q rfl 25 _ (0, 0) _ HQ1.out Tryd.underlying25 rfl (info_sc.trans rfl) ?_))
        | (go_at_call 15; (refine (fits17_c b A n c L m cm w1 HR1.out  HU1.out).mono ?_); rintro _ w2 ⟨rfl, hb2⟩; rw [E2.out]; have HB2 := Lib.hid (HB1.out.trans (hb2.mono HB1.out.size)); have HR2 := Lib.hid (HR1.out.below hb2); have HA2 := Lib.hid (HA1.out.below hb2); have HQ2 := Lib.hid (HQ1.out.below hb2); have HP2 := Lib.hid (HP1.out.below hb2); have HU2 := Lib.hid (HU1.out.next hb2); clear hb2)
        | (go_at_call 15; (refine (fits17_c a A1 n1 c1 L1 m1 k1 W0 HA0.out  HU0.out).mono ?_); rintro _ w1 ⟨rfl, hb1⟩; rw [E1.out]; have HB1 := Lib.hid (HB0.out.trans (hb1.mono HB0.out.size)); have HR1 := Lib.hid (HR0.out.below hb1); have HA1 := Lib.hid (HA0.out.below hb1); have HQ1 := Lib.hid (HQ0.out.below hb1); have HP1 := Lib.hid (HP0.out.below hb1); have HU1 := Lib.hid (HU0.out.next hb1); clear hb1))
      have x0 : w2.cell? ⟨p, 0, none⟩ = some (.int .i64 (C1 : Int)) := by rw [← HF1.out.c]; exact HP2.out.nine.1
      have x1 : w2.cell? ⟨p, 1, none⟩ = some (.int .i64 (R1 : Int)) := by rw [← HF1.out.r]; exact HP2.out.nine.2.1
      have y0 : w2.cell? ⟨q, 0, none⟩ = some (.int .i64 (C : Int)) := by rw [← HF.out.c]; exact HQ2.out.nine.1
      have y1 : w2.cell? ⟨q, 1, none⟩ = some (.int .i64 (R : Int)) := by rw [← HF.out.r]; exact HQ2.out.nine.2.1
      by_cases hC : C1 = C
      · have hC' : ((C1 : Int) == (C : Int)) = true := by rw [hC]; exact beq_self_eq_true _
        have hCn : ((C1 : Int) != (C : Int)) = false := by rw [bne, hC']; rfl
        by_cases hR : R1 = R
        · have hR' : ((R1 : Int) == (R : Int)) = true := by rw [hR]; exact beq_self_eq_true _
          have hRn : ((R1 : Int) != (R : Int)) = false := by rw [bne, hR']; rfl
          have HZ : Hid ((lay17 a b, 0) = Z) := Lib.hid (by rw [← EZ.out, HF1.out.c, HF1.out.r, HF.out.c, HF.out.r, hC', hR']; rfl)
          have HAL : Hid (a.cells.length = C * R) := Lib.hid (by rw [HF1.out.len, hC, hR])
          clear hC hR
          go_wp2_with (first
            | (refine wpList_load_row rfl 25 (.tmp 2) rfl p rfl 25 _ (0, 0) _ HP2.out Tryd.underlying25 rfl (info_sc.trans rfl) ?_)
            | (refine wpList_load_row rfl 25 (.tmp 3) rfl q rfl 25 _ (0, 0) _ HQ2.out Tryd.underlying25 rfl (info_sc.trans rfl) ?_)
            | (go_at_call 20; (refine (lay17_c a b A1 n1 c1 L1 m1 k1 A n c L m cm C R w2 HA2.out HR2.out HF.out HCO.out HAL.out HMO.out).mono ?_); rintro _ w4 ⟨v4, rfl, ho4, hb4, -⟩; have HO4 := Lib.hid (Own.low ho4 HB2.out.size); have HB4 := Lib.hid (HB2.out.trans (hb4.mono HB2.out.size)); clear ho4 hb4))
          go_ret2
          exact ⟨_, by rw [← HZ.out] <;> rfl, by rw [← HZ.out]; exact HO4.out, HB4.out⟩
        · have hR' : ((R1 : Int) == (R : Int)) = false := by rw [beq_eq_false_iff_ne]; omega
          have hRn : ((R1 : Int) != (R : Int)) = true := by rw [bne, hR']; rfl
          have HZ : Hid (full17 b = Z) := Lib.hid (by rw [← EZ.out, HF1.out.c, HF1.out.r, HF.out.c, HF.out.r, hC', hR']; rfl)
          clear hC hR
          go_wp2_with (first
            | (refine wpList_load_row rfl 25 (.tmp 3) rfl q rfl 25 _ (0, 0) _ HQ2.out Tryd.underlying25 rfl (info_sc.trans rfl) ?_)
            | (go_at_call 12; (refine (full17_c b A n c L m cm w2 HR2.out HCO.out HMO.out HU2.out).mono ?_); rintro _ w4 ⟨v4, rfl, ho4, hb4⟩; have HO4 := Lib.hid (Own.low ho4 HB2.out.size); have HB4 := Lib.hid (HB2.out.trans (hb4.mono HB2.out.size)); clear ho4 hb4))
          go_ret2
          exact ⟨_, by rw [← HZ.out] <;> rfl, by rw [← HZ.out]; exact HO4.out, HB4.out⟩
      · have hC' : ((C1 : Int) == (C : Int)) = false := by rw [beq_eq_false_iff_ne]; omega
        have hCn : ((C1 : Int) != (C : Int)) = true := by rw [bne, hC']; rfl
        have HZ : Hid (full17 b = Z) := Lib.hid (by rw [← EZ.out, HF1.out.c, HF1.out.r, HF.out.c, HF.out.r, hC']; rfl)
        clear hC
        go_wp2_with (first
          | (refine wpList_load_row rfl 25 (.tmp 3) rfl q rfl 25 _ (0, 0) _ HQ2.out Tryd.underlying25 rfl (info_sc.trans rfl) ?_)
          | (go_at_call 12; (refine (full17_c b A n c L m cm w2 HR2.out HCO.out HMO.out HU2.out).mono ?_); rintro _ w4 ⟨v4, rfl, ho4, hb4⟩; have HO4 := Lib.hid (Own.low ho4 HB2.out.size); have HB4 := Lib.hid (HB2.out.trans (hb4.mono HB2.out.size)); clear ho4 hb4))
        go_ret2
        exact ⟨_, by rw [← HZ.out] <;> rfl, by rw [← HZ.out]; exact HO4.out, HB4.out⟩
end Go.Proofs.YtnnekdefncfeeaaDoor


/- Plain: from a screen to itself with another cursor no row is told; the chapter's example by rows. Conditions: none. -/
namespace Go.Proofs.YtnnekdefncfeeaaDoor
open Go Go.RowKit Go.Lib

end Go.Proofs.YtnnekdefncfeeaaDoor


/- What law 16's great and fixed answer. Conditions: the tables lie where they were laid. -/
namespace Go.Proofs.YtnnekdefncfeeaaDoor
open Go Go.RowKit Go.Lib

theorem rd_lit (w : World) (bs : List UInt8) (vs : Array Value) (hv : vs = (bs.map bv).toArray) (hm : bs.length ≤ 1000) : Rd (w.alloc (.cells vs 5)) (some ⟨w.heap.size, 0, none⟩) (bs.map bv) := by
  obtain ⟨A, c, e, _, _, h, _⟩ := OwnB.form (OwnB_lit w bs vs hv bs.length rfl hm)
  injection e with e1 e2 e3
  subst e1
  exact h
theorem own_at {w : World} {B n c : Nat} {A : Option Addr} {ds : List CeD} (h : OwnC w B (.slice A n c) ds) (h0 : 0 < ds.length) : ∃ b, A = some ⟨b, 0, none⟩ := by
  obtain ⟨h1, _, h2, h3, h4⟩ := h.parts
  cases hA : A with
  | none =>
    have := h4 hA
    omega
  | some a =>
    obtain ⟨_, _, g1, g2⟩ := h3 a hA
    obtain ⟨bb, oo, ss⟩ := a
    cases g1; cases g2
    exact ⟨bb, rfl⟩
end Go.Proofs.YtnnekdefncfeeaaDoor


/- What the reader of the layer wire does: its small methods. Conditions: a reader that lies in a block of its own. -/
namespace Go.Proofs.YtnnekdefncfeeaaDoor
open Go Go.RowKit

/-- A reader's state: its bytes, its place, its error; where its bytes lie (no word of the program's). -/
structure RS where
  b : List UInt8
  at_ : Nat
  err : Nat
  gA : Option Addr

/-- Block r holds the reader s. -/
def Rdr (w : World) (r : Nat) (s : RS) : Prop :=
  ∃ A c, w.heap[r]? = some (.cells #[.slice A s.b.length c, .int .i64 (s.at_ : Int), .int .i64 (s.err : Int)] 96 (0, 0)) ∧ Rd w A (s.b.map bv) ∧ (A = s.gA ∧ ∀ a, A = some a → a.block ≠ r) ∧
    s.b.length ≤ c ∧ c ≤ maxLen ∧ s.at_ ≤ s.b.length ∧ s.b.length ≤ 140737488355328

theorem Rdr.below {w w' : World} {r : Nat} {s : RS} (h : Rdr w r s) (hb : Below w.heap.size w w') : Rdr w' r s := by
  obtain ⟨A, c, h1, h2, h3⟩ := h
  exact ⟨A, c, (hb.block r (heap_lt h1)).trans h1, h2.below hb, h3⟩
theorem Rdr.drewN {w : World} {r : Nat} {s : RS} (h : Rdr w r s) (n : Nat) : Rdr (w.drewN n) r s := h
theorem Rdr.lt {w : World} {r : Nat} {s : RS} (h : Rdr w r s) : r < w.heap.size := by
  obtain ⟨A, c, h1, _⟩ := h; exact heap_lt h1

set_option maxRecDepth 100000 in
set_option maxHeartbeats 400000 in
theorem Rnew_c (A : Option Addr) (n c : Nat) (bs : List UInt8) (w : World) (hn : bs.length = n) (hr : Rd w A (bs.map bv)) (hl : n ≤ 140737488355328) :
    Calls Tryd.prog 33 #[.slice A n c] w fun e w' => ∃ r A', e = .returned (.pointer (some ⟨r, 0, none⟩)) ∧ w.heap.size ≤ r ∧ Rdr w' r ⟨bs, 0, 0, A'⟩ ∧ Below w.heap.size w w' ∧ ∀ a, A' = some a → w.heap.size ≤ a.block ∧ a.block < w'.heap.size := by
  have HN := Lib.hid hn; clear hn
  go_enter Tryd.func33, Tryd.ntmps33
  go_wp2_with (first | (at_builtin; refine wpList_cloneB _ rfl (.tmp 3) rfl A n c bs rfl HN.out hr hl ?_; intro A' c' w2 h1 h2 h3 h4 h5 h6; have H1 := Lib.hid h1; clear h1; have H5 := Lib.hid h5; clear h5; have H6 := Lib.hid h6; clear h6))
  go_ret
  have hz := h2.size
  refine ⟨_, A', rfl, hz, ⟨A', c', ?_, Rd.alloc H5.out _, ⟨rfl, ?_⟩, by simp [HN.out]; exact h3, h4, Nat.zero_le _, by simp [HN.out]; exact hl⟩, h2.alloc hz _, ?_⟩
  · rw [heap_alloc_new]; simp [HN.out]
  · intro a ha; have := (H6.out a ha).2; omega
  · intro a ha; have := H6.out a ha; simp only [World.size_alloc]; omega

/-- The reader's cells, for a walk. -/
theorem Rdr.open_ {w : World} {r : Nat} {s : RS} (h : Rdr w r s) : ∃ A c, (w.cell? ⟨r, 0, none⟩ = some (.slice A s.b.length c) ∧ w.cell? ⟨r, 1, none⟩ = some (.int .i64 (s.at_ : Int)) ∧ w.cell? ⟨r, 2, none⟩ = some (.int .i64 (s.err : Int))) ∧
    (w.frozen? ⟨r, 0, none⟩ = false ∧ w.frozen? ⟨r, 1, none⟩ = false ∧ w.frozen? ⟨r, 2, none⟩ = false) ∧ Rd w A (s.b.map bv) ∧ s.b.length ≤ c ∧ c ≤ maxLen ∧ s.at_ ≤ s.b.length ∧ s.b.length ≤ 140737488355328 := by
  obtain ⟨A, c, h1, h2, h3, h4, h5, h6, h7⟩ := h
  exact ⟨A, c, ⟨by rw [heap_cell h1]; rfl, by rw [heap_cell h1]; rfl, by rw [heap_cell h1]; rfl⟩, ⟨heap_free h1 _, heap_free h1 _, heap_free h1 _⟩, h2, h4, h5, h6, h7⟩
theorem Rdr.setErr {w : World} {r : Nat} {s : RS} (h : Rdr w r s) (e : Nat) : Rdr (w.setCell ⟨r, 2, none⟩ (.int .i64 (e : Int))) r { s with err := e } := by
  obtain ⟨A, c, h1, h2, h3, h4⟩ := h
  exact ⟨A, c, by rw [heap_set h1]; rfl, h2.far _ h3.2, h3, h4⟩
theorem Rdr.setAt {w : World} {r : Nat} {s : RS} (h : Rdr w r s) (k : Nat) (hk : k ≤ s.b.length) : Rdr (w.setCell ⟨r, 1, none⟩ (.int .i64 (k : Int))) r { s with at_ := k } := by
  obtain ⟨A, c, h1, h2, h3, h4, h5, _, h6⟩ := h
  exact ⟨A, c, by rw [heap_set h1]; rfl, h2.far _ h3.2, h3, h4, h5, hk, h6⟩
/-! ### Err, Left, End -/
set_option maxRecDepth 100000 in
set_option maxHeartbeats 400000 in
theorem Rerr_c (r : Nat) (s : RS) (w : World) (h : Rdr w r s) :
    Calls Tryd.prog 81 #[.pointer (some ⟨r, 0, none⟩)] w fun e w' => e = .returned (.int .i64 (s.err : Int)) ∧ w = w' := by
  obtain ⟨A, c, ⟨c0, c1, c2⟩, _, _⟩ := h.open_
  go_enter Tryd.func81, Tryd.ntmps81
  go_wp2
  go_ret
  exact ⟨rfl, rfl⟩

set_option maxRecDepth 100000 in
set_option maxHeartbeats 400000 in
theorem Rleft_c (r : Nat) (s : RS) (w : World) (h : Rdr w r s) :
    Calls Tryd.prog 34 #[.pointer (some ⟨r, 0, none⟩)] w fun e w' => e = .returned (.int .i64 ((s.b.length - s.at_ : Nat) : Int)) ∧ ∃ q, w' = w.drewN q := by
  obtain ⟨A, c, ⟨c0, c1, c2⟩, _, _, _, _, hk, hl⟩ := h.open_
  have e1 : ((s.b.length - s.at_ : Nat) : Int) = (s.b.length : Int) - (s.at_ : Int) := by omega
  rw [e1]
  clear e1
  go_enter Tryd.func34, Tryd.ntmps34
  go_wp2
  go_quiet (fail)
  go_wp2
  go_ret
  exact ⟨rfl, _, rfl⟩

end Go.Proofs.YtnnekdefncfeeaaDoor

