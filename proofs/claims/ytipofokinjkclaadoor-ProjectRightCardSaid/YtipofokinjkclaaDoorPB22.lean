/- Parts one behind the other: The walk of ProjectRight: of a screen that may be the answer may be; with all features it is the screen. Conditions: as told at each. -/
import Derived.Test.YtipofokinjkclaaDoorPB21

set_option linter.unusedVariables false
set_option linter.unusedSimpArgs false
/- The walk of ProjectRight: of a screen that may be the answer may be; with all features it is the screen. Conditions: the tables lie where they were laid. -/
namespace Go.Proofs.YtipofokinjkclaaDoor
open Go Go.RowKit Go.Lib

theorem all_lt {f : Nat} (hf : f < 4294967296) : f ||| 63 < 4294967296 := Nat.or_lt_two_pow (n := 32) hf (by decide)
theorem all_bits (f : Nat) (hf : f < 4294967296) : bits BinOp.or .u32 (f : Int) 63 = ((f ||| 63 : Nat) : Int) := by
  rw [show (63 : Int) = ((63 : Nat) : Int) from rfl, u32_or_nat f 63 hf (by decide)]
theorem PJ_all (f : Nat) {s : ScD} (h : rightS s = true) : PJ (f ||| 63) s = s := by
  unfold PJ
  simp only [Nat.testBit_or, show (63 : Nat).testBit 0 = true from rfl, show (63 : Nat).testBit 1 = true from rfl, show (63 : Nat).testBit 2 = true from rfl, show (63 : Nat).testBit 3 = true from rfl, show (63 : Nat).testBit 4 = true from rfl, show (63 : Nat).testBit 5 = true from rfl, Bool.or_true]
  exact projS_all h
theorem PJ_size (f : Nat) {s : ScD} (h : rightS s = true) : (PJ f s).cols = s.cols ∧ (PJ f s).rows = s.rows ∧ (PJ f s).x = s.x ∧ (PJ f s).y = s.y := by
  unfold PJ projS
  rw [if_pos h]
  exact ⟨rfl, rfl, rfl, rfl⟩
set_option maxRecDepth 100000 in
set_option maxHeartbeats 16000000 in
theorem ProjectRight_walk (w : World) (s : ScD) (A : Option Addr) (n c : Nat) (L : Option Addr) (m cm : Nat) (hs : ScO w s A n c L m cm) (ft : Int) (wf : (Lit.int .u32 ft).wf = true) (hU : TabU w) (hC : TabC w) :
    Calls Tryd.prog 6 #[.agg (scC s A n c L m cm), .int .u32 ft] w fun r w' => r = .returned (.bool true) ∧ Below w.heap.size w w' := by
  obtain ⟨f, rfl, hf⟩ := nat32 wf
  clear wf
  obtain ⟨X, eX⟩ : ∃ X, X = scC s A n c L m cm := ⟨_, rfl⟩
  rw [← eX]
  obtain ⟨W0, eW0⟩ : ∃ W0, W0 = w.alloc (.cells X 25) := ⟨_, rfl⟩
  obtain ⟨p, ep⟩ : ∃ p, p = w.heap.size := ⟨_, rfl⟩
  have hb0 : Below w.heap.size w W0 := by rw [eW0]; exact (Below.refl _ _).alloc (Nat.le_refl _) _
  have HP0 : Hid (ScB W0 p s A n c L m cm) := Lib.hid (by rw [eW0, ep, eX]; exact heap_alloc_new _ _)
  have EW0 := Lib.hid eW0
  have EP := Lib.hid ep
  have HB0 := Lib.hid hb0
  have HF := Lib.hid hf
  have HS := Lib.hid hs
  have HU := Lib.hid hU
  have HC := Lib.hid hC
  clear eX eW0 ep hb0 hf hs hU hC
  obtain ⟨GB, eGB⟩ : ∃ b, greatB n s.title.size m = b := ⟨_, rfl⟩
  have HGB := Lib.hid eGB
  clear eGB
  obtain ⟨RG, eRG⟩ : ∃ b, rightS s = b := ⟨_, rfl⟩
  have HRG := Lib.hid eRG
  clear eRG
  go_enter Tryd.func6, Tryd.ntmps6
  go_upto_region 1 with (fail)
  rw [← EW0.out, ← EP.out]
  cases GB
  rotate_left
  · go_wp2_with (first
      | (refine wpList_load_row rfl 25 (.tmp 2) rfl p rfl 25 _ (0, 0) _ HP0.out Tryd.underlying25 rfl (info_sc.trans rfl) ?_)
      | (go_at_call 28; (refine (great15_c s A n c L m cm W0).mono ?_); rintro _ w1 ⟨rfl, hb1⟩; rw [HGB.out]; have HB1 := Lib.hid (HB0.out.trans (hb1.mono HB0.out.size)); have HP1 := Lib.hid (HP0.out.below hb1); clear hb1)
      | (go_at_call 29; (refine (fixed15_c w1 (HU.out.next HB1.out) (HC.out.next HB1.out)).mono ?_); rintro _ w9 ⟨rfl, hb9⟩; have HB9 := Lib.hid (HB1.out.trans (hb9.mono HB1.out.size)); clear hb9))
    go_ret
    exact ⟨rfl, HB9.out⟩
  · have HSM := Lib.hid (greatB_no HGB.out)
    have HSO : Hid (Sound s) := Lib.hid (HS.out.sound (by have := HSM.out; omega) (by have := HSM.out; omega) (by have := HSM.out; omega))
    have HRS : Hid (ScR w s A n c L m cm) := Lib.hid (HS.out.small (by have := HSM.out; omega) (by have := HSM.out; omega) (by have := HSM.out; omega))
    cases RG
    · go_wp2_with (first
        | (refine wpList_load_row rfl 25 (.tmp 2) rfl p rfl 25 _ (0, 0) _ HP0.out Tryd.underlying25 rfl (info_sc.trans rfl) ?_)
        | ((with_reducible refine wpList_openG (o := ⟨some 9, _, _, _, _, _⟩) rfl ?_); (refine wpList_load_row rfl 25 (.tmp 2) rfl p rfl 25 _ (0, 0) _ HP1.out Tryd.underlying25 rfl (info_sc.trans rfl) ?_))
        | (go_at_call 28; (refine (great15_c s A n c L m cm W0).mono ?_); rintro _ w1 ⟨rfl, hb1⟩; rw [HGB.out]; have HB1 := Lib.hid (HB0.out.trans (hb1.mono HB0.out.size)); have HP1 := Lib.hid (HP0.out.below hb1); clear hb1)
        | (go_at_call 32; (refine (refRight_c s A n c L m cm w1 (HRS.out.below HB1.out) (HU.out.next HB1.out)).mono ?_); rintro _ w2 ⟨rfl, hb2⟩; rw [HRG.out]; have HB2 := Lib.hid (HB1.out.trans (hb2.mono HB1.out.size)); have HP2 := Lib.hid (HP1.out.below hb2); clear hb2)
        | (go_at_call 29; (refine (fixed15_c w2 (HU.out.next HB2.out) (HC.out.next HB2.out)).mono ?_); rintro _ w9 ⟨rfl, hb9⟩; have HB9 := Lib.hid (HB2.out.trans (hb9.mono HB2.out.size)); clear hb9))
      go_ret
      exact ⟨rfl, HB9.out⟩
    go_upto_region 4 with (first
      | (refine wpList_load_row rfl 25 (.tmp 2) rfl p rfl 25 _ (0, 0) _ HP0.out Tryd.underlying25 rfl (info_sc.trans rfl) ?_)
      | ((with_reducible refine wpList_openG (o := ⟨some 9, _, _, _, _, _⟩) rfl ?_); (refine wpList_load_row rfl 25 (.tmp 2) rfl p rfl 25 _ (0, 0) _ HP1.out Tryd.underlying25 rfl (info_sc.trans rfl) ?_))
      | (refine wpList_load_row rfl 25 (.tmp 2) rfl p rfl 25 _ (0, 0) _ HP2.out Tryd.underlying25 rfl (info_sc.trans rfl) ?_)
      | (go_at_call 28; (refine (great15_c s A n c L m cm W0).mono ?_); rintro _ w1 ⟨rfl, hb1⟩; rw [HGB.out]; have HB1 := Lib.hid (HB0.out.trans (hb1.mono HB0.out.size)); have HP1 := Lib.hid (HP0.out.below hb1); clear hb1)
      | (go_at_call 32; (refine (refRight_c s A n c L m cm w1 (HRS.out.below HB1.out) (HU.out.next HB1.out)).mono ?_); rintro _ w2 ⟨rfl, hb2⟩; rw [HRG.out]; have HB2 := Lib.hid (HB1.out.trans (hb2.mono HB1.out.size)); have HP2 := Lib.hid (HP1.out.below hb2); clear hb2)
      | (go_at_call 29; (refine (fixed15_c w2 (HU.out.next HB2.out) (HC.out.next HB2.out)).mono ?_); rintro _ w9 ⟨rfl, hb9⟩; have HB9 := Lib.hid (HB2.out.trans (hb9.mono HB2.out.size)); clear hb9)
      | (go_at_call 30; (refine (pj_c s A n c L m cm f w2 HSO.out (HRS.out.below HB2.out) HF.out (HU.out.next HB2.out) (HC.out.next HB2.out)).mono ?_); rintro _ w4 ⟨v4, rfl, hv4, hb4⟩; obtain ⟨A4, n4, c4, L4, m4, d4, rfl, ho4, ht4, hap4⟩ := hv4; have HB4 := Lib.hid (HB2.out.trans (hb4.mono HB2.out.size)); have HP4 := Lib.hid (HP2.out.below hb4); have HO4 := Lib.hid ho4; have HT4 := Lib.hid ht4; clear ho4 ht4 hap4 hb4)
      | (refine wpList_store_rowTo rfl 25 (.tmp 5) (.tmp 16) rfl rfl w4.heap.size (scC (PJ f s) A4 n4 c4 L4 m4 d4) rfl rfl 25 _ (heap_alloc_new w4 _) (info_sc.trans rfl) rfl (sc_one _ _ _ _ _ _ _) ?_))
    obtain ⟨N, eN⟩ : ∃ N, N = PJ f s := ⟨_, rfl⟩
    rw [← eN] at HO4 HT4 ⊢
    generalize eXX : World.alloc w4 _ = XX
    have hx : Below w4.heap.size w4 XX := by rw [← eXX]; exact (Below.refl _ _).alloc (Nat.le_refl _) _
    obtain ⟨old, hq2⟩ : ∃ old, XX.heap[w4.heap.size]? = some (.cells old 25 (0, 0)) := ⟨_, by rw [← eXX]; exact heap_alloc_new _ _⟩
    obtain ⟨g, eg⟩ : ∃ g, g = w4.heap.size := ⟨_, rfl⟩
    obtain ⟨W5, eWW⟩ : ∃ W, W = XX.setRow w4.heap.size (scC N A4 n4 c4 L4 m4 d4) := ⟨_, rfl⟩
    rw [← eWW, ← eg]
    have HH5 : Hid (ScB W5 g N A4 n4 c4 L4 m4 d4) := Lib.hid (by rw [eWW, eg]; exact setRow_heap _ _ _ _ _ _ hq2)
    have hbs : Below w4.heap.size w4 W5 := by rw [eWW]; exact below_setRow hx (Nat.le_refl _) _
    have EGg := Lib.hid eg
    clear eXX hx hq2 eg eWW
    have HO5 := Lib.hid (OwnC.below HO4.out hbs)
    have HT5 : Hid (OwnT W5 w2.heap.size (.slice L4 m4 d4) N.links) := Lib.hid (Own.below HT4.out hbs)
    have HB5 := Lib.hid (HB4.out.trans (hbs.mono HB4.out.size))
    have HP5 := Lib.hid (HP4.out.below hbs)
    have HSN : Hid (Sound N) := Lib.hid (by rw [eN]; exact HSO.out.pj f)
    have HRN : Hid (ScR W5 N A4 n4 c4 L4 m4 d4) := Lib.hid (HSN.out.read HO5.out HT5.out)
    have HRS5 := Lib.hid (HRS.out.below HB5.out)
    have HRR : Hid (rightS N = true) := Lib.hid (by rw [eN]; exact projS_right _ _ _ _ _ _ HRG.out)
    have HSZ : Hid (N.cols = s.cols ∧ N.rows = s.rows ∧ N.x = s.x ∧ N.y = s.y) := Lib.hid (by rw [eN]; exact PJ_size f HRG.out)
    have HFA := Lib.hid (all_bits f HF.out)
    have HFL : Hid (f ||| 63 < 4294967296) := Lib.hid (all_lt HF.out)
    have EAL : Hid (PJ (f ||| 63) s = s) := Lib.hid (PJ_all f HRG.out)
    obtain ⟨G, eG⟩ : ∃ G, G = f ||| 63 := ⟨_, rfl⟩
    rw [← eG] at HFA HFL EAL
    clear hbs HO4 HT4 eN HB4 HP4 eG
    refine wp_region_rw 58 [Rl.eq (.bool true), Rl.eq (.bool true), Rl.eq (.agg (scC N A4 n4 c4 L4 m4 d4)), Rl.eq (.bool true), Rl.eq (.bool true), Rl.eq (.bool true), Rl.eq (.agg (scC s A n c L m cm)), Rl.eq (.int .u32 (f : Int)), Rl.eq (.int .u32 (G : Int)), Rl.scr W5.heap.size s, Rl.eq (.agg (scC s A n c L m cm)), Rl.eq (.bool true), Rl.eq (.bool true), Rl.eq (.bool true), Rl.eq (.pointer (some ⟨g, 0, none⟩)), Rl.eq (.int .i64 s.cols), Rl.eq (.pointer (some ⟨p, 0, none⟩)), Rl.eq (.int .i64 s.cols), Rl.eq (.bool true), Rl.eq (.bool true), Rl.eq (.bool true), Rl.eq (.pointer (some ⟨g, 1, none⟩)), Rl.eq (.int .i64 s.rows), Rl.eq (.pointer (some ⟨p, 1, none⟩)), Rl.eq (.int .i64 s.rows), Rl.eq (.bool true), Rl.eq (.bool true), Rl.eq (.bool true), Rl.eq (.pointer (some ⟨g, 3, none⟩)), Rl.eq (.int .i64 s.x), Rl.eq (.pointer (some ⟨p, 3, none⟩)), Rl.eq (.int .i64 s.x), Rl.eq (.bool true), Rl.eq (.bool true), Rl.eq (.bool true), Rl.eq (.pointer (some ⟨g, 4, none⟩)), Rl.eq (.int .i64 s.y), Rl.eq (.pointer (some ⟨p, 4, none⟩)), Rl.eq (.int .i64 s.y), Rl.eq (.bool true), Rl.eq (.bool true), Rl.eq (.bool true)] [17, 18, 19, 20, 21, 22, 23, 24, 25, 26, 27, 28, 29, 30, 31, 32, 33, 34, 35, 36, 37, 38, 39, 40, 41, 42, 43, 44, 45, 46, 47, 48, 49, 50, 51, 52, 53, 54, 55, 56, 57, 4] (by kernel_rfl) rfl (by kernel_rfl) (by kernel_rfl) ?_ ?_
    · repeat (first | exact AllFrom.nil_ | (refine AllFrom.cons_ (by rfl) ?_ ?_; rotate_left))
      · intro f_ w' g_ hF hD
        rw [if_pos (wanted_none rfl)]
        clear hF hD
        have kg : Below W5.heap.size W5 w' := (below_drewN (Below.refl _ _) 1).trans g_
        have kw := HB5.out.trans (kg.mono HB5.out.size)
        refine gives_func rfl Tryd.func29 (by kernel_rfl) rfl (args := #[]) (by simp) ((fixed15_c w' (HU.out.next kw) (HC.out.next kw)).mono ?_)
        rintro e w'' ⟨rfl, hb⟩
        exact ⟨_, rfl, hb, rfl⟩
      · intro f_ w' g_ hF hD
        have h17 : f_ 17 = (.bool true) := hD 0 17 (by kernel_rfl) rfl
        rw [if_pos (wanted_none rfl)]
        clear hF hD
        exact gives_val (by simp only [execOp, evF, h17]; first | rfl | go_simp) ⟨Gr.refl _, rfl⟩
      · intro f_ w' g_ hF hD
        have h5 : f_ 5 = .pointer (some ⟨g, 0, none⟩) := hF 5 (by kernel_rfl)
        rw [if_pos (wanted_some (d := 18) rfl rfl (hD 1 18 (by kernel_rfl) rfl))]
        clear hF hD
        have kg : Below W5.heap.size W5 w' := (below_drewN (Below.refl _ _) 1).trans g_
        exact gives_load_row 25 (.tmp 5) rfl g (by simp only [evF, h5]) 25 (scC N A4 n4 c4 L4 m4 d4) (0, 0) _ (HH5.out.below kg) Tryd.underlying25 rfl (info_sc.trans rfl) ⟨Gr.refl _, rfl⟩
      · intro f_ w' g_ hF hD
        have h19 : f_ 19 = (.agg (scC N A4 n4 c4 L4 m4 d4)) := hD 2 19 (by kernel_rfl) rfl
        rw [if_pos (wanted_some (d := 18) rfl rfl (hD 1 18 (by kernel_rfl) rfl))]
        clear hF hD
        have kg : Below W5.heap.size W5 w' := (below_drewN (Below.refl _ _) 1).trans g_
        have kw := HB5.out.trans (kg.mono HB5.out.size)
        refine gives_func rfl Tryd.func33 (by kernel_rfl) rfl (by simp only [List.map_toArray, List.map_cons, List.map_nil, evF, h19]) ((emulRight_c N A4 n4 c4 L4 m4 d4 w' (HRN.out.below kg) (HU.out.next kw)).mono ?_)
        rintro e w'' ⟨rfl, hb⟩
        rw [HRR.out]
        exact ⟨_, rfl, hb, rfl⟩
      · intro f_ w' g_ hF hD
        have h18 : f_ 18 = (.bool true) := hD 1 18 (by kernel_rfl) rfl
        have h20 : f_ 20 = (.bool true) := hD 3 20 (by kernel_rfl) rfl
        rw [if_pos (wanted_none rfl)]
        clear hF hD
        exact gives_val (by simp only [execOp, evF, h18, h20]; first | rfl | go_simp) ⟨Gr.refl _, rfl⟩
      · intro f_ w' g_ hF hD
        have h21 : f_ 21 = (.bool true) := hD 4 21 (by kernel_rfl) rfl
        rw [if_pos (wanted_none rfl)]
        clear hF hD
        exact gives_val (by simp only [execOp, evF, h21]; first | rfl | go_simp) ⟨Gr.refl _, rfl⟩
      · intro f_ w' g_ hF hD
        have h2 : f_ 2 = .pointer (some ⟨p, 0, none⟩) := hF 2 (by kernel_rfl)
        rw [if_pos (wanted_some (d := 22) rfl rfl (hD 5 22 (by kernel_rfl) rfl))]
        clear hF hD
        have kg : Below W5.heap.size W5 w' := (below_drewN (Below.refl _ _) 1).trans g_
        exact gives_load_row 25 (.tmp 2) rfl p (by simp only [evF, h2]) 25 (scC s A n c L m cm) (0, 0) _ (HP5.out.below kg) Tryd.underlying25 rfl (info_sc.trans rfl) ⟨Gr.refl _, rfl⟩
      · intro f_ w' g_ hF hD
        have h1 : f_ 1 = .int .u32 (f : Int) := hF 1 (by kernel_rfl)
        rw [if_pos (wanted_some (d := 22) rfl rfl (hD 5 22 (by kernel_rfl) rfl))]
        clear hF hD
        exact gives_val (by simp only [execOp, evF, h1]; first | rfl | go_simp) ⟨Gr.refl _, rfl⟩
      · intro f_ w' g_ hF hD
        have h24 : f_ 24 = (.int .u32 (f : Int)) := hD 7 24 (by kernel_rfl) rfl
        rw [if_pos (wanted_some (d := 22) rfl rfl (hD 5 22 (by kernel_rfl) rfl))]
        clear hF hD
        rw [← HFA.out]
        exact gives_val (by simp only [execOp, evF, h24]; first | rfl | go_simp) ⟨Gr.refl _, rfl⟩
      · intro f_ w' g_ hF hD
        have h23 : f_ 23 = (.agg (scC s A n c L m cm)) := hD 6 23 (by kernel_rfl) rfl
        have h25 : f_ 25 = (.int .u32 (G : Int)) := hD 8 25 (by kernel_rfl) rfl
        rw [if_pos (wanted_some (d := 22) rfl rfl (hD 5 22 (by kernel_rfl) rfl))]
        clear hF hD
        have kg : Below W5.heap.size W5 w' := (below_drewN (Below.refl _ _) 1).trans g_
        have kw := HB5.out.trans (kg.mono HB5.out.size)
        refine gives_func rfl Tryd.func30 (by kernel_rfl) rfl (by simp only [List.map_toArray, List.map_cons, List.map_nil, evF, h23, h25]) ((pj_c s A n c L m cm G w' HSO.out (HRS5.out.below kg) HFL.out (HU.out.next kw) (HC.out.next kw)).mono ?_)
        rintro e w'' ⟨v, rfl, hv, hb⟩
        rw [EAL.out] at hv
        obtain ⟨A', n', c', L', m', d', e1, h1, h2, h3⟩ := hv
        exact ⟨_, rfl, hb, A', n', c', L', m', d', e1, OwnC.low h1 kg.size, Own.low h2 kg.size, h3⟩
      · intro f_ w' g_ hF hD
        have h2 : f_ 2 = .pointer (some ⟨p, 0, none⟩) := hF 2 (by kernel_rfl)
        rw [if_pos (wanted_some (d := 22) rfl rfl (hD 5 22 (by kernel_rfl) rfl))]
        clear hF hD
        have kg : Below W5.heap.size W5 w' := (below_drewN (Below.refl _ _) 1).trans g_
        exact gives_load_row 25 (.tmp 2) rfl p (by simp only [evF, h2]) 25 (scC s A n c L m cm) (0, 0) _ (HP5.out.below kg) Tryd.underlying25 rfl (info_sc.trans rfl) ⟨Gr.refl _, rfl⟩
      · intro f_ w' g_ hF hD
        have q26 := hD 9 26 (by kernel_rfl) rfl
        have h27 : f_ 27 = (.agg (scC s A n c L m cm)) := hD 10 27 (by kernel_rfl) rfl
        rw [if_pos (wanted_some (d := 22) rfl rfl (hD 5 22 (by kernel_rfl) rfl))]
        clear hF hD
        have kg : Below W5.heap.size W5 w' := (below_drewN (Below.refl _ _) 1).trans g_
        obtain ⟨A', n', c', L', m', d', e1, h1, h2, h3⟩ := q26
        refine gives_func rfl Tryd.func27 (by kernel_rfl) rfl (by simp only [List.map_toArray, List.map_cons, List.map_nil, evF, h27, e1]) ((same_c s s A' n' c' L' m' d' A n c L m cm w' (HSO.out.read h1 h2) (HRS5.out.below kg)).mono ?_)
        rintro e w'' ⟨rfl, hb⟩
        rw [sameS_self]
        exact ⟨_, rfl, hb, rfl⟩
      · intro f_ w' g_ hF hD
        have h22 : f_ 22 = (.bool true) := hD 5 22 (by kernel_rfl) rfl
        have h28 : f_ 28 = (.bool true) := hD 11 28 (by kernel_rfl) rfl
        rw [if_pos (wanted_none rfl)]
        clear hF hD
        exact gives_val (by simp only [execOp, evF, h22, h28]; first | rfl | go_simp) ⟨Gr.refl _, rfl⟩
      · intro f_ w' g_ hF hD
        have h29 : f_ 29 = (.bool true) := hD 12 29 (by kernel_rfl) rfl
        rw [if_pos (wanted_none rfl)]
        clear hF hD
        exact gives_val (by simp only [execOp, evF, h29]; first | rfl | go_simp) ⟨Gr.refl _, rfl⟩
      · intro f_ w' g_ hF hD
        have h5 : f_ 5 = .pointer (some ⟨g, 0, none⟩) := hF 5 (by kernel_rfl)
        rw [if_pos (wanted_some (d := 30) rfl rfl (hD 13 30 (by kernel_rfl) rfl))]
        clear hF hD
        exact gives_val (by simp only [execOp, evF, h5]; first | rfl | go_simp) ⟨Gr.refl _, rfl⟩
      · intro f_ w' g_ hF hD
        have h31 : f_ 31 = (.pointer (some ⟨g, 0, none⟩)) := hD 14 31 (by kernel_rfl) rfl
        rw [if_pos (wanted_some (d := 30) rfl rfl (hD 13 30 (by kernel_rfl) rfl))]
        clear hF hD
        have kg : Below W5.heap.size W5 w' := (below_drewN (Below.refl _ _) 1).trans g_
        have cl : w'.cell? ⟨g, 0, none⟩ = some (.int .i64 s.cols) := by rw [← HSZ.out.1]; exact (HH5.out.below kg).nine.1
        exact gives_val (by simp only [execOp, evF, h31]; go_simp) ⟨Gr.refl _, rfl⟩
      · intro f_ w' g_ hF hD
        have h2 : f_ 2 = .pointer (some ⟨p, 0, none⟩) := hF 2 (by kernel_rfl)
        rw [if_pos (wanted_some (d := 30) rfl rfl (hD 13 30 (by kernel_rfl) rfl))]
        clear hF hD
        exact gives_val (by simp only [execOp, evF, h2]; first | rfl | go_simp) ⟨Gr.refl _, rfl⟩
      · intro f_ w' g_ hF hD
        have h33 : f_ 33 = (.pointer (some ⟨p, 0, none⟩)) := hD 16 33 (by kernel_rfl) rfl
        rw [if_pos (wanted_some (d := 30) rfl rfl (hD 13 30 (by kernel_rfl) rfl))]
        clear hF hD
        have kg : Below W5.heap.size W5 w' := (below_drewN (Below.refl _ _) 1).trans g_
        have cl : w'.cell? ⟨p, 0, none⟩ = some (.int .i64 s.cols) := (HP5.out.below kg).nine.1
        exact gives_val (by simp only [execOp, evF, h33]; go_simp) ⟨Gr.refl _, rfl⟩
      · intro f_ w' g_ hF hD
        have h32 : f_ 32 = (.int .i64 s.cols) := hD 15 32 (by kernel_rfl) rfl
        have h34 : f_ 34 = (.int .i64 s.cols) := hD 17 34 (by kernel_rfl) rfl
        rw [if_pos (wanted_some (d := 30) rfl rfl (hD 13 30 (by kernel_rfl) rfl))]
        clear hF hD
        exact gives_val (by simp only [execOp, evF, h32, h34]; first | rfl | go_simp) ⟨Gr.refl _, rfl⟩
      · intro f_ w' g_ hF hD
        have h30 : f_ 30 = (.bool true) := hD 13 30 (by kernel_rfl) rfl
        have h35 : f_ 35 = (.bool true) := hD 18 35 (by kernel_rfl) rfl
        rw [if_pos (wanted_none rfl)]
        clear hF hD
        exact gives_val (by simp only [execOp, evF, h30, h35]; first | rfl | go_simp) ⟨Gr.refl _, rfl⟩
      · intro f_ w' g_ hF hD
        have h36 : f_ 36 = (.bool true) := hD 19 36 (by kernel_rfl) rfl
        rw [if_pos (wanted_none rfl)]
        clear hF hD
        exact gives_val (by simp only [execOp, evF, h36]; first | rfl | go_simp) ⟨Gr.refl _, rfl⟩
      · intro f_ w' g_ hF hD
        have h5 : f_ 5 = .pointer (some ⟨g, 0, none⟩) := hF 5 (by kernel_rfl)
        rw [if_pos (wanted_some (d := 37) rfl rfl (hD 20 37 (by kernel_rfl) rfl))]
        clear hF hD
        exact gives_val (by simp only [execOp, evF, h5]; first | rfl | go_simp) ⟨Gr.refl _, rfl⟩
      · intro f_ w' g_ hF hD
        have h38 : f_ 38 = (.pointer (some ⟨g, 1, none⟩)) := hD 21 38 (by kernel_rfl) rfl
        rw [if_pos (wanted_some (d := 37) rfl rfl (hD 20 37 (by kernel_rfl) rfl))]
        clear hF hD
        have kg : Below W5.heap.size W5 w' := (below_drewN (Below.refl _ _) 1).trans g_
        have cl : w'.cell? ⟨g, 1, none⟩ = some (.int .i64 s.rows) := by rw [← HSZ.out.2.1]; exact (HH5.out.below kg).nine.2.1
        exact gives_val (by simp only [execOp, evF, h38]; go_simp) ⟨Gr.refl _, rfl⟩
      · intro f_ w' g_ hF hD
        have h2 : f_ 2 = .pointer (some ⟨p, 0, none⟩) := hF 2 (by kernel_rfl)
        rw [if_pos (wanted_some (d := 37) rfl rfl (hD 20 37 (by kernel_rfl) rfl))]
        clear hF hD
        exact gives_val (by simp only [execOp, evF, h2]; first | rfl | go_simp) ⟨Gr.refl _, rfl⟩
      · intro f_ w' g_ hF hD
        have h40 : f_ 40 = (.pointer (some ⟨p, 1, none⟩)) := hD 23 40 (by kernel_rfl) rfl
        rw [if_pos (wanted_some (d := 37) rfl rfl (hD 20 37 (by kernel_rfl) rfl))]
        clear hF hD
        have kg : Below W5.heap.size W5 w' := (below_drewN (Below.refl _ _) 1).trans g_
        have cl : w'.cell? ⟨p, 1, none⟩ = some (.int .i64 s.rows) := (HP5.out.below kg).nine.2.1
        exact gives_val (by simp only [execOp, evF, h40]; go_simp) ⟨Gr.refl _, rfl⟩
      · intro f_ w' g_ hF hD
        have h39 : f_ 39 = (.int .i64 s.rows) := hD 22 39 (by kernel_rfl) rfl
        have h41 : f_ 41 = (.int .i64 s.rows) := hD 24 41 (by kernel_rfl) rfl
        rw [if_pos (wanted_some (d := 37) rfl rfl (hD 20 37 (by kernel_rfl) rfl))]
        clear hF hD
        exact gives_val (by simp only [execOp, evF, h39, h41]; first | rfl | go_simp) ⟨Gr.refl _, rfl⟩
      · intro f_ w' g_ hF hD
        have h37 : f_ 37 = (.bool true) := hD 20 37 (by kernel_rfl) rfl
        have h42 : f_ 42 = (.bool true) := hD 25 42 (by kernel_rfl) rfl
        rw [if_pos (wanted_none rfl)]
        clear hF hD
        exact gives_val (by simp only [execOp, evF, h37, h42]; first | rfl | go_simp) ⟨Gr.refl _, rfl⟩
      · intro f_ w' g_ hF hD
        have h43 : f_ 43 = (.bool true) := hD 26 43 (by kernel_rfl) rfl
        rw [if_pos (wanted_none rfl)]
        clear hF hD
        exact gives_val (by simp only [execOp, evF, h43]; first | rfl | go_simp) ⟨Gr.refl _, rfl⟩
      · intro f_ w' g_ hF hD
        have h5 : f_ 5 = .pointer (some ⟨g, 0, none⟩) := hF 5 (by kernel_rfl)
        rw [if_pos (wanted_some (d := 44) rfl rfl (hD 27 44 (by kernel_rfl) rfl))]
        clear hF hD
        exact gives_val (by simp only [execOp, evF, h5]; first | rfl | go_simp) ⟨Gr.refl _, rfl⟩
      · intro f_ w' g_ hF hD
        have h45 : f_ 45 = (.pointer (some ⟨g, 3, none⟩)) := hD 28 45 (by kernel_rfl) rfl
        rw [if_pos (wanted_some (d := 44) rfl rfl (hD 27 44 (by kernel_rfl) rfl))]
        clear hF hD
        have kg : Below W5.heap.size W5 w' := (below_drewN (Below.refl _ _) 1).trans g_
        have cl : w'.cell? ⟨g, 3, none⟩ = some (.int .i64 s.x) := by rw [← HSZ.out.2.2.1]; exact (HH5.out.below kg).nine.2.2.2.1
        exact gives_val (by simp only [execOp, evF, h45]; go_simp) ⟨Gr.refl _, rfl⟩
      · intro f_ w' g_ hF hD
        have h2 : f_ 2 = .pointer (some ⟨p, 0, none⟩) := hF 2 (by kernel_rfl)
        rw [if_pos (wanted_some (d := 44) rfl rfl (hD 27 44 (by kernel_rfl) rfl))]
        clear hF hD
        exact gives_val (by simp only [execOp, evF, h2]; first | rfl | go_simp) ⟨Gr.refl _, rfl⟩
      · intro f_ w' g_ hF hD
        have h47 : f_ 47 = (.pointer (some ⟨p, 3, none⟩)) := hD 30 47 (by kernel_rfl) rfl
        rw [if_pos (wanted_some (d := 44) rfl rfl (hD 27 44 (by kernel_rfl) rfl))]
        clear hF hD
        have kg : Below W5.heap.size W5 w' := (below_drewN (Below.refl _ _) 1).trans g_
        have cl : w'.cell? ⟨p, 3, none⟩ = some (.int .i64 s.x) := (HP5.out.below kg).nine.2.2.2.1
        exact gives_val (by simp only [execOp, evF, h47]; go_simp) ⟨Gr.refl _, rfl⟩
      · intro f_ w' g_ hF hD
        have h46 : f_ 46 = (.int .i64 s.x) := hD 29 46 (by kernel_rfl) rfl
        have h48 : f_ 48 = (.int .i64 s.x) := hD 31 48 (by kernel_rfl) rfl
        rw [if_pos (wanted_some (d := 44) rfl rfl (hD 27 44 (by kernel_rfl) rfl))]
        clear hF hD
        exact gives_val (by simp only [execOp, evF, h46, h48]; first | rfl | go_simp) ⟨Gr.refl _, rfl⟩
      · intro f_ w' g_ hF hD
        have h44 : f_ 44 = (.bool true) := hD 27 44 (by kernel_rfl) rfl
        have h49 : f_ 49 = (.bool true) := hD 32 49 (by kernel_rfl) rfl
        rw [if_pos (wanted_none rfl)]
        clear hF hD
        exact gives_val (by simp only [execOp, evF, h44, h49]; first | rfl | go_simp) ⟨Gr.refl _, rfl⟩
      · intro f_ w' g_ hF hD
        have h50 : f_ 50 = (.bool true) := hD 33 50 (by kernel_rfl) rfl
        rw [if_pos (wanted_none rfl)]
        clear hF hD
        exact gives_val (by simp only [execOp, evF, h50]; first | rfl | go_simp) ⟨Gr.refl _, rfl⟩
      · intro f_ w' g_ hF hD
        have h5 : f_ 5 = .pointer (some ⟨g, 0, none⟩) := hF 5 (by kernel_rfl)
        rw [if_pos (wanted_some (d := 51) rfl rfl (hD 34 51 (by kernel_rfl) rfl))]
        clear hF hD
        exact gives_val (by simp only [execOp, evF, h5]; first | rfl | go_simp) ⟨Gr.refl _, rfl⟩
      · intro f_ w' g_ hF hD
        have h52 : f_ 52 = (.pointer (some ⟨g, 4, none⟩)) := hD 35 52 (by kernel_rfl) rfl
        rw [if_pos (wanted_some (d := 51) rfl rfl (hD 34 51 (by kernel_rfl) rfl))]
        clear hF hD
        have kg : Below W5.heap.size W5 w' := (below_drewN (Below.refl _ _) 1).trans g_
        have cl : w'.cell? ⟨g, 4, none⟩ = some (.int .i64 s.y) := by rw [← HSZ.out.2.2.2]; exact (HH5.out.below kg).nine.2.2.2.2.1
        exact gives_val (by simp only [execOp, evF, h52]; go_simp) ⟨Gr.refl _, rfl⟩
      · intro f_ w' g_ hF hD
        have h2 : f_ 2 = .pointer (some ⟨p, 0, none⟩) := hF 2 (by kernel_rfl)
        rw [if_pos (wanted_some (d := 51) rfl rfl (hD 34 51 (by kernel_rfl) rfl))]
        clear hF hD
        exact gives_val (by simp only [execOp, evF, h2]; first | rfl | go_simp) ⟨Gr.refl _, rfl⟩
      · intro f_ w' g_ hF hD
        have h54 : f_ 54 = (.pointer (some ⟨p, 4, none⟩)) := hD 37 54 (by kernel_rfl) rfl
        rw [if_pos (wanted_some (d := 51) rfl rfl (hD 34 51 (by kernel_rfl) rfl))]
        clear hF hD
        have kg : Below W5.heap.size W5 w' := (below_drewN (Below.refl _ _) 1).trans g_
        have cl : w'.cell? ⟨p, 4, none⟩ = some (.int .i64 s.y) := (HP5.out.below kg).nine.2.2.2.2.1
        exact gives_val (by simp only [execOp, evF, h54]; go_simp) ⟨Gr.refl _, rfl⟩
      · intro f_ w' g_ hF hD
        have h53 : f_ 53 = (.int .i64 s.y) := hD 36 53 (by kernel_rfl) rfl
        have h55 : f_ 55 = (.int .i64 s.y) := hD 38 55 (by kernel_rfl) rfl
        rw [if_pos (wanted_some (d := 51) rfl rfl (hD 34 51 (by kernel_rfl) rfl))]
        clear hF hD
        exact gives_val (by simp only [execOp, evF, h53, h55]; first | rfl | go_simp) ⟨Gr.refl _, rfl⟩
      · intro f_ w' g_ hF hD
        have h51 : f_ 51 = (.bool true) := hD 34 51 (by kernel_rfl) rfl
        have h56 : f_ 56 = (.bool true) := hD 39 56 (by kernel_rfl) rfl
        rw [if_pos (wanted_none rfl)]
        clear hF hD
        exact gives_val (by simp only [execOp, evF, h51, h56]; first | rfl | go_simp) ⟨Gr.refl _, rfl⟩
      · intro f_ w' g_ hF hD
        have h57 : f_ 57 = (.bool true) := hD 40 57 (by kernel_rfl) rfl
        rw [if_pos (wanted_none rfl)]
        clear hF hD
        exact gives_val (by simp only [execOp, evF, h57]; first | rfl | go_simp) ⟨Gr.refl _, rfl⟩
    intro f_ w6 gg hD
    have h4 : f_ 4 = .bool true := hD 41 4 rfl
    have kg : Below W5.heap.size W5 w6 := (below_drewN (Below.refl _ _) 1).trans gg
    simp only [putAll, List.setIfInBounds_toArray, List.set_cons_zero, List.set_cons_succ, h4]
    have HB6 := Lib.hid (HB5.out.trans (kg.mono HB5.out.size))
    clear hD gg kg h4
    go_wp2_with (fail)
    go_ret
    exact ⟨rfl, HB6.out⟩
end Go.Proofs.YtipofokinjkclaaDoor
