/- Parts one behind the other: The walk of ProjectTwice: once is enough, and fewer features. Conditions: as told at each. -/
import Derived.Test.YtipofokinjkclaaDoorPB21

set_option linter.unusedVariables false
set_option linter.unusedSimpArgs false
/- The walk of ProjectTwice: once is enough, and fewer features. Conditions: the tables lie where they were laid. -/
namespace Go.Proofs.YtipofokinjkclaaDoor
open Go Go.RowKit Go.Lib

def few (f o : Nat) : Nat := (f &&& o &&& 60) ||| (f &&& 3)
theorem few_lt {f o : Nat} (hf : f < 4294967296) : few f o < 4294967296 := by
  unfold few
  have h1 : f &&& o &&& 60 < 2 ^ 32 := Nat.and_lt_two_pow _ (by decide)
  have h2 : f &&& 3 < 2 ^ 32 := Nat.and_lt_two_pow _ (by decide)
  exact Nat.or_lt_two_pow h1 h2
theorem few_bits (f o : Nat) (hf : f < 4294967296) (ho : o < 4294967296) : bits BinOp.or .u32 (bits BinOp.and .u32 (bits BinOp.and .u32 (f : Int) (o : Int)) 60) (bits BinOp.and .u32 (f : Int) 3) = ((few f o : Nat) : Int) := by
  have a1 : f &&& o < 4294967296 := Nat.lt_of_le_of_lt Nat.and_le_left hf
  have a2 : f &&& o &&& 60 < 4294967296 := Nat.lt_of_le_of_lt Nat.and_le_left a1
  have a3 : f &&& 3 < 4294967296 := Nat.lt_of_le_of_lt Nat.and_le_left hf
  rw [u32_and_nat f o hf ho, show (60 : Int) = ((60 : Nat) : Int) from rfl, u32_and_nat (f &&& o) 60 a1 (by decide), show (3 : Int) = ((3 : Nat) : Int) from rfl, u32_and_nat f 3 hf (by decide), u32_or_nat _ _ a2 a3]
  rfl
theorem few_col (f o : Nat) : (few f o).testBit 0 = f.testBit 0 ∧ (few f o).testBit 1 = f.testBit 1 := by
  unfold few
  constructor <;> simp [Nat.testBit_or, Nat.testBit_and, show (60 : Nat).testBit 0 = false from rfl, show (60 : Nat).testBit 1 = false from rfl, show (3 : Nat).testBit 0 = true from rfl, show (3 : Nat).testBit 1 = true from rfl]
theorem few_rest (f o : Nat) (i : Nat) (h2 : 2 ≤ i) (h5 : i ≤ 5) : (few f o).testBit i = true → f.testBit i = true := by
  unfold few
  intro h
  rw [Nat.testBit_or, Nat.testBit_and, Nat.testBit_and, Nat.testBit_and] at h
  cases hb : f.testBit i
  · rw [hb] at h; simp at h
  · rfl
theorem PJ_few (f o : Nat) (s : ScD) : PJ (few f o) (PJ f s) = PJ (few f o) s := by
  unfold PJ
  rw [(few_col f o).1, (few_col f o).2]
  exact projS_few _ _ _ _ _ _ _ _ _ _ (few_rest f o 2 (by decide) (by decide)) (few_rest f o 3 (by decide) (by decide)) (few_rest f o 4 (by decide) (by decide)) (few_rest f o 5 (by decide) (by decide)) s
theorem PJ_twice (f : Nat) (s : ScD) : PJ f (PJ f s) = PJ f s := projS_twice _ _ _ _ _ _ s
set_option maxRecDepth 100000 in
set_option maxHeartbeats 16000000 in
theorem ProjectTwice_walk (w : World) (s : ScD) (A : Option Addr) (n c : Nat) (L : Option Addr) (m cm : Nat) (hs : ScO w s A n c L m cm) (ft : Int) (wf : (Lit.int .u32 ft).wf = true) (fo : Int) (wo : (Lit.int .u32 fo).wf = true) (hU : TabU w) (hC : TabC w) :
    Calls Tryd.prog 7 #[.agg (scC s A n c L m cm), .int .u32 ft, .int .u32 fo] w fun r w' => r = .returned (.bool true) ∧ Below w.heap.size w w' := by
  obtain ⟨f, rfl, hf⟩ := nat32 wf
  obtain ⟨o, rfl, ho⟩ := nat32 wo
  clear wf wo
  obtain ⟨X, eX⟩ : ∃ X, X = scC s A n c L m cm := ⟨_, rfl⟩
  rw [← eX]
  obtain ⟨W0, eW0⟩ : ∃ W0, W0 = w.alloc (.cells X 25) := ⟨_, rfl⟩
  obtain ⟨p, ep⟩ : ∃ p, p = w.heap.size := ⟨_, rfl⟩
  have hb0 : Below w.heap.size w W0 := by rw [eW0]; exact (Below.refl _ _).alloc (Nat.le_refl _) _
  have HP0 : Hid (ScB W0 p s A n c L m cm) := Lib.hid (by rw [eW0, ep, eX]; exact heap_alloc_new _ _)
  have EW0 := Lib.hid eW0
  have EP := Lib.hid ep
  have HB0 := Lib.hid hb0
  have HF := Lib.hid hf
  have HS := Lib.hid hs
  have HU := Lib.hid hU
  have HC := Lib.hid hC
  clear eX eW0 ep hb0 hf hs hU hC
  obtain ⟨GB, eGB⟩ : ∃ b, greatB n s.title.size m = b := ⟨_, rfl⟩
  have HGB := Lib.hid eGB
  clear eGB
  have HFO := Lib.hid ho
  clear ho
  go_enter Tryd.func7, Tryd.ntmps7
  go_upto_region 1 with (fail)
  rw [← EW0.out, ← EP.out]
  cases GB
  rotate_left
  · go_wp2_with (first
      | (refine wpList_load_row rfl 25 (.tmp 3) rfl p rfl 25 _ (0, 0) _ HP0.out Tryd.underlying25 rfl (info_sc.trans rfl) ?_)
      | (go_at_call 28; (refine (great15_c s A n c L m cm W0).mono ?_); rintro _ w1 ⟨rfl, hb1⟩; rw [HGB.out]; have HB1 := Lib.hid (HB0.out.trans (hb1.mono HB0.out.size)); have HP1 := Lib.hid (HP0.out.below hb1); clear hb1)
      | (go_at_call 29; (refine (fixed15_c w1 (HU.out.next HB1.out) (HC.out.next HB1.out)).mono ?_); rintro _ w9 ⟨rfl, hb9⟩; have HB9 := Lib.hid (HB1.out.trans (hb9.mono HB1.out.size)); clear hb9))
    go_ret
    exact ⟨rfl, HB9.out⟩
  · have HSM := Lib.hid (greatB_no HGB.out)
    have HSO : Hid (Sound s) := Lib.hid (HS.out.sound (by have := HSM.out; omega) (by have := HSM.out; omega) (by have := HSM.out; omega))
    have HRS : Hid (ScR w s A n c L m cm) := Lib.hid (HS.out.small (by have := HSM.out; omega) (by have := HSM.out; omega) (by have := HSM.out; omega))
    go_upto_region 4 with (first
      | (refine wpList_load_row rfl 25 (.tmp 3) rfl p rfl 25 _ (0, 0) _ HP0.out Tryd.underlying25 rfl (info_sc.trans rfl) ?_)
      | (refine wpList_load_row rfl 25 (.tmp 3) rfl p rfl 25 _ (0, 0) _ HP1.out Tryd.underlying25 rfl (info_sc.trans rfl) ?_)
      | (go_at_call 28; (refine (great15_c s A n c L m cm W0).mono ?_); rintro _ w1 ⟨rfl, hb1⟩; rw [HGB.out]; have HB1 := Lib.hid (HB0.out.trans (hb1.mono HB0.out.size)); have HP1 := Lib.hid (HP0.out.below hb1); clear hb1)
      | (go_at_call 30; (refine (pj_c s A n c L m cm f w1 HSO.out (HRS.out.below HB1.out) HF.out (HU.out.next HB1.out) (HC.out.next HB1.out)).mono ?_); rintro _ w4 ⟨v4, rfl, hv4, hb4⟩; obtain ⟨A4, n4, c4, L4, m4, d4, rfl, ho4, ht4, hap4⟩ := hv4; have HB4 := Lib.hid (HB1.out.trans (hb4.mono HB1.out.size)); have HP4 := Lib.hid (HP1.out.below hb4); have HO4 := Lib.hid ho4; have HT4 := Lib.hid ht4; clear ho4 ht4 hap4 hb4)
      | (refine wpList_store_rowTo rfl 25 (.tmp 7) (.tmp 14) rfl rfl w4.heap.size (scC (PJ f s) A4 n4 c4 L4 m4 d4) rfl rfl 25 _ (heap_alloc_new w4 _) (info_sc.trans rfl) rfl (sc_one _ _ _ _ _ _ _) ?_))
    obtain ⟨N, eN⟩ : ∃ N, N = PJ f s := ⟨_, rfl⟩
    rw [← eN] at HO4 HT4 ⊢
    generalize eXX : World.alloc w4 _ = XX
    have hx : Below w4.heap.size w4 XX := by rw [← eXX]; exact (Below.refl _ _).alloc (Nat.le_refl _) _
    obtain ⟨old, hq2⟩ : ∃ old, XX.heap[w4.heap.size]? = some (.cells old 25 (0, 0)) := ⟨_, by rw [← eXX]; exact heap_alloc_new _ _⟩
    obtain ⟨g, eg⟩ : ∃ g, g = w4.heap.size := ⟨_, rfl⟩
    obtain ⟨W5, eWW⟩ : ∃ W, W = XX.setRow w4.heap.size (scC N A4 n4 c4 L4 m4 d4) := ⟨_, rfl⟩
    rw [← eWW, ← eg]
    have HH5 : Hid (ScB W5 g N A4 n4 c4 L4 m4 d4) := Lib.hid (by rw [eWW, eg]; exact setRow_heap _ _ _ _ _ _ hq2)
    have hbs : Below w4.heap.size w4 W5 := by rw [eWW]; exact below_setRow hx (Nat.le_refl _) _
    have EGg := Lib.hid eg
    clear eXX hx hq2 eg eWW
    have HO5 := Lib.hid (OwnC.below HO4.out hbs)
    have HT5 : Hid (OwnT W5 w1.heap.size (.slice L4 m4 d4) N.links) := Lib.hid (Own.below HT4.out hbs)
    have HB5 := Lib.hid (HB4.out.trans (hbs.mono HB4.out.size))
    have HP5 := Lib.hid (HP4.out.below hbs)
    have EN := Lib.hid eN
    have HSN : Hid (Sound N) := Lib.hid (by rw [eN]; exact HSO.out.pj f)
    have HRN : Hid (ScR W5 N A4 n4 c4 L4 m4 d4) := Lib.hid (HSN.out.read HO5.out HT5.out)
    have HRS5 := Lib.hid (HRS.out.below HB5.out)
    have ETW : Hid (PJ f N = N) := Lib.hid (by rw [eN]; exact PJ_twice f s)
    clear hbs HO4 HT4 eN HB4 HP4
    refine wp_region_rw 40 [Rl.eq (.bool true), Rl.eq (.bool false), Rl.eq (.bool false), Rl.eq (.agg (scC N A4 n4 c4 L4 m4 d4)), Rl.eq (.int .u32 (f : Int)), Rl.scr W5.heap.size N, Rl.eq (.agg (scC N A4 n4 c4 L4 m4 d4)), Rl.eq (.bool true), Rl.eq (.bool false), Rl.eq (.bool false)] [15, 16, 17, 18, 19, 20, 21, 22, 23, 24] (by kernel_rfl) rfl (by kernel_rfl) (by kernel_rfl) ?_ ?_
    · repeat (first | exact AllFrom.nil_ | (refine AllFrom.cons_ (by rfl) ?_ ?_; rotate_left))
      · intro f_ w' g_ hF hD
        rw [if_pos (wanted_none rfl)]
        clear hF hD
        have kg : Below W5.heap.size W5 w' := (below_drewN (Below.refl _ _) 1).trans g_
        have kw := HB5.out.trans (kg.mono HB5.out.size)
        refine gives_func rfl Tryd.func29 (by kernel_rfl) rfl (args := #[]) (by simp) ((fixed15_c w' (HU.out.next kw) (HC.out.next kw)).mono ?_)
        rintro e w'' ⟨rfl, hb⟩
        exact ⟨_, rfl, hb, rfl⟩
      · intro f_ w' g_ hF hD
        have h15 : f_ 15 = (.bool true) := hD 0 15 (by kernel_rfl) rfl
        rw [if_pos (wanted_none rfl)]
        clear hF hD
        exact gives_val (by simp only [execOp, evF, h15]; first | rfl | go_simp) ⟨Gr.refl _, rfl⟩
      · intro f_ w' g_ hF hD
        have h16 : f_ 16 = (.bool false) := hD 1 16 (by kernel_rfl) rfl
        rw [if_pos (wanted_none rfl)]
        clear hF hD
        exact gives_val (by simp only [execOp, evF, h16]; first | rfl | go_simp) ⟨Gr.refl _, rfl⟩
      · intro f_ w' g_ hF hD
        have h7 : f_ 7 = .pointer (some ⟨g, 0, none⟩) := hF 7 (by kernel_rfl)
        rw [if_pos (wanted_some (d := 17) rfl rfl (hD 2 17 (by kernel_rfl) rfl))]
        clear hF hD
        have kg : Below W5.heap.size W5 w' := (below_drewN (Below.refl _ _) 1).trans g_
        exact gives_load_row 25 (.tmp 7) rfl g (by simp only [evF, h7]) 25 (scC N A4 n4 c4 L4 m4 d4) (0, 0) _ (HH5.out.below kg) Tryd.underlying25 rfl (info_sc.trans rfl) ⟨Gr.refl _, rfl⟩
      · intro f_ w' g_ hF hD
        have h1 : f_ 1 = .int .u32 (f : Int) := hF 1 (by kernel_rfl)
        rw [if_pos (wanted_some (d := 17) rfl rfl (hD 2 17 (by kernel_rfl) rfl))]
        clear hF hD
        exact gives_val (by simp only [execOp, evF, h1]; first | rfl | go_simp) ⟨Gr.refl _, rfl⟩
      · intro f_ w' g_ hF hD
        have h18 : f_ 18 = (.agg (scC N A4 n4 c4 L4 m4 d4)) := hD 3 18 (by kernel_rfl) rfl
        have h19 : f_ 19 = (.int .u32 (f : Int)) := hD 4 19 (by kernel_rfl) rfl
        rw [if_pos (wanted_some (d := 17) rfl rfl (hD 2 17 (by kernel_rfl) rfl))]
        clear hF hD
        have kg : Below W5.heap.size W5 w' := (below_drewN (Below.refl _ _) 1).trans g_
        have kw := HB5.out.trans (kg.mono HB5.out.size)
        refine gives_func rfl Tryd.func30 (by kernel_rfl) rfl (by simp only [List.map_toArray, List.map_cons, List.map_nil, evF, h18, h19]) ((pj_c N A4 n4 c4 L4 m4 d4 f w' HSN.out (HRN.out.below kg) HF.out (HU.out.next kw) (HC.out.next kw)).mono ?_)
        rintro e w'' ⟨v, rfl, hv, hb⟩
        rw [ETW.out] at hv
        obtain ⟨A', n', c', L', m', d', e1, h1, h2, h3⟩ := hv
        exact ⟨_, rfl, hb, A', n', c', L', m', d', e1, OwnC.low h1 kg.size, Own.low h2 kg.size, h3⟩
      · intro f_ w' g_ hF hD
        have h7 : f_ 7 = .pointer (some ⟨g, 0, none⟩) := hF 7 (by kernel_rfl)
        rw [if_pos (wanted_some (d := 17) rfl rfl (hD 2 17 (by kernel_rfl) rfl))]
        clear hF hD
        have kg : Below W5.heap.size W5 w' := (below_drewN (Below.refl _ _) 1).trans g_
        exact gives_load_row 25 (.tmp 7) rfl g (by simp only [evF, h7]) 25 (scC N A4 n4 c4 L4 m4 d4) (0, 0) _ (HH5.out.below kg) Tryd.underlying25 rfl (info_sc.trans rfl) ⟨Gr.refl _, rfl⟩
      · intro f_ w' g_ hF hD
        have q20 := hD 5 20 (by kernel_rfl) rfl
        have h21 : f_ 21 = (.agg (scC N A4 n4 c4 L4 m4 d4)) := hD 6 21 (by kernel_rfl) rfl
        rw [if_pos (wanted_some (d := 17) rfl rfl (hD 2 17 (by kernel_rfl) rfl))]
        clear hF hD
        have kg : Below W5.heap.size W5 w' := (below_drewN (Below.refl _ _) 1).trans g_
        obtain ⟨A', n', c', L', m', d', e1, h1, h2, h3⟩ := q20
        refine gives_func rfl Tryd.func27 (by kernel_rfl) rfl (by simp only [List.map_toArray, List.map_cons, List.map_nil, evF, h21, e1]) ((same_c N N A' n' c' L' m' d' A4 n4 c4 L4 m4 d4 w' (HSN.out.read h1 h2) (HRN.out.below kg)).mono ?_)
        rintro e w'' ⟨rfl, hb⟩
        rw [sameS_self]
        exact ⟨_, rfl, hb, rfl⟩
      · intro f_ w' g_ hF hD
        have h22 : f_ 22 = (.bool true) := hD 7 22 (by kernel_rfl) rfl
        rw [if_pos (wanted_some (d := 17) rfl rfl (hD 2 17 (by kernel_rfl) rfl))]
        clear hF hD
        exact gives_val (by simp only [execOp, evF, h22]; first | rfl | go_simp) ⟨Gr.refl _, rfl⟩
      · intro f_ w' g_ hF hD
        have h17 : f_ 17 = (.bool false) := hD 2 17 (by kernel_rfl) rfl
        have h23 : f_ 23 = (.bool false) := hD 8 23 (by kernel_rfl) rfl
        rw [if_pos (wanted_none rfl)]
        clear hF hD
        exact gives_val (by simp only [execOp, evF, h17, h23]; first | rfl | go_simp) ⟨Gr.refl _, rfl⟩
    intro f_ w6 gg hD
    have h24 : f_ 24 = .bool false := hD 9 24 rfl
    have kg : Below W5.heap.size W5 w6 := (below_drewN (Below.refl _ _) 1).trans gg
    simp only [putAll, List.setIfInBounds_toArray, List.set_cons_zero, List.set_cons_succ, h24]
    generalize f_ 15 = d15
    generalize f_ 16 = d16
    generalize f_ 17 = d17
    generalize f_ 18 = d18
    generalize f_ 19 = d19
    generalize f_ 20 = d20
    generalize f_ 21 = d21
    generalize f_ 22 = d22
    generalize f_ 23 = d23
    have HB6 := Lib.hid (HB5.out.trans (kg.mono HB5.out.size))
    have HH6 := Lib.hid (HH5.out.below kg)
    have HP6 := Lib.hid (HP5.out.below kg)
    have HRN6 := Lib.hid (HRN.out.below kg)
    have HRS6 := Lib.hid (HRS5.out.below kg)
    have HFW := Lib.hid (few_bits f o HF.out HFO.out)
    have HFL : Hid (few f o < 4294967296) := Lib.hid (few_lt HF.out)
    clear hD gg kg h24 HO5 HT5 HH5 HP5 HB5 HRN HRS5
    go_upto_region 8 with (fail)
    rw [HFW.out]
    obtain ⟨F, eF⟩ : ∃ F, F = few f o := ⟨_, rfl⟩
    obtain ⟨M, eM⟩ : ∃ M, M = PJ F s := ⟨_, rfl⟩
    have EM : Hid (PJ F s = M) := Lib.hid eM.symm
    have EM2 : Hid (PJ F N = M) := Lib.hid (by rw [eM, eF, EN.out]; exact PJ_few f o s)
    have HSM2 : Hid (Sound M) := Lib.hid (by rw [eM]; exact HSO.out.pj F)
    rw [← eF] at HFL ⊢
    clear eM eF HFW
    refine wp_region_rw 40 [Rl.eq (.agg (scC N A4 n4 c4 L4 m4 d4)), Rl.eq (.int .u32 (F : Int)), Rl.scr w6.heap.size M, Rl.eq (.agg (scC s A n c L m cm)), Rl.eq (.int .u32 (F : Int)), Rl.scr w6.heap.size M, Rl.eq (.bool true), Rl.eq (.bool true)] [33, 34, 35, 36, 37, 38, 39, 6] (by kernel_rfl) rfl (by kernel_rfl) (by kernel_rfl) ?_ ?_
    · repeat (first | exact AllFrom.nil_ | (refine AllFrom.cons_ (by rfl) ?_ ?_; rotate_left))
      · intro f_ w' g_ hF hD
        have h7 : f_ 7 = .pointer (some ⟨g, 0, none⟩) := hF 7 (by kernel_rfl)
        rw [if_pos (wanted_none rfl)]
        clear hF hD
        have kg : Below w6.heap.size w6 w' := (below_drewN (Below.refl _ _) 1).trans g_
        exact gives_load_row 25 (.tmp 7) rfl g (by simp only [evF, h7]) 25 (scC N A4 n4 c4 L4 m4 d4) (0, 0) _ (HH6.out.below kg) Tryd.underlying25 rfl (info_sc.trans rfl) ⟨Gr.refl _, rfl⟩
      · intro f_ w' g_ hF hD
        have h8 : f_ 8 = .int .u32 (F : Int) := hF 8 (by kernel_rfl)
        rw [if_pos (wanted_none rfl)]
        clear hF hD
        exact gives_val (by simp only [execOp, evF, h8]; first | rfl | go_simp) ⟨Gr.refl _, rfl⟩
      · intro f_ w' g_ hF hD
        have h33 : f_ 33 = (.agg (scC N A4 n4 c4 L4 m4 d4)) := hD 0 33 (by kernel_rfl) rfl
        have h34 : f_ 34 = (.int .u32 (F : Int)) := hD 1 34 (by kernel_rfl) rfl
        rw [if_pos (wanted_none rfl)]
        clear hF hD
        have kg : Below w6.heap.size w6 w' := (below_drewN (Below.refl _ _) 1).trans g_
        have kw := HB6.out.trans (kg.mono HB6.out.size)
        refine gives_func rfl Tryd.func30 (by kernel_rfl) rfl (by simp only [List.map_toArray, List.map_cons, List.map_nil, evF, h33, h34]) ((pj_c N A4 n4 c4 L4 m4 d4 F w' HSN.out (HRN6.out.below kg) HFL.out (HU.out.next kw) (HC.out.next kw)).mono ?_)
        rintro e w'' ⟨v, rfl, hv, hb⟩
        rw [EM2.out] at hv
        obtain ⟨A', n', c', L', m', d', e1, h1, h2, h3⟩ := hv
        exact ⟨_, rfl, hb, A', n', c', L', m', d', e1, OwnC.low h1 kg.size, Own.low h2 kg.size, h3⟩
      · intro f_ w' g_ hF hD
        have h3 : f_ 3 = .pointer (some ⟨p, 0, none⟩) := hF 3 (by kernel_rfl)
        rw [if_pos (wanted_none rfl)]
        clear hF hD
        have kg : Below w6.heap.size w6 w' := (below_drewN (Below.refl _ _) 1).trans g_
        exact gives_load_row 25 (.tmp 3) rfl p (by simp only [evF, h3]) 25 (scC s A n c L m cm) (0, 0) _ (HP6.out.below kg) Tryd.underlying25 rfl (info_sc.trans rfl) ⟨Gr.refl _, rfl⟩
      · intro f_ w' g_ hF hD
        have h8 : f_ 8 = .int .u32 (F : Int) := hF 8 (by kernel_rfl)
        rw [if_pos (wanted_none rfl)]
        clear hF hD
        exact gives_val (by simp only [execOp, evF, h8]; first | rfl | go_simp) ⟨Gr.refl _, rfl⟩
      · intro f_ w' g_ hF hD
        have h36 : f_ 36 = (.agg (scC s A n c L m cm)) := hD 3 36 (by kernel_rfl) rfl
        have h37 : f_ 37 = (.int .u32 (F : Int)) := hD 4 37 (by kernel_rfl) rfl
        rw [if_pos (wanted_none rfl)]
        clear hF hD
        have kg : Below w6.heap.size w6 w' := (below_drewN (Below.refl _ _) 1).trans g_
        have kw := HB6.out.trans (kg.mono HB6.out.size)
        refine gives_func rfl Tryd.func30 (by kernel_rfl) rfl (by simp only [List.map_toArray, List.map_cons, List.map_nil, evF, h36, h37]) ((pj_c s A n c L m cm F w' HSO.out (HRS6.out.below kg) HFL.out (HU.out.next kw) (HC.out.next kw)).mono ?_)
        rintro e w'' ⟨v, rfl, hv, hb⟩
        rw [EM.out] at hv
        obtain ⟨A', n', c', L', m', d', e1, h1, h2, h3⟩ := hv
        exact ⟨_, rfl, hb, A', n', c', L', m', d', e1, OwnC.low h1 kg.size, Own.low h2 kg.size, h3⟩
      · intro f_ w' g_ hF hD
        have q35 := hD 2 35 (by kernel_rfl) rfl
        have q38 := hD 5 38 (by kernel_rfl) rfl
        rw [if_pos (wanted_none rfl)]
        clear hF hD
        have kg : Below w6.heap.size w6 w' := (below_drewN (Below.refl _ _) 1).trans g_
        obtain ⟨A', n', c', L', m', d', e1, h1, h2, h3⟩ := q35
        obtain ⟨B', k', b', M', l', a', e2, i1, i2, i3⟩ := q38
        refine gives_func rfl Tryd.func27 (by kernel_rfl) rfl (by simp only [List.map_toArray, List.map_cons, List.map_nil, evF, e1, e2]) ((same_c M M A' n' c' L' m' d' B' k' b' M' l' a' w' (HSM2.out.read h1 h2) (HSM2.out.read i1 i2)).mono ?_)
        rintro e w'' ⟨rfl, hb⟩
        rw [sameS_self]
        exact ⟨_, rfl, hb, rfl⟩
      · intro f_ w' g_ hF hD
        have h39 : f_ 39 = (.bool true) := hD 6 39 (by kernel_rfl) rfl
        rw [if_pos (wanted_none rfl)]
        clear hF hD
        exact gives_val (by simp only [execOp, evF, h39]; first | rfl | go_simp) ⟨Gr.refl _, rfl⟩
    intro f_ w7 gg hD
    have h6 : f_ 6 = .bool true := hD 7 6 rfl
    have kg : Below w6.heap.size w6 w7 := (below_drewN (Below.refl _ _) 1).trans gg
    simp only [putAll, List.setIfInBounds_toArray, List.set_cons_zero, List.set_cons_succ, h6]
    have HB7 := Lib.hid (HB6.out.trans (kg.mono HB6.out.size))
    clear hD gg kg h6
    go_wp2_with (fail)
    go_ret
    exact ⟨rfl, HB7.out⟩
end Go.Proofs.YtipofokinjkclaaDoor
