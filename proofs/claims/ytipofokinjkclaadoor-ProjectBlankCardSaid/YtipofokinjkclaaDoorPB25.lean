/- Parts one behind the other: The walk of ProjectBlank: the screen of a new terminal. Conditions: as told at each. -/
import Derived.Test.YtipofokinjkclaaDoorPB21
import Derived.Test.YtipofokinjkclaaDoorPB24

set_option linter.unusedVariables false
set_option linter.unusedSimpArgs false
/- The walk of ProjectBlank: the screen of a new terminal. Conditions: the tables lie where they were laid. -/
namespace Go.Proofs.YtipofokinjkclaaDoor
open Go Go.RowKit Go.Lib

theorem blank_sound {C R : Nat} (h : fitsI (C : Int) (R : Int) = true) : Sound (blankS C R) := by
  have h' := h
  simp only [fitsI, Bool.and_eq_true, decide_eq_true_eq] at h'
  have hm := Nat.mul_le_mul (show C ≤ 80 by omega) (show R ≤ 24 by omega)
  have e : ((C : Int) * (R : Int)).toNat = C * R := by rw [← Int.natCast_mul]; rfl
  have mem : ∀ d ∈ (blankS C R).cells, d = blankD := fun d hd => List.eq_of_mem_replicate hd
  exact ⟨by show (List.replicate ((C : Int) * (R : Int)).toNat blankD).length ≤ 60000; rw [List.length_replicate, e]; omega, Nat.zero_le _, fun u hu => (by cases hu), fun d hd => by rw [mem d hd]; decide, Nat.zero_le _, fun d hd => by rw [mem d hd]; decide⟩
theorem PJ_blank (f : Nat) {C R : Nat} (h : fitsI (C : Int) (R : Int) = true) : PJ f (blankS C R) = blankS C R := blank_proj _ _ _ _ _ _ h
theorem blank_read {w : World} {B C R N c : Nat} {A : Option Addr} (hf : fitsI (C : Int) (R : Int) = true) (hN : N = C * R) (h : OwnC w B (.slice A N c) (List.replicate N blankD)) : ScR w (blankS C R) A N c none 0 0 := by
  have e : ((C : Int) * (R : Int)).toNat = N := by rw [← Int.natCast_mul, hN]; rfl
  have h2 : OwnC w B (.slice A N c) (blankS C R).cells := by
    show OwnC w B (.slice A N c) (List.replicate ((C : Int) * (R : Int)).toNat blankD)
    rw [e]; exact h
  exact (blank_sound hf).read h2 (World.ownsRow_nil _ 0 _ _)
theorem scZ_read (w : World) : ScR w scZ none 0 0 none 0 0 := ⟨rfl, .inl rfl, Nat.le_refl _, by decide, rfl, .inl rfl, Nat.le_refl _, by decide, fun u hu => (by cases hu), fun d hd => (by cases hd), by decide⟩
set_option maxRecDepth 100000 in
set_option maxHeartbeats 16000000 in
theorem ProjectBlank_walk (w : World) (cols : Int) (wc : (Lit.int .i64 cols).wf = true) (rows : Int) (wr : (Lit.int .i64 rows).wf = true) (ft : Int) (wf : (Lit.int .u32 ft).wf = true) (hU : TabU w) (hC : TabC w) :
    Calls Tryd.prog 9 #[.int .i64 cols, .int .i64 rows, .int .u32 ft] w fun r w' => r = .returned (.bool true) ∧ Below w.heap.size w w' := by
  obtain ⟨f, rfl, hf⟩ := nat32 wf
  have HF := Lib.hid hf
  have HU := Lib.hid hU
  have HC := Lib.hid hC
  clear wc wr wf hf hU hC
  obtain ⟨FB, eFB⟩ : ∃ b, fitsI cols rows = b := ⟨_, rfl⟩
  cases FB
  · have HFB := Lib.hid eFB
    clear eFB
    go_enter Tryd.func9, Tryd.ntmps9
    go_upto_region 2 with (first
      | (go_at_call 34; (refine (projBlank_bad cols rows w HFB.out).mono ?_); rintro _ w1 ⟨rfl, hb1⟩; have HB1 := Lib.hid hb1; have HR1 : Hid (ScR w1 scZ none 0 0 none 0 0) := Lib.hid (scZ_read _); clear hb1)
      | (refine wpList_store_rowTo rfl 25 (.tmp 7) (.tmp 15) rfl rfl w1.heap.size (scC scZ none 0 0 none 0 0) rfl rfl 25 _ (heap_alloc_new w1 _) (info_sc.trans rfl) rfl (sc_one _ _ _ _ _ _ _) ?_))
    generalize eXX : World.alloc w1 _ = XX
    have hx : Below w1.heap.size w1 XX := by rw [← eXX]; exact (Below.refl _ _).alloc (Nat.le_refl _) _
    obtain ⟨old, hq2⟩ : ∃ old, XX.heap[w1.heap.size]? = some (.cells old 25 (0, 0)) := ⟨_, by rw [← eXX]; exact heap_alloc_new _ _⟩
    obtain ⟨g, eg⟩ : ∃ g, g = w1.heap.size := ⟨_, rfl⟩
    obtain ⟨W2, eWW⟩ : ∃ W, W = XX.setRow w1.heap.size (scC scZ none 0 0 none 0 0) := ⟨_, rfl⟩
    rw [← eWW, ← eg]
    have HG2 : Hid (ScB W2 g scZ none 0 0 none 0 0) := Lib.hid (by rw [eWW, eg]; exact setRow_heap _ _ _ _ _ _ hq2)
    have hbs : Below w1.heap.size w1 W2 := by rw [eWW]; exact below_setRow hx (Nat.le_refl _) _
    have EGg := Lib.hid eg
    clear eXX hx hq2 eg eWW
    have HB2 := Lib.hid (HB1.out.trans (hbs.mono HB1.out.size))
    have HR2 := Lib.hid (HR1.out.below hbs)
    clear hbs
    go_upto_region 3 with (first
      | (go_at_call 35; (refine (refBlank15_bad cols rows W2 HFB.out).mono ?_); rintro _ w3 ⟨rfl, hb3⟩; have HB3 := Lib.hid (HB2.out.trans (hb3.mono HB2.out.size)); have HG3 := Lib.hid (HG2.out.below hb3); have HR3 := Lib.hid (HR2.out.below hb3); have HT3 : Hid (ScR w3 scZ none 0 0 none 0 0) := Lib.hid (scZ_read _); clear hb3)
      | (refine wpList_store_rowTo rfl 25 (.tmp 9) (.tmp 21) rfl rfl w3.heap.size (scC scZ none 0 0 none 0 0) rfl rfl 25 _ (heap_alloc_new w3 _) (info_sc.trans rfl) rfl (sc_one _ _ _ _ _ _ _) ?_))
    generalize eXX : World.alloc w3 _ = XX
    have hx : Below w3.heap.size w3 XX := by rw [← eXX]; exact (Below.refl _ _).alloc (Nat.le_refl _) _
    obtain ⟨old, hq2⟩ : ∃ old, XX.heap[w3.heap.size]? = some (.cells old 25 (0, 0)) := ⟨_, by rw [← eXX]; exact heap_alloc_new _ _⟩
    obtain ⟨q, eg⟩ : ∃ g, g = w3.heap.size := ⟨_, rfl⟩
    obtain ⟨W4, eWW⟩ : ∃ W, W = XX.setRow w3.heap.size (scC scZ none 0 0 none 0 0) := ⟨_, rfl⟩
    rw [← eWW, ← eg]
    have HQ4 : Hid (ScB W4 q scZ none 0 0 none 0 0) := Lib.hid (by rw [eWW, eg]; exact setRow_heap _ _ _ _ _ _ hq2)
    have hbs : Below w3.heap.size w3 W4 := by rw [eWW]; exact below_setRow hx (Nat.le_refl _) _
    have EGq := Lib.hid eg
    clear eXX hx hq2 eg eWW
    have HB4 := Lib.hid (HB3.out.trans (hbs.mono HB3.out.size))
    have HG4 := Lib.hid (HG3.out.below hbs)
    have HR4 := Lib.hid (HR3.out.below hbs)
    have HT4 := Lib.hid (HT3.out.below hbs)
    clear hbs
    refine wp_region_rw 45 [Rl.eq (.bool true), Rl.eq (.bool true), Rl.eq (.int .i64 1), Rl.eq (.int .i64 1), Rl.eq (.bool true), Rl.eq (.bool true), Rl.eq (.bool true), Rl.eq (.agg (scC scZ none 0 0 none 0 0)), Rl.eq (.agg (scC scZ none 0 0 none 0 0)), Rl.eq (.bool true), Rl.eq (.bool true), Rl.eq (.bool true), Rl.eq (.int .i64 1), Rl.eq (.bool true), Rl.eq (.bool true), Rl.eq undef, Rl.eq undef, Rl.eq undef, Rl.eq undef, Rl.eq undef, Rl.eq (.bool true), Rl.eq (.bool true), Rl.eq (.bool true)] [23, 24, 25, 26, 27, 28, 29, 30, 31, 32, 33, 34, 35, 36, 37, 38, 39, 40, 41, 42, 43, 44, 6] (by kernel_rfl) rfl (by kernel_rfl) (by kernel_rfl) ?_ ?_
    · repeat (first | exact AllFrom.nil_ | (refine AllFrom.cons_ (by rfl) ?_ ?_; rotate_left))
      · intro f_ w' g_ hF hD
        rw [if_pos (wanted_none rfl)]
        clear hF hD
        have kg : Below W4.heap.size W4 w' := (below_drewN (Below.refl _ _) 1).trans g_
        have kw := HB4.out.trans (kg.mono HB4.out.size)
        refine gives_func rfl Tryd.func29 (by kernel_rfl) rfl (args := #[]) (by simp) ((fixed15_c w' (HU.out.next kw) (HC.out.next kw)).mono ?_)
        rintro e w'' ⟨rfl, hb⟩
        exact ⟨_, rfl, hb, rfl⟩
      · intro f_ w' g_ hF hD
        have h23 : f_ 23 = (.bool true) := hD 0 23 (by kernel_rfl) rfl
        rw [if_pos (wanted_none rfl)]
        clear hF hD
        exact gives_val (by simp only [execOp, evF, h23]; first | rfl | go_simp) ⟨Gr.refl _, rfl⟩
      · intro f_ w' g_ hF hD
        have h8 : f_ 8 = .int .i64 1 := hF 8 (by kernel_rfl)
        rw [if_pos (wanted_some (d := 24) rfl rfl (hD 1 24 (by kernel_rfl) rfl))]
        clear hF hD
        exact gives_val (by simp only [execOp, evF, h8]; first | rfl | go_simp) ⟨Gr.refl _, rfl⟩
      · intro f_ w' g_ hF hD
        have h10 : f_ 10 = .int .i64 1 := hF 10 (by kernel_rfl)
        rw [if_pos (wanted_some (d := 24) rfl rfl (hD 1 24 (by kernel_rfl) rfl))]
        clear hF hD
        exact gives_val (by simp only [execOp, evF, h10]; first | rfl | go_simp) ⟨Gr.refl _, rfl⟩
      · intro f_ w' g_ hF hD
        have h25 : f_ 25 = (.int .i64 1) := hD 2 25 (by kernel_rfl) rfl
        have h26 : f_ 26 = (.int .i64 1) := hD 3 26 (by kernel_rfl) rfl
        rw [if_pos (wanted_some (d := 24) rfl rfl (hD 1 24 (by kernel_rfl) rfl))]
        clear hF hD
        exact gives_val (by simp only [execOp, evF, h25, h26]; first | rfl | go_simp) ⟨Gr.refl _, rfl⟩
      · intro f_ w' g_ hF hD
        have h24 : f_ 24 = (.bool true) := hD 1 24 (by kernel_rfl) rfl
        have h27 : f_ 27 = (.bool true) := hD 4 27 (by kernel_rfl) rfl
        rw [if_pos (wanted_none rfl)]
        clear hF hD
        exact gives_val (by simp only [execOp, evF, h24, h27]; first | rfl | go_simp) ⟨Gr.refl _, rfl⟩
      · intro f_ w' g_ hF hD
        have h28 : f_ 28 = (.bool true) := hD 5 28 (by kernel_rfl) rfl
        rw [if_pos (wanted_none rfl)]
        clear hF hD
        exact gives_val (by simp only [execOp, evF, h28]; first | rfl | go_simp) ⟨Gr.refl _, rfl⟩
      · intro f_ w' g_ hF hD
        have h7 : f_ 7 = .pointer (some ⟨g, 0, none⟩) := hF 7 (by kernel_rfl)
        rw [if_pos (wanted_some (d := 29) rfl rfl (hD 6 29 (by kernel_rfl) rfl))]
        clear hF hD
        have kg : Below W4.heap.size W4 w' := (below_drewN (Below.refl _ _) 1).trans g_
        exact gives_load_row 25 (.tmp 7) rfl g (by simp only [evF, h7]) 25 (scC scZ none 0 0 none 0 0) (0, 0) _ (HG4.out.below kg) Tryd.underlying25 rfl (info_sc.trans rfl) ⟨Gr.refl _, rfl⟩
      · intro f_ w' g_ hF hD
        have h9 : f_ 9 = .pointer (some ⟨q, 0, none⟩) := hF 9 (by kernel_rfl)
        rw [if_pos (wanted_some (d := 29) rfl rfl (hD 6 29 (by kernel_rfl) rfl))]
        clear hF hD
        have kg : Below W4.heap.size W4 w' := (below_drewN (Below.refl _ _) 1).trans g_
        exact gives_load_row 25 (.tmp 9) rfl q (by simp only [evF, h9]) 25 (scC scZ none 0 0 none 0 0) (0, 0) _ (HQ4.out.below kg) Tryd.underlying25 rfl (info_sc.trans rfl) ⟨Gr.refl _, rfl⟩
      · intro f_ w' g_ hF hD
        have h30 : f_ 30 = (.agg (scC scZ none 0 0 none 0 0)) := hD 7 30 (by kernel_rfl) rfl
        have h31 : f_ 31 = (.agg (scC scZ none 0 0 none 0 0)) := hD 8 31 (by kernel_rfl) rfl
        rw [if_pos (wanted_some (d := 29) rfl rfl (hD 6 29 (by kernel_rfl) rfl))]
        clear hF hD
        have kg : Below W4.heap.size W4 w' := (below_drewN (Below.refl _ _) 1).trans g_
        refine gives_func rfl Tryd.func27 (by kernel_rfl) rfl (by simp only [List.map_toArray, List.map_cons, List.map_nil, evF, h30, h31]) ((same_c scZ scZ none 0 0 none 0 0 none 0 0 none 0 0 w' (HR4.out.below kg) (HT4.out.below kg)).mono ?_)
        rintro e w'' ⟨rfl, hb⟩
        rw [sameS_self]
        exact ⟨_, rfl, hb, rfl⟩
      · intro f_ w' g_ hF hD
        have h29 : f_ 29 = (.bool true) := hD 6 29 (by kernel_rfl) rfl
        have h32 : f_ 32 = (.bool true) := hD 9 32 (by kernel_rfl) rfl
        rw [if_pos (wanted_none rfl)]
        clear hF hD
        exact gives_val (by simp only [execOp, evF, h29, h32]; first | rfl | go_simp) ⟨Gr.refl _, rfl⟩
      · intro f_ w' g_ hF hD
        have h33 : f_ 33 = (.bool true) := hD 10 33 (by kernel_rfl) rfl
        rw [if_pos (wanted_none rfl)]
        clear hF hD
        exact gives_val (by simp only [execOp, evF, h33]; first | rfl | go_simp) ⟨Gr.refl _, rfl⟩
      · intro f_ w' g_ hF hD
        have h8 : f_ 8 = .int .i64 1 := hF 8 (by kernel_rfl)
        rw [if_pos (wanted_some (d := 34) rfl rfl (hD 11 34 (by kernel_rfl) rfl))]
        clear hF hD
        exact gives_val (by simp only [execOp, evF, h8]; first | rfl | go_simp) ⟨Gr.refl _, rfl⟩
      · intro f_ w' g_ hF hD
        have h35 : f_ 35 = (.int .i64 1) := hD 12 35 (by kernel_rfl) rfl
        rw [if_pos (wanted_some (d := 34) rfl rfl (hD 11 34 (by kernel_rfl) rfl))]
        clear hF hD
        exact gives_val (by simp only [execOp, evF, h35]; first | rfl | go_simp) ⟨Gr.refl _, rfl⟩
      · intro f_ w' g_ hF hD
        have h36 : f_ 36 = (.bool true) := hD 13 36 (by kernel_rfl) rfl
        rw [if_pos (wanted_some (d := 34) rfl rfl (hD 11 34 (by kernel_rfl) rfl))]
        clear hF hD
        exact gives_val (by simp only [execOp, evF, h36]; first | rfl | go_simp) ⟨Gr.refl _, rfl⟩
      · intro f_ w' g_ hF hD
        rw [if_neg (unwanted_some (d := 37) (b := false) rfl rfl (show f_ 37 = .bool true from hD 14 37 (by kernel_rfl) rfl))]
        exact rfl
      · intro f_ w' g_ hF hD
        rw [if_neg (unwanted_some (d := 37) (b := false) rfl rfl (show f_ 37 = .bool true from hD 14 37 (by kernel_rfl) rfl))]
        exact rfl
      · intro f_ w' g_ hF hD
        rw [if_neg (unwanted_some (d := 37) (b := false) rfl rfl (show f_ 37 = .bool true from hD 14 37 (by kernel_rfl) rfl))]
        exact rfl
      · intro f_ w' g_ hF hD
        rw [if_neg (unwanted_some (d := 37) (b := false) rfl rfl (show f_ 37 = .bool true from hD 14 37 (by kernel_rfl) rfl))]
        exact rfl
      · intro f_ w' g_ hF hD
        rw [if_neg (unwanted_some (d := 37) (b := false) rfl rfl (show f_ 37 = .bool true from hD 14 37 (by kernel_rfl) rfl))]
        exact rfl
      · intro f_ w' g_ hF hD
        have h37 : f_ 37 = (.bool true) := hD 14 37 (by kernel_rfl) rfl
        have h42 : f_ 42 = undef := hD 19 42 (by kernel_rfl) rfl
        rw [if_pos (wanted_some (d := 34) rfl rfl (hD 11 34 (by kernel_rfl) rfl))]
        clear hF hD
        exact gives_val (by simp only [execOp, evF, h37, h42]; first | rfl | go_simp) ⟨Gr.refl _, rfl⟩
      · intro f_ w' g_ hF hD
        have h34 : f_ 34 = (.bool true) := hD 11 34 (by kernel_rfl) rfl
        have h43 : f_ 43 = (.bool true) := hD 20 43 (by kernel_rfl) rfl
        rw [if_pos (wanted_none rfl)]
        clear hF hD
        exact gives_val (by simp only [execOp, evF, h34, h43]; first | rfl | go_simp) ⟨Gr.refl _, rfl⟩
      · intro f_ w' g_ hF hD
        have h44 : f_ 44 = (.bool true) := hD 21 44 (by kernel_rfl) rfl
        rw [if_pos (wanted_none rfl)]
        clear hF hD
        exact gives_val (by simp only [execOp, evF, h44]; first | rfl | go_simp) ⟨Gr.refl _, rfl⟩
    intro f_ w6 gg hD
    have h6 : f_ 6 = .bool true := hD 22 6 rfl
    have kg : Below W4.heap.size W4 w6 := (below_drewN (Below.refl _ _) 1).trans gg
    simp only [putAll, List.setIfInBounds_toArray, List.set_cons_zero, List.set_cons_succ, h6]
    have HB6 := Lib.hid (HB4.out.trans (kg.mono HB4.out.size))
    clear hD gg kg h6
    go_wp2_with (fail)
    go_ret
    exact ⟨rfl, HB6.out⟩
  · obtain ⟨C, R, rfl, rfl, _, _, _, _⟩ := fitsI_nat eFB
    have HFB := Lib.hid eFB
    obtain ⟨N, eN⟩ : ∃ N, N = C * R := ⟨_, rfl⟩
    have HNN := Lib.hid eN
    have HSB : Hid (Sound (blankS C R)) := Lib.hid (blank_sound eFB)
    have EPB : Hid (PJ f (blankS C R) = blankS C R) := Lib.hid (PJ_blank f eFB)
    clear eFB eN
    go_enter Tryd.func9, Tryd.ntmps9
    go_upto_region 2 with (first
      | (go_at_call 34; (refine (projBlank_c C R N w HFB.out HNN.out).mono ?_); rintro _ w1 ⟨A1, c1, rfl, ho1, hb1⟩; have HB1 := Lib.hid hb1; have HR1 : Hid (ScR w1 (blankS C R) A1 N c1 none 0 0) := Lib.hid (blank_read HFB.out HNN.out ho1); clear ho1 hb1)
      | (refine wpList_store_rowTo rfl 25 (.tmp 7) (.tmp 15) rfl rfl w1.heap.size (scC (blankS C R) A1 N c1 none 0 0) rfl rfl 25 _ (heap_alloc_new w1 _) (info_sc.trans rfl) rfl (sc_one _ _ _ _ _ _ _) ?_))
    generalize eXX : World.alloc w1 _ = XX
    have hx : Below w1.heap.size w1 XX := by rw [← eXX]; exact (Below.refl _ _).alloc (Nat.le_refl _) _
    obtain ⟨old, hq2⟩ : ∃ old, XX.heap[w1.heap.size]? = some (.cells old 25 (0, 0)) := ⟨_, by rw [← eXX]; exact heap_alloc_new _ _⟩
    obtain ⟨g, eg⟩ : ∃ g, g = w1.heap.size := ⟨_, rfl⟩
    obtain ⟨W2, eWW⟩ : ∃ W, W = XX.setRow w1.heap.size (scC (blankS C R) A1 N c1 none 0 0) := ⟨_, rfl⟩
    rw [← eWW, ← eg]
    have HG2 : Hid (ScB W2 g (blankS C R) A1 N c1 none 0 0) := Lib.hid (by rw [eWW, eg]; exact setRow_heap _ _ _ _ _ _ hq2)
    have hbs : Below w1.heap.size w1 W2 := by rw [eWW]; exact below_setRow hx (Nat.le_refl _) _
    have EGg := Lib.hid eg
    clear eXX hx hq2 eg eWW
    have HB2 := Lib.hid (HB1.out.trans (hbs.mono HB1.out.size))
    have HR2 := Lib.hid (HR1.out.below hbs)
    clear hbs
    go_upto_region 3 with (first
      | (go_at_call 35; (refine (refBlank15_c C R N W2 HFB.out HNN.out).mono ?_); rintro _ w3 ⟨A2, c2, rfl, ho3, hb3⟩; have HB3 := Lib.hid (HB2.out.trans (hb3.mono HB2.out.size)); have HG3 := Lib.hid (HG2.out.below hb3); have HR3 := Lib.hid (HR2.out.below hb3); have HT3 : Hid (ScR w3 (blankS C R) A2 N c2 none 0 0) := Lib.hid (blank_read HFB.out HNN.out ho3); clear ho3 hb3)
      | (refine wpList_store_rowTo rfl 25 (.tmp 9) (.tmp 21) rfl rfl w3.heap.size (scC (blankS C R) A2 N c2 none 0 0) rfl rfl 25 _ (heap_alloc_new w3 _) (info_sc.trans rfl) rfl (sc_one _ _ _ _ _ _ _) ?_))
    generalize eXX : World.alloc w3 _ = XX
    have hx : Below w3.heap.size w3 XX := by rw [← eXX]; exact (Below.refl _ _).alloc (Nat.le_refl _) _
    obtain ⟨old, hq2⟩ : ∃ old, XX.heap[w3.heap.size]? = some (.cells old 25 (0, 0)) := ⟨_, by rw [← eXX]; exact heap_alloc_new _ _⟩
    obtain ⟨q, eg⟩ : ∃ g, g = w3.heap.size := ⟨_, rfl⟩
    obtain ⟨W4, eWW⟩ : ∃ W, W = XX.setRow w3.heap.size (scC (blankS C R) A2 N c2 none 0 0) := ⟨_, rfl⟩
    rw [← eWW, ← eg]
    have HQ4 : Hid (ScB W4 q (blankS C R) A2 N c2 none 0 0) := Lib.hid (by rw [eWW, eg]; exact setRow_heap _ _ _ _ _ _ hq2)
    have hbs : Below w3.heap.size w3 W4 := by rw [eWW]; exact below_setRow hx (Nat.le_refl _) _
    have EGq := Lib.hid eg
    clear eXX hx hq2 eg eWW
    have HB4 := Lib.hid (HB3.out.trans (hbs.mono HB3.out.size))
    have HG4 := Lib.hid (HG3.out.below hbs)
    have HR4 := Lib.hid (HR3.out.below hbs)
    have HT4 := Lib.hid (HT3.out.below hbs)
    clear hbs
    refine wp_region_rw 45 [Rl.eq (.bool true), Rl.eq (.bool true), Rl.eq (.int .i64 0), Rl.eq (.int .i64 0), Rl.eq (.bool true), Rl.eq (.bool true), Rl.eq (.bool true), Rl.eq (.agg (scC (blankS C R) A1 N c1 none 0 0)), Rl.eq (.agg (scC (blankS C R) A2 N c2 none 0 0)), Rl.eq (.bool true), Rl.eq (.bool true), Rl.eq (.bool true), Rl.eq (.int .i64 0), Rl.eq (.bool false), Rl.eq (.bool false), Rl.eq (.agg (scC (blankS C R) A1 N c1 none 0 0)), Rl.eq (.int .u32 (f : Int)), Rl.scr W4.heap.size (blankS C R), Rl.eq (.agg (scC (blankS C R) A1 N c1 none 0 0)), Rl.eq (.bool true), Rl.eq (.bool true), Rl.eq (.bool true), Rl.eq (.bool true)] [23, 24, 25, 26, 27, 28, 29, 30, 31, 32, 33, 34, 35, 36, 37, 38, 39, 40, 41, 42, 43, 44, 6] (by kernel_rfl) rfl (by kernel_rfl) (by kernel_rfl) ?_ ?_
    · repeat (first | exact AllFrom.nil_ | (refine AllFrom.cons_ (by rfl) ?_ ?_; rotate_left))
      · intro f_ w' g_ hF hD
        rw [if_pos (wanted_none rfl)]
        clear hF hD
        have kg : Below W4.heap.size W4 w' := (below_drewN (Below.refl _ _) 1).trans g_
        have kw := HB4.out.trans (kg.mono HB4.out.size)
        refine gives_func rfl Tryd.func29 (by kernel_rfl) rfl (args := #[]) (by simp) ((fixed15_c w' (HU.out.next kw) (HC.out.next kw)).mono ?_)
        rintro e w'' ⟨rfl, hb⟩
        exact ⟨_, rfl, hb, rfl⟩
      · intro f_ w' g_ hF hD
        have h23 : f_ 23 = (.bool true) := hD 0 23 (by kernel_rfl) rfl
        rw [if_pos (wanted_none rfl)]
        clear hF hD
        exact gives_val (by simp only [execOp, evF, h23]; first | rfl | go_simp) ⟨Gr.refl _, rfl⟩
      · intro f_ w' g_ hF hD
        have h8 : f_ 8 = .int .i64 0 := hF 8 (by kernel_rfl)
        rw [if_pos (wanted_some (d := 24) rfl rfl (hD 1 24 (by kernel_rfl) rfl))]
        clear hF hD
        exact gives_val (by simp only [execOp, evF, h8]; first | rfl | go_simp) ⟨Gr.refl _, rfl⟩
      · intro f_ w' g_ hF hD
        have h10 : f_ 10 = .int .i64 0 := hF 10 (by kernel_rfl)
        rw [if_pos (wanted_some (d := 24) rfl rfl (hD 1 24 (by kernel_rfl) rfl))]
        clear hF hD
        exact gives_val (by simp only [execOp, evF, h10]; first | rfl | go_simp) ⟨Gr.refl _, rfl⟩
      · intro f_ w' g_ hF hD
        have h25 : f_ 25 = (.int .i64 0) := hD 2 25 (by kernel_rfl) rfl
        have h26 : f_ 26 = (.int .i64 0) := hD 3 26 (by kernel_rfl) rfl
        rw [if_pos (wanted_some (d := 24) rfl rfl (hD 1 24 (by kernel_rfl) rfl))]
        clear hF hD
        exact gives_val (by simp only [execOp, evF, h25, h26]; first | rfl | go_simp) ⟨Gr.refl _, rfl⟩
      · intro f_ w' g_ hF hD
        have h24 : f_ 24 = (.bool true) := hD 1 24 (by kernel_rfl) rfl
        have h27 : f_ 27 = (.bool true) := hD 4 27 (by kernel_rfl) rfl
        rw [if_pos (wanted_none rfl)]
        clear hF hD
        exact gives_val (by simp only [execOp, evF, h24, h27]; first | rfl | go_simp) ⟨Gr.refl _, rfl⟩
      · intro f_ w' g_ hF hD
        have h28 : f_ 28 = (.bool true) := hD 5 28 (by kernel_rfl) rfl
        rw [if_pos (wanted_none rfl)]
        clear hF hD
        exact gives_val (by simp only [execOp, evF, h28]; first | rfl | go_simp) ⟨Gr.refl _, rfl⟩
      · intro f_ w' g_ hF hD
        have h7 : f_ 7 = .pointer (some ⟨g, 0, none⟩) := hF 7 (by kernel_rfl)
        rw [if_pos (wanted_some (d := 29) rfl rfl (hD 6 29 (by kernel_rfl) rfl))]
        clear hF hD
        have kg : Below W4.heap.size W4 w' := (below_drewN (Below.refl _ _) 1).trans g_
        exact gives_load_row 25 (.tmp 7) rfl g (by simp only [evF, h7]) 25 (scC (blankS C R) A1 N c1 none 0 0) (0, 0) _ (HG4.out.below kg) Tryd.underlying25 rfl (info_sc.trans rfl) ⟨Gr.refl _, rfl⟩
      · intro f_ w' g_ hF hD
        have h9 : f_ 9 = .pointer (some ⟨q, 0, none⟩) := hF 9 (by kernel_rfl)
        rw [if_pos (wanted_some (d := 29) rfl rfl (hD 6 29 (by kernel_rfl) rfl))]
        clear hF hD
        have kg : Below W4.heap.size W4 w' := (below_drewN (Below.refl _ _) 1).trans g_
        exact gives_load_row 25 (.tmp 9) rfl q (by simp only [evF, h9]) 25 (scC (blankS C R) A2 N c2 none 0 0) (0, 0) _ (HQ4.out.below kg) Tryd.underlying25 rfl (info_sc.trans rfl) ⟨Gr.refl _, rfl⟩
      · intro f_ w' g_ hF hD
        have h30 : f_ 30 = (.agg (scC (blankS C R) A1 N c1 none 0 0)) := hD 7 30 (by kernel_rfl) rfl
        have h31 : f_ 31 = (.agg (scC (blankS C R) A2 N c2 none 0 0)) := hD 8 31 (by kernel_rfl) rfl
        rw [if_pos (wanted_some (d := 29) rfl rfl (hD 6 29 (by kernel_rfl) rfl))]
        clear hF hD
        have kg : Below W4.heap.size W4 w' := (below_drewN (Below.refl _ _) 1).trans g_
        refine gives_func rfl Tryd.func27 (by kernel_rfl) rfl (by simp only [List.map_toArray, List.map_cons, List.map_nil, evF, h30, h31]) ((same_c (blankS C R) (blankS C R) A1 N c1 none 0 0 A2 N c2 none 0 0 w' (HR4.out.below kg) (HT4.out.below kg)).mono ?_)
        rintro e w'' ⟨rfl, hb⟩
        rw [sameS_self]
        exact ⟨_, rfl, hb, rfl⟩
      · intro f_ w' g_ hF hD
        have h29 : f_ 29 = (.bool true) := hD 6 29 (by kernel_rfl) rfl
        have h32 : f_ 32 = (.bool true) := hD 9 32 (by kernel_rfl) rfl
        rw [if_pos (wanted_none rfl)]
        clear hF hD
        exact gives_val (by simp only [execOp, evF, h29, h32]; first | rfl | go_simp) ⟨Gr.refl _, rfl⟩
      · intro f_ w' g_ hF hD
        have h33 : f_ 33 = (.bool true) := hD 10 33 (by kernel_rfl) rfl
        rw [if_pos (wanted_none rfl)]
        clear hF hD
        exact gives_val (by simp only [execOp, evF, h33]; first | rfl | go_simp) ⟨Gr.refl _, rfl⟩
      · intro f_ w' g_ hF hD
        have h8 : f_ 8 = .int .i64 0 := hF 8 (by kernel_rfl)
        rw [if_pos (wanted_some (d := 34) rfl rfl (hD 11 34 (by kernel_rfl) rfl))]
        clear hF hD
        exact gives_val (by simp only [execOp, evF, h8]; first | rfl | go_simp) ⟨Gr.refl _, rfl⟩
      · intro f_ w' g_ hF hD
        have h35 : f_ 35 = (.int .i64 0) := hD 12 35 (by kernel_rfl) rfl
        rw [if_pos (wanted_some (d := 34) rfl rfl (hD 11 34 (by kernel_rfl) rfl))]
        clear hF hD
        exact gives_val (by simp only [execOp, evF, h35]; first | rfl | go_simp) ⟨Gr.refl _, rfl⟩
      · intro f_ w' g_ hF hD
        have h36 : f_ 36 = (.bool false) := hD 13 36 (by kernel_rfl) rfl
        rw [if_pos (wanted_some (d := 34) rfl rfl (hD 11 34 (by kernel_rfl) rfl))]
        clear hF hD
        exact gives_val (by simp only [execOp, evF, h36]; first | rfl | go_simp) ⟨Gr.refl _, rfl⟩
      · intro f_ w' g_ hF hD
        have h7 : f_ 7 = .pointer (some ⟨g, 0, none⟩) := hF 7 (by kernel_rfl)
        rw [if_pos (wanted_some (d := 37) rfl rfl (hD 14 37 (by kernel_rfl) rfl))]
        clear hF hD
        have kg : Below W4.heap.size W4 w' := (below_drewN (Below.refl _ _) 1).trans g_
        exact gives_load_row 25 (.tmp 7) rfl g (by simp only [evF, h7]) 25 (scC (blankS C R) A1 N c1 none 0 0) (0, 0) _ (HG4.out.below kg) Tryd.underlying25 rfl (info_sc.trans rfl) ⟨Gr.refl _, rfl⟩
      · intro f_ w' g_ hF hD
        have h2 : f_ 2 = .int .u32 (f : Int) := hF 2 (by kernel_rfl)
        rw [if_pos (wanted_some (d := 37) rfl rfl (hD 14 37 (by kernel_rfl) rfl))]
        clear hF hD
        exact gives_val (by simp only [execOp, evF, h2]; first | rfl | go_simp) ⟨Gr.refl _, rfl⟩
      · intro f_ w' g_ hF hD
        have h38 : f_ 38 = (.agg (scC (blankS C R) A1 N c1 none 0 0)) := hD 15 38 (by kernel_rfl) rfl
        have h39 : f_ 39 = (.int .u32 (f : Int)) := hD 16 39 (by kernel_rfl) rfl
        rw [if_pos (wanted_some (d := 37) rfl rfl (hD 14 37 (by kernel_rfl) rfl))]
        clear hF hD
        have kg : Below W4.heap.size W4 w' := (below_drewN (Below.refl _ _) 1).trans g_
        have kw := HB4.out.trans (kg.mono HB4.out.size)
        refine gives_func rfl Tryd.func30 (by kernel_rfl) rfl (by simp only [List.map_toArray, List.map_cons, List.map_nil, evF, h38, h39]) ((pj_c (blankS C R) A1 N c1 none 0 0 f w' HSB.out (HR4.out.below kg) HF.out (HU.out.next kw) (HC.out.next kw)).mono ?_)
        rintro e w'' ⟨v, rfl, hv, hb⟩
        rw [EPB.out] at hv
        obtain ⟨A', n', c', L', m', d', e1, h1, h2, h3⟩ := hv
        exact ⟨_, rfl, hb, A', n', c', L', m', d', e1, OwnC.low h1 kg.size, Own.low h2 kg.size, h3⟩
      · intro f_ w' g_ hF hD
        have h7 : f_ 7 = .pointer (some ⟨g, 0, none⟩) := hF 7 (by kernel_rfl)
        rw [if_pos (wanted_some (d := 37) rfl rfl (hD 14 37 (by kernel_rfl) rfl))]
        clear hF hD
        have kg : Below W4.heap.size W4 w' := (below_drewN (Below.refl _ _) 1).trans g_
        exact gives_load_row 25 (.tmp 7) rfl g (by simp only [evF, h7]) 25 (scC (blankS C R) A1 N c1 none 0 0) (0, 0) _ (HG4.out.below kg) Tryd.underlying25 rfl (info_sc.trans rfl) ⟨Gr.refl _, rfl⟩
      · intro f_ w' g_ hF hD
        have q40 := hD 17 40 (by kernel_rfl) rfl
        have h41 : f_ 41 = (.agg (scC (blankS C R) A1 N c1 none 0 0)) := hD 18 41 (by kernel_rfl) rfl
        rw [if_pos (wanted_some (d := 37) rfl rfl (hD 14 37 (by kernel_rfl) rfl))]
        clear hF hD
        have kg : Below W4.heap.size W4 w' := (below_drewN (Below.refl _ _) 1).trans g_
        obtain ⟨A', n', c', L', m', d', e1, h1, h2, h3⟩ := q40
        refine gives_func rfl Tryd.func27 (by kernel_rfl) rfl (by simp only [List.map_toArray, List.map_cons, List.map_nil, evF, h41, e1]) ((same_c (blankS C R) (blankS C R) A' n' c' L' m' d' A1 N c1 none 0 0 w' (HSB.out.read h1 h2) (HR4.out.below kg)).mono ?_)
        rintro e w'' ⟨rfl, hb⟩
        rw [sameS_self]
        exact ⟨_, rfl, hb, rfl⟩
      · intro f_ w' g_ hF hD
        have h37 : f_ 37 = (.bool false) := hD 14 37 (by kernel_rfl) rfl
        have h42 : f_ 42 = (.bool true) := hD 19 42 (by kernel_rfl) rfl
        rw [if_pos (wanted_some (d := 34) rfl rfl (hD 11 34 (by kernel_rfl) rfl))]
        clear hF hD
        exact gives_val (by simp only [execOp, evF, h37, h42]; first | rfl | go_simp) ⟨Gr.refl _, rfl⟩
      · intro f_ w' g_ hF hD
        have h34 : f_ 34 = (.bool true) := hD 11 34 (by kernel_rfl) rfl
        have h43 : f_ 43 = (.bool true) := hD 20 43 (by kernel_rfl) rfl
        rw [if_pos (wanted_none rfl)]
        clear hF hD
        exact gives_val (by simp only [execOp, evF, h34, h43]; first | rfl | go_simp) ⟨Gr.refl _, rfl⟩
      · intro f_ w' g_ hF hD
        have h44 : f_ 44 = (.bool true) := hD 21 44 (by kernel_rfl) rfl
        rw [if_pos (wanted_none rfl)]
        clear hF hD
        exact gives_val (by simp only [execOp, evF, h44]; first | rfl | go_simp) ⟨Gr.refl _, rfl⟩
    intro f_ w6 gg hD
    have h6 : f_ 6 = .bool true := hD 22 6 rfl
    have kg : Below W4.heap.size W4 w6 := (below_drewN (Below.refl _ _) 1).trans gg
    simp only [putAll, List.setIfInBounds_toArray, List.set_cons_zero, List.set_cons_succ, h6]
    have HB6 := Lib.hid (HB4.out.trans (kg.mono HB4.out.size))
    clear hD gg kg h6
    go_wp2_with (fail)
    go_ret
    exact ⟨rfl, HB6.out⟩
end Go.Proofs.YtipofokinjkclaaDoor
