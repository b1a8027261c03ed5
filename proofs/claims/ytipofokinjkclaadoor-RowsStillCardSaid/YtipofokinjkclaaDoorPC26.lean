/- Parts one behind the other: The features' bits, and what the reference's Has answers; What law 15's great and fixed answer; What law 16's great and fixed answer; The walk of RowsStill: from a screen to itself with another cursor no row is told. Conditions: as told at each. -/
import Derived.Test.YtipofokinjkclaaDoorPC16
import Derived.Laws.BitsAllLaws
import Derived.Test.YtipofokinjkclaaDoorPC18
import Derived.Test.YtipofokinjkclaaDoorPC25
import Derived.Test.YtipofokinjkclaaDoorPC24

set_option linter.unusedVariables false
set_option linter.unusedSimpArgs false
/- The features' bits, and what the reference's Has answers. Conditions: features of 32 bits. -/
namespace Go.Proofs.YtipofokinjkclaaDoor
open Go Go.RowKit Go.Lib

theorem and_pow (f j : Nat) : f &&& 2 ^ j = if f.testBit j then 2 ^ j else 0 := by
  apply Nat.eq_of_testBit_eq
  intro i
  rw [Nat.testBit_and, Nat.testBit_two_pow]
  by_cases h : j = i
  · subst h
    cases hb : f.testBit j
    · simp
    · simp [Nat.testBit_two_pow]
  · rw [decide_eq_false h, Bool.and_false]
    cases hb : f.testBit j
    · simp
    · simp [Nat.testBit_two_pow, h]
theorem and_bit (f j : Nat) (hf : f < 4294967296) (hj : j < 32) : bits BinOp.and .u32 (f : Int) ((2 ^ j : Nat) : Int) = if f.testBit j then ((2 ^ j : Nat) : Int) else 0 := by
  have h2 : 2 ^ j < 4294967296 := by
    have := Nat.pow_lt_pow_right (a := 2) (by decide) hj
    simpa using this
  rw [u32_and_nat f (2 ^ j) hf h2, and_pow]
  cases f.testBit j <;> simp
theorem and_ne (f j : Nat) (hf : f < 4294967296) (hj : j < 32) : (bits BinOp.and .u32 (f : Int) ((2 ^ j : Nat) : Int) != 0) = f.testBit j := by
  rw [and_bit f j hf hj]
  have h : (2 ^ j : Nat) ≠ 0 := Nat.ne_of_gt (Nat.two_pow_pos j)
  cases f.testBit j
  · rfl
  · rw [if_pos rfl, bne_iff_ne]; exact_mod_cast h
theorem and_eq0 (f j : Nat) (hf : f < 4294967296) (hj : j < 32) : (bits BinOp.and .u32 (f : Int) ((2 ^ j : Nat) : Int) == 0) = !f.testBit j := by
  have := and_ne f j hf hj
  rw [bne] at this
  rw [← this, Bool.not_not]
theorem and_eqk (f j : Nat) (hf : f < 4294967296) (hj : j < 32) : (bits BinOp.and .u32 (f : Int) ((2 ^ j : Nat) : Int) == ((2 ^ j : Nat) : Int)) = f.testBit j := by
  rw [and_bit f j hf hj]
  have h : (2 ^ j : Nat) ≠ 0 := Nat.ne_of_gt (Nat.two_pow_pos j)
  cases f.testBit j
  · rw [if_neg (by simp), beq_eq_false_iff_ne]; exact_mod_cast h.symm
  · rw [if_pos rfl]; exact beq_self_eq_true _
theorem fts (f : Nat) (hf : f < 4294967296) : Fts (f : Int) (f.testBit 0) (f.testBit 1) (f.testBit 2) (f.testBit 3) :=
  ⟨and_ne f 0 hf (by decide), and_ne f 1 hf (by decide), and_eq0 f 2 hf (by decide), and_eq0 f 3 hf (by decide)⟩
theorem ref_bits (f : Nat) : (((f : Nat) : Int) % 2 == 1) = f.testBit 0 ∧ (((f : Nat) : Int) / 2 % 2 == 1) = f.testBit 1 := by
  constructor
  · rw [Nat.testBit_zero, Bool.eq_iff_iff, beq_iff_eq, decide_eq_true_eq]; omega
  · rw [Nat.testBit_succ, Nat.testBit_zero, Bool.eq_iff_iff, beq_iff_eq, decide_eq_true_eq]; omega
set_option maxRecDepth 100000 in
theorem Has_c (f x : Int) (w : World) : Calls Tryd.prog 58 #[.int .u32 f, .int .u32 x] w fun e w' => e = .returned (.bool (bits BinOp.and .u32 f x == x)) ∧ w' = w := by
  go_enter Tryd.func58, Tryd.ntmps58
  go_wp2_with (fail)
  go_ret
  exact ⟨rfl, rfl⟩
/-- Has, as the features' bits say. -/
theorem Has_bit (f j : Nat) (X : Int) (hX : X = ((2 ^ j : Nat) : Int)) (hf : f < 4294967296) (hj : j < 32) (w : World) : Calls Tryd.prog 58 #[.int .u32 (f : Int), .int .u32 X] w fun e w' => e = .returned (.bool (f.testBit j)) ∧ w' = w := by
  subst hX
  have h := Has_c (f : Int) ((2 ^ j : Nat) : Int) w
  rwa [and_eqk f j hf hj] at h
end Go.Proofs.YtipofokinjkclaaDoor

/- What law 15's great and fixed answer. Conditions: the tables lie where they were laid. -/
namespace Go.Proofs.YtipofokinjkclaaDoor
open Go Go.RowKit Go.Lib

def greatB (n t m : Nat) : Bool := decide (3000 < (n : Int)) || (decide (1000 < (t : Int)) || decide (1000 < (m : Int)))
theorem greatB_no {n t m : Nat} (h : greatB n t m = false) : n ≤ 3000 ∧ t ≤ 1000 ∧ m ≤ 1000 := by
  simp only [greatB, Bool.or_eq_false_iff, decide_eq_false_iff_not] at h
  omega
set_option maxRecDepth 100000 in
set_option maxHeartbeats 8000000 in
theorem great15_c (s : ScD) (A : Option Addr) (n c : Nat) (L : Option Addr) (m cm : Nat) (w : World) :
    Calls Tryd.prog 28 #[.agg (scC s A n c L m cm)] w fun e w' => e = .returned (.bool (greatB n s.title.size m)) ∧ Below w.heap.size w w' := by
  obtain ⟨X, eX⟩ : ∃ X, X = scC s A n c L m cm := ⟨_, rfl⟩
  rw [← eX]
  obtain ⟨W0, eW0⟩ : ∃ W0, W0 = w.alloc (.cells X 25) := ⟨_, rfl⟩
  obtain ⟨p, ep⟩ : ∃ p, p = w.heap.size := ⟨_, rfl⟩
  have hb0 : Below w.heap.size w W0 := by rw [eW0]; exact (Below.refl _ _).alloc (Nat.le_refl _) _
  have hp0 : ScB W0 p s A n c L m cm := by rw [eW0, ep, eX]; exact heap_alloc_new _ _
  obtain ⟨x0, x1, x2, x3, x4, x5, x6, x7, x8⟩ := hp0.nine
  have EW0 := Lib.hid eW0
  have EP := Lib.hid ep
  have HB0 := Lib.hid hb0
  clear eX eW0 ep hb0 hp0 x0 x1 x3 x4 x5 x6
  unfold greatB
  obtain ⟨b1, e1⟩ : ∃ b, decide (3000 < (n : Int)) = b := ⟨_, rfl⟩
  obtain ⟨b2, e2⟩ : ∃ b, decide (1000 < (s.title.size : Int)) = b := ⟨_, rfl⟩
  obtain ⟨b3, e3⟩ : ∃ b, decide (1000 < (m : Int)) = b := ⟨_, rfl⟩
  rw [e1, e2, e3]
  cases b1 <;> cases b2 <;> cases b3 <;>
  · go_enter Tryd.func28, Tryd.ntmps28
    go_upto_region 1 with (fail)
    rw [← EW0.out, ← EP.out]
    go_wp2_with (fail)
    go_ret
    exact ⟨rfl, HB0.out⟩
theorem projBlank21 (w : World) : Calls Tryd.prog 34 #[.int .i64 2, .int .i64 1] w fun e w' => ∃ b c', e = .returned (.tuple #[.agg (scC (blankS 2 1) (some ⟨b, 0, none⟩) 2 c' none 0 0), .int .i64 0]) ∧ OwnC w' w.heap.size (.slice (some ⟨b, 0, none⟩) 2 c') (List.replicate 2 blankD) ∧ Below w.heap.size w w' := by
  refine (projBlank_c 2 1 2 w (by kernel_rfl) rfl).mono ?_
  rintro e w' ⟨A', c', he, ho, hb⟩
  obtain ⟨A2, c2, e2, hnc, _, _, ha, hz⟩ := ho.form
  cases hA : A' with
  | none =>
    injection e2 with e2 _ e3
    rw [hA] at e2
    have := hz e2.symm
    simp only [List.length_replicate] at hnc
    omega
  | some a =>
    injection e2 with e2
    obtain ⟨_, _, h1, h2⟩ := ha a (by rw [← e2, hA])
    obtain ⟨bb, oo, ss⟩ := a
    cases h1; cases h2
    subst hA
    exact ⟨bb, c', he, ho, hb⟩
def fxD0 : CeD := ⟨19968, 1, 0, 0, 0, 0⟩
def fxD1 : CeD := ⟨0, 2, 0, 0, 0, 0⟩
def fxS : ScD := ⟨2, 1, [fxD0, fxD1], 0, 0, false, 0, ⟨#[]⟩, []⟩
def fxN : ScD := ⟨2, 1, [⟨63, 0, 0, 0, 0, 0⟩, ⟨32, 0, 0, 0, 0, 0⟩], 0, 0, false, 0, ⟨#[]⟩, []⟩
theorem fx_proj : projS false false false false false false fxS = fxN := by kernel_rfl
theorem fx_fts : Fts 0 false false false false := by
  have := fts 0 (by decide)
  simpa using this
theorem fx_16 : (bits BinOp.and .u32 0 16 == 0) = !false := by
  have := and_eq0 0 4 (by decide) (by decide)
  simpa using this
theorem fx_32 : (bits BinOp.and .u32 0 32 == 0) = !false := by
  have := and_eq0 0 5 (by decide) (by decide)
  simpa using this
theorem fx_mem {P : CeD → Prop} (h0 : P fxD0) (h1 : P fxD1) : ∀ d ∈ fxS.cells, P d := fun d hd => by
  rcases List.mem_cons.1 hd with rfl | hd
  · exact h0
  · rcases List.mem_cons.1 hd with rfl | hd
    · exact h1
    · cases hd
theorem fxScreen (B c b : Nat) (w : World) (ho : OwnC w B (.slice (some ⟨b, 0, none⟩) 2 c) [fxD0, fxD1]) (hU : TabU w) (hC : TabC w) :
    Calls Tryd.prog 30 #[.agg (scC (blankS 2 1) (some ⟨b, 0, none⟩) 2 c none 0 0), .int .u32 0] w fun e w' => ∃ b' c' L' d', e = .returned (.agg (scC fxN (some ⟨b', 0, none⟩) 2 c' L' 0 d')) ∧ OwnC w' w.heap.size (.slice (some ⟨b', 0, none⟩) 2 c') fxN.cells ∧ Below w.heap.size w w' := by
  obtain ⟨A2, c2, e2, hnc, _, hr, _⟩ := ho.form
  injection e2 with e2 _ e3
  have hs : ScR w fxS (some ⟨b, 0, none⟩) 2 c none 0 0 :=
    { hn := rfl, rd := by rw [e2]; exact hr, nc := by rw [e3]; exact hnc, nl := by decide, hm := rfl, rt := .inl rfl, mc := by decide, ml := by decide, us := fun u hu => (by cases hu), ok := fx_mem ⟨by decide, by decide⟩ ⟨by decide, by decide⟩, tl := by decide }
  have h := pjScreen_c fxS (some ⟨b, 0, none⟩) 2 c none 0 0 0 false false false false false false w hs fx_fts fx_16 fx_32 (fx_mem ⟨by decide, by decide⟩ ⟨by decide, by decide⟩) hU hC
  rw [fx_proj] at h
  refine h.mono ?_
  rintro e w' ⟨A', n', c', L', m', cm', rfl, ho', ht', _, hb⟩
  obtain ⟨A3, c3, e4, hnc3, _, _, ha, hz⟩ := ho'.form
  obtain ⟨L3, d3, e5, _⟩ := Own.form ht'
  injection e4 with e41 e42 e43
  injection e5 with e51 e52 e53
  have hn2 : n' = 2 := e42
  have hm0 : m' = 0 := e52
  subst hn2 hm0
  cases hA : A' with
  | none =>
    rw [hA] at e41
    have h1 := hz e41.symm
    have h2 : 2 ≤ c3 := hnc3
    omega
  | some a =>
    obtain ⟨_, _, h1, h2⟩ := ha a (by rw [← e41, hA])
    obtain ⟨bb, oo, ss⟩ := a
    cases h1; cases h2
    subst hA
    exact ⟨bb, c', L', cm', rfl, ho', hb⟩
set_option maxRecDepth 100000 in
set_option maxHeartbeats 16000000 in
theorem fixed15_c (w : World) (hU : TabU w) (hC : TabC w) : Calls Tryd.prog 29 #[] w fun e w' => e = .returned (.bool true) ∧ Below w.heap.size w w' := by
  have HU := Lib.hid hU
  have HC := Lib.hid hC
  clear hU hC
  go_enter Tryd.func29, Tryd.ntmps29
  go_upto_region 2 with (first
    | (go_at_call 34; (refine (projBlank21 w).mono ?_); rintro _ w1 ⟨b, c1, rfl, ho1, hb1⟩; have HO1 := Lib.hid ho1; have HB1 := Lib.hid hb1; clear ho1 hb1)
    | (refine wpList_store_rowTo rfl 25 (.tmp 1) (.tmp 6) rfl rfl w1.heap.size (scC (blankS 2 1) (some ⟨b, 0, none⟩) 2 c1 none 0 0) rfl rfl 25 _ (heap_alloc_new w1 _) (info_sc.trans rfl) rfl (sc_one _ _ _ _ _ _ _) ?_))
  generalize eX : World.alloc w1 _ = X
  have hx : Below w1.heap.size w1 X := by rw [← eX]; exact (Below.refl _ _).alloc (Nat.le_refl _) _
  obtain ⟨old, hq2⟩ : ∃ old, X.heap[w1.heap.size]? = some (.cells old 25 (0, 0)) := ⟨_, by rw [← eX]; exact heap_alloc_new _ _⟩
  obtain ⟨g, eg⟩ : ∃ g, g = w1.heap.size := ⟨_, rfl⟩
  obtain ⟨W2, eW2⟩ : ∃ W2, W2 = X.setRow w1.heap.size (scC (blankS 2 1) (some ⟨b, 0, none⟩) 2 c1 none 0 0) := ⟨_, rfl⟩
  rw [← eW2, ← eg]
  have hg2 : ScB W2 g (blankS 2 1) (some ⟨b, 0, none⟩) 2 c1 none 0 0 := by rw [eW2, eg]; exact setRow_heap _ _ _ _ _ _ hq2
  have hb2 : Below w1.heap.size w1 W2 := by rw [eW2]; exact below_setRow hx (Nat.le_refl _) _
  have HO2 := Lib.hid (OwnC.below HO1.out hb2)
  have HB2 := Lib.hid (HB1.out.trans (hb2.mono HB1.out.size))
  have HG2 := Lib.hid hg2
  have x2 : W2.cell? ⟨g, 2, none⟩ = some (.slice (some ⟨b, 0, none⟩) 2 c1) := hg2.nine.2.2.1
  have HBG : Hid (b < g ∧ w.heap.size ≤ b) := Lib.hid ⟨by rw [eg]; exact (OwnC.lt HO1.out b rfl).2, (OwnC.lt HO1.out b rfl).1⟩
  clear eX hx hq2 eg eW2 hg2 hb2 HO1 HB1
  obtain ⟨y0, y1, y2, y3, y4, y5⟩ := HO2.out.six 0 (by simp)
  have f0 := HO2.out.free 0
  have f1 := HO2.out.free 1
  have f2 := HO2.out.free 2
  have f3 := HO2.out.free 3
  have f4 := HO2.out.free 4
  have f5 := HO2.out.free 5
  simp only [Nat.zero_mul, Nat.one_mul, Nat.zero_add, Nat.reduceAdd] at y0 y1 y2 y3 y4 y5
  go_upto_region 5 with (fail)
  obtain ⟨W4, eW4⟩ : ∃ W, W = ((((((W2.setCell ⟨b, 0 * 6, none⟩ (.int .i32 fxD0.r)).setCell ⟨b, 0 * 6 + 1, none⟩ (.int .u8 fxD0.w)).setCell ⟨b, 0 * 6 + 2, none⟩ (.int .u32 fxD0.fg)).setCell ⟨b, 0 * 6 + 3, none⟩ (.int .u32 fxD0.bg)).setCell ⟨b, 0 * 6 + 4, none⟩ (.int .u8 fxD0.at_)).setCell ⟨b, 0 * 6 + 5, none⟩ (.int .u16 fxD0.ln)) := ⟨_, rfl⟩
  have eV4 : ((((((W2.setCell ⟨b, 0, none⟩ (.int .i32 19968)).setCell ⟨b, 1, none⟩ (.int .u8 1)).setCell ⟨b, 2, none⟩ (.int .u32 0)).setCell ⟨b, 3, none⟩ (.int .u32 0)).setCell ⟨b, 4, none⟩ (.int .u8 0)).setCell ⟨b, 5, none⟩ (.int .u16 0)) = W4 := by rw [eW4]; rfl
  rw [eV4]
  have hgb4 : g ≠ b := by have := HBG.out.1; omega
  have HO4 : Hid (OwnC W4 w.heap.size (.slice (some ⟨b, 0, none⟩) 2 c1) [fxD0, blankD]) := Lib.hid (by rw [eW4]; exact HO2.out.setAll 0 (by simp) fxD0)
  have HG4 : Hid (ScB W4 g (blankS 2 1) (some ⟨b, 0, none⟩) 2 c1 none 0 0) := Lib.hid (by rw [eW4]; exact (six_far _ _ _ _ _ _ _ _ _ _ _ _ _ _ _ hgb4).trans HG2.out)
  have HB4 : Hid (Below w.heap.size w W4) := Lib.hid (by rw [eW4]; exact six_below HB2.out _ _ _ _ _ _ _ _ _ _ _ _ _ HBG.out.2)
  have x4 : W4.cell? ⟨g, 2, none⟩ = some (.slice (some ⟨b, 0, none⟩) 2 c1) := HG4.out.nine.2.2.1
  clear eW4 eV4 hgb4 y0 y1 y2 y3 y4 y5 f0 f1 f2 f3 f4 f5 x2
  obtain ⟨y0, y1, y2, y3, y4, y5⟩ := HO4.out.six 1 (by simp)
  have f0 := HO4.out.free 6
  have f1 := HO4.out.free 7
  have f2 := HO4.out.free 8
  have f3 := HO4.out.free 9
  have f4 := HO4.out.free 10
  have f5 := HO4.out.free 11
  simp only [Nat.zero_mul, Nat.one_mul, Nat.zero_add, Nat.reduceAdd] at y0 y1 y2 y3 y4 y5
  go_upto_region 6 with (fail)
  obtain ⟨W5, eW5⟩ : ∃ W, W = ((((((W4.setCell ⟨b, 1 * 6, none⟩ (.int .i32 fxD1.r)).setCell ⟨b, 1 * 6 + 1, none⟩ (.int .u8 fxD1.w)).setCell ⟨b, 1 * 6 + 2, none⟩ (.int .u32 fxD1.fg)).setCell ⟨b, 1 * 6 + 3, none⟩ (.int .u32 fxD1.bg)).setCell ⟨b, 1 * 6 + 4, none⟩ (.int .u8 fxD1.at_)).setCell ⟨b, 1 * 6 + 5, none⟩ (.int .u16 fxD1.ln)) := ⟨_, rfl⟩
  have eV5 : ((((((W4.setCell ⟨b, 6, none⟩ (.int .i32 0)).setCell ⟨b, 7, none⟩ (.int .u8 2)).setCell ⟨b, 8, none⟩ (.int .u32 0)).setCell ⟨b, 9, none⟩ (.int .u32 0)).setCell ⟨b, 10, none⟩ (.int .u8 0)).setCell ⟨b, 11, none⟩ (.int .u16 0)) = W5 := by rw [eW5]; rfl
  rw [eV5]
  have hgb5 : g ≠ b := by have := HBG.out.1; omega
  have HO5 : Hid (OwnC W5 w.heap.size (.slice (some ⟨b, 0, none⟩) 2 c1) [fxD0, fxD1]) := Lib.hid (by rw [eW5]; exact HO4.out.setAll 1 (by simp) fxD1)
  have HG5 : Hid (ScB W5 g (blankS 2 1) (some ⟨b, 0, none⟩) 2 c1 none 0 0) := Lib.hid (by rw [eW5]; exact (six_far _ _ _ _ _ _ _ _ _ _ _ _ _ _ _ hgb5).trans HG4.out)
  have HB5 : Hid (Below w.heap.size w W5) := Lib.hid (by rw [eW5]; exact six_below HB4.out _ _ _ _ _ _ _ _ _ _ _ _ _ HBG.out.2)
  have x5 : W5.cell? ⟨g, 2, none⟩ = some (.slice (some ⟨b, 0, none⟩) 2 c1) := HG5.out.nine.2.2.1
  clear eW5 eV5 hgb5 y0 y1 y2 y3 y4 y5 f0 f1 f2 f3 f4 f5 x4
  clear x5
  go_upto_region 7 with (first
    | (refine wpList_load_row rfl 25 (.tmp 1) rfl g rfl 25 _ (0, 0) _ HG5.out Tryd.underlying25 rfl (info_sc.trans rfl) ?_)
    | (go_at_call 30; (refine (fxScreen _ c1 b W5 HO5.out (HU.out.next HB5.out) (HC.out.next HB5.out)).mono ?_); rintro _ w6 ⟨d, c6, L6, d6, rfl, ho6, hb6⟩; have HO6 := Lib.hid ho6; have HB6 := Lib.hid (HB5.out.trans (hb6.mono HB5.out.size)); clear ho6 hb6)
    | (refine wpList_store_rowTo rfl 25 (.tmp 3) (.tmp 25) rfl rfl w6.heap.size (scC fxN (some ⟨d, 0, none⟩) 2 c6 L6 0 d6) rfl rfl 25 _ (heap_alloc_new w6 _) (info_sc.trans rfl) rfl (sc_one _ _ _ _ _ _ _) ?_))
  generalize eX : World.alloc w6 _ = X
  have hx : Below w6.heap.size w6 X := by rw [← eX]; exact (Below.refl _ _).alloc (Nat.le_refl _) _
  obtain ⟨old, hq2⟩ : ∃ old, X.heap[w6.heap.size]? = some (.cells old 25 (0, 0)) := ⟨_, by rw [← eX]; exact heap_alloc_new _ _⟩
  obtain ⟨g7, eg⟩ : ∃ g, g = w6.heap.size := ⟨_, rfl⟩
  obtain ⟨W7, eW7⟩ : ∃ W, W = X.setRow w6.heap.size (scC fxN (some ⟨d, 0, none⟩) 2 c6 L6 0 d6) := ⟨_, rfl⟩
  rw [← eW7, ← eg]
  have hg7 : ScB W7 g7 fxN (some ⟨d, 0, none⟩) 2 c6 L6 0 d6 := by rw [eW7, eg]; exact setRow_heap _ _ _ _ _ _ hq2
  have hb7 : Below w6.heap.size w6 W7 := by rw [eW7]; exact below_setRow hx (Nat.le_refl _) _
  have HB7 := Lib.hid (HB6.out.trans (hb7.mono HB6.out.size))
  have x2 : W7.cell? ⟨g7, 2, none⟩ = some (.slice (some ⟨d, 0, none⟩) 2 c6) := hg7.nine.2.2.1
  have ho7 := OwnC.below HO6.out hb7
  obtain ⟨y0, -, -, -, -, -⟩ := ho7.six 0 (by decide)
  obtain ⟨y6, y7, -, -, -, -⟩ := ho7.six 1 (by decide)
  simp only [Nat.zero_mul, Nat.one_mul, Nat.zero_add, Nat.reduceAdd] at y0 y6 y7
  replace y0 : W7.cell? ⟨d, 0, none⟩ = some (.int .i32 63) := y0
  replace y6 : W7.cell? ⟨d, 6, none⟩ = some (.int .i32 32) := y6
  replace y7 : W7.cell? ⟨d, 7, none⟩ = some (.int .u8 0) := y7
  clear eX hx hq2 eg eW7 hg7 hb7 ho7 HO6
  go_wp2_with (fail)
  go_ret
  exact ⟨rfl, HB7.out⟩
end Go.Proofs.YtipofokinjkclaaDoor

/- What law 16's great and fixed answer. Conditions: the tables lie where they were laid. -/
namespace Go.Proofs.YtipofokinjkclaaDoor
open Go Go.RowKit Go.Lib

set_option maxRecDepth 100000 in
set_option maxHeartbeats 8000000 in
theorem great16_c (s : ScD) (A : Option Addr) (n c : Nat) (L : Option Addr) (m cm : Nat) (w : World) :
    Calls Tryd.prog 17 #[.agg (scC s A n c L m cm)] w fun e w' => e = .returned (.bool (greatB n s.title.size m)) ∧ Below w.heap.size w w' := by
  obtain ⟨X, eX⟩ : ∃ X, X = scC s A n c L m cm := ⟨_, rfl⟩
  rw [← eX]
  obtain ⟨W0, eW0⟩ : ∃ W0, W0 = w.alloc (.cells X 25) := ⟨_, rfl⟩
  obtain ⟨p, ep⟩ : ∃ p, p = w.heap.size := ⟨_, rfl⟩
  have hb0 : Below w.heap.size w W0 := by rw [eW0]; exact (Below.refl _ _).alloc (Nat.le_refl _) _
  have hp0 : ScB W0 p s A n c L m cm := by rw [eW0, ep, eX]; exact heap_alloc_new _ _
  obtain ⟨x0, x1, x2, x3, x4, x5, x6, x7, x8⟩ := hp0.nine
  have EW0 := Lib.hid eW0
  have EP := Lib.hid ep
  have HB0 := Lib.hid hb0
  clear eX eW0 ep hb0 hp0 x0 x1 x3 x4 x5 x6
  unfold greatB
  obtain ⟨b1, e1⟩ : ∃ b, decide (3000 < (n : Int)) = b := ⟨_, rfl⟩
  obtain ⟨b2, e2⟩ : ∃ b, decide (1000 < (s.title.size : Int)) = b := ⟨_, rfl⟩
  obtain ⟨b3, e3⟩ : ∃ b, decide (1000 < (m : Int)) = b := ⟨_, rfl⟩
  rw [e1, e2, e3]
  cases b1 <;> cases b2 <;> cases b3 <;>
  · go_enter Tryd.func17, Tryd.ntmps17
    go_upto_region 1 with (fail)
    rw [← EW0.out, ← EP.out]
    go_wp2_with (fail)
    go_ret
    exact ⟨rfl, HB0.out⟩
theorem rd_lit (w : World) (bs : List UInt8) (vs : Array Value) (hv : vs = (bs.map bv).toArray) (hm : bs.length ≤ 1000) : Rd (w.alloc (.cells vs 5)) (some ⟨w.heap.size, 0, none⟩) (bs.map bv) := by
  obtain ⟨A, c, e, _, _, h, _⟩ := OwnB.form (OwnB_lit w bs vs hv bs.length rfl hm)
  injection e with e1 e2 e3
  subst e1
  exact h
theorem own_at {w : World} {B n c : Nat} {A : Option Addr} {ds : List CeD} (h : OwnC w B (.slice A n c) ds) (h0 : 0 < ds.length) : ∃ b, A = some ⟨b, 0, none⟩ := by
  obtain ⟨h1, _, h2, h3, h4⟩ := h.parts
  cases hA : A with
  | none =>
    have := h4 hA
    omega
  | some a =>
    obtain ⟨_, _, g1, g2⟩ := h3 a hA
    obtain ⟨bb, oo, ss⟩ := a
    cases g1; cases g2
    exact ⟨bb, rfl⟩
theorem refBlank21 (w : World) : Calls Tryd.prog 35 #[.int .i64 2, .int .i64 1] w fun e w' => ∃ b c', e = .returned (.tuple #[.agg (scC (blankS 2 1) (some ⟨b, 0, none⟩) 2 c' none 0 0), .int .i64 0]) ∧ OwnC w' w.heap.size (.slice (some ⟨b, 0, none⟩) 2 c') [blankD, blankD] ∧ Below w.heap.size w w' := by
  refine (refBlank15_c 2 1 2 w (by kernel_rfl) rfl).mono ?_
  rintro e w' ⟨A', c', he, ho, hb⟩
  obtain ⟨b, rfl⟩ := own_at ho (by simp)
  exact ⟨b, c', he, ho, hb⟩
theorem fx16_ok : (∀ d ∈ (blankS 2 1).cells, CeOk d) ∧ (∀ d ∈ fxS16.cells, CeOk d) := by
  have h1 : CeOk blankD := by unfold CeOk blankD; decide
  have h2 : CeOk ⟨97, 0, 0, 0, 0, 0⟩ := by unfold CeOk; decide
  constructor
  · intro d hd
    rw [List.eq_of_mem_replicate hd]; exact h1
  · intro d hd
    rcases List.mem_cons.1 hd with rfl | hd
    · exact h2
    · rw [List.mem_singleton] at hd; subst hd; exact h1
theorem fx16_sound : Sound fxS16 := ⟨by decide, Nat.zero_le _, fun u hu => (by cases hu), fun d hd => by have := (fx16_ok.2 d hd).2.2.2.2.2; exact ⟨this.1, by omega⟩, Nat.zero_le _, fun d hd => ⟨(fx16_ok.2 d hd).2.2.1.1, (fx16_ok.2 d hd).2.2.2.1.1⟩⟩
set_option maxRecDepth 100000 in
set_option maxHeartbeats 16000000 in
theorem fixed16_c (w : World) (hU : TabU w) : Calls Tryd.prog 18 #[] w fun e w' => e = .returned (.bool true) ∧ Below w.heap.size w w' := by
  have HU := Lib.hid hU
  clear hU
  go_enter Tryd.func18, Tryd.ntmps18
  go_upto_region 2 with (first
    | (go_at_call 35; (refine (refBlank21 w).mono ?_); rintro _ w1 ⟨b, c1, rfl, ho1, hb1⟩; have HO1 := Lib.hid ho1; have HB1 := Lib.hid hb1; clear ho1 hb1)
    | (refine wpList_store_rowTo rfl 25 (.tmp 1) (.tmp 9) rfl rfl w1.heap.size (scC (blankS 2 1) (some ⟨b, 0, none⟩) 2 c1 none 0 0) rfl rfl 25 _ (heap_alloc_new w1 _) (info_sc.trans rfl) rfl (sc_one _ _ _ _ _ _ _) ?_))
  generalize eX : World.alloc w1 _ = X
  have hx : Below w1.heap.size w1 X := by rw [← eX]; exact (Below.refl _ _).alloc (Nat.le_refl _) _
  obtain ⟨old, hq2⟩ : ∃ old, X.heap[w1.heap.size]? = some (.cells old 25 (0, 0)) := ⟨_, by rw [← eX]; exact heap_alloc_new _ _⟩
  obtain ⟨g, eg⟩ : ∃ g, g = w1.heap.size := ⟨_, rfl⟩
  obtain ⟨W2, eW⟩ : ∃ W2, W2 = X.setRow w1.heap.size (scC (blankS 2 1) (some ⟨b, 0, none⟩) 2 c1 none 0 0) := ⟨_, rfl⟩
  rw [← eW, ← eg]
  have hg : ScB W2 g (blankS 2 1) (some ⟨b, 0, none⟩) 2 c1 none 0 0 := by rw [eW, eg]; exact setRow_heap _ _ _ _ _ _ hq2
  have hb : Below w1.heap.size w1 W2 := by rw [eW]; exact below_setRow hx (Nat.le_refl _) _
  have HGW2 := Lib.hid hg
  have HKW2 := Lib.hid hb
  have HLW2 : Hid (g = w1.heap.size) := Lib.hid eg
  clear eX hx hq2 eg eW hg hb
  have HO2 := Lib.hid (OwnC.below HO1.out HKW2.out)
  have HB2 := Lib.hid (HB1.out.trans (HKW2.out.mono HB1.out.size))
  go_upto_region 3 with (first
    | (go_at_call 35; (refine (refBlank21 W2).mono ?_); rintro _ w3 ⟨d, c3, rfl, ho3, hb3⟩; have HO3 := Lib.hid ho3; have HQ3 := Lib.hid hb3; clear ho3 hb3)
    | (refine wpList_store_rowTo rfl 25 (.tmp 3) (.tmp 13) rfl rfl w3.heap.size (scC (blankS 2 1) (some ⟨d, 0, none⟩) 2 c3 none 0 0) rfl rfl 25 _ (heap_alloc_new w3 _) (info_sc.trans rfl) rfl (sc_one _ _ _ _ _ _ _) ?_))
  generalize eX : World.alloc w3 _ = X
  have hx : Below w3.heap.size w3 X := by rw [← eX]; exact (Below.refl _ _).alloc (Nat.le_refl _) _
  obtain ⟨old, hq2⟩ : ∃ old, X.heap[w3.heap.size]? = some (.cells old 25 (0, 0)) := ⟨_, by rw [← eX]; exact heap_alloc_new _ _⟩
  obtain ⟨q, eg⟩ : ∃ g, g = w3.heap.size := ⟨_, rfl⟩
  obtain ⟨W4, eW⟩ : ∃ W2, W2 = X.setRow w3.heap.size (scC (blankS 2 1) (some ⟨d, 0, none⟩) 2 c3 none 0 0) := ⟨_, rfl⟩
  rw [← eW, ← eg]
  have hg : ScB W4 q (blankS 2 1) (some ⟨d, 0, none⟩) 2 c3 none 0 0 := by rw [eW, eg]; exact setRow_heap _ _ _ _ _ _ hq2
  have hb : Below w3.heap.size w3 W4 := by rw [eW]; exact below_setRow hx (Nat.le_refl _) _
  have HGW4 := Lib.hid hg
  have HKW4 := Lib.hid hb
  have HLW4 : Hid (q = w3.heap.size) := Lib.hid eg
  clear eX hx hq2 eg eW hg hb
  have HO4 := Lib.hid (OwnC.below HO3.out HKW4.out)
  have HK4 := Lib.hid (HQ3.out.trans (HKW4.out.mono HQ3.out.size))
  have HB4 := Lib.hid (HB2.out.trans (HK4.out.mono HB2.out.size))
  have HG4 := Lib.hid (HGW2.out.below HK4.out)
  have HOB4 := Lib.hid (OwnC.below HO2.out HK4.out)
  have HD : Hid (g < d ∧ d < q ∧ b < d ∧ w.heap.size ≤ d) := Lib.hid ⟨by have h1 := heap_lt HGW2.out; have h2 := (OwnC.lt HO3.out d rfl).1; omega, by rw [HLW4.out]; exact (OwnC.lt HO3.out d rfl).2, by have h1 := (OwnC.lt HO2.out b rfl).2; have h2 := (OwnC.lt HO3.out d rfl).1; omega, by have h1 := HB2.out.size; have h2 := (OwnC.lt HO3.out d rfl).1; omega⟩
  have x2 : W4.cell? ⟨q, 2, none⟩ = some (.slice (some ⟨d, 0, none⟩) 2 c3) := HGW4.out.nine.2.2.1
  obtain ⟨y0, -, -, -, -, -⟩ := HO4.out.six 0 (by decide)
  have f0 := HO4.out.free 0
  simp only [Nat.zero_mul, Nat.zero_add] at y0
  go_upto_region 4 with (fail)
  obtain ⟨W5, eW5⟩ : ∃ W, W = W4.setCell ⟨d, 0, none⟩ (.int .i32 97) := ⟨_, rfl⟩
  rw [← eW5]
  have HO5 : Hid (OwnC W5 W2.heap.size (.slice (some ⟨d, 0, none⟩) 2 c3) fxCs16) := Lib.hid (by rw [eW5]; have h := HO4.out.rune 0 (by decide) 97; exact h)
  have HG5 : Hid (ScB W5 g (blankS 2 1) (some ⟨b, 0, none⟩) 2 c1 none 0 0) := Lib.hid (by rw [eW5]; exact (heap_far _ (by have := HD.out; show g ≠ d; omega)).trans HG4.out)
  have HQ5 : Hid (ScB W5 q fxS16 (some ⟨d, 0, none⟩) 2 c3 none 0 0) := Lib.hid (by rw [eW5]; exact (heap_far _ (by have := HD.out; show q ≠ d; omega)).trans HGW4.out)
  have HOB5 : Hid (OwnC W5 w.heap.size (.slice (some ⟨b, 0, none⟩) 2 c1) [blankD, blankD]) := Lib.hid (OwnC.keep HOB4.out (fun j ej => by injection ej with ej; subst ej; rw [eW5]; exact heap_far _ (by have := HD.out; show b ≠ d; omega)))
  have HB5 : Hid (Below w.heap.size w W5) := Lib.hid (by rw [eW5]; exact HB4.out.setCell (by have := HD.out; show w.heap.size ≤ d; omega) _)
  have HR5 : Hid (ScR W5 (blankS 2 1) (some ⟨b, 0, none⟩) 2 c1 none 0 0) := Lib.hid ((blank_sound16 (C := 2) (R := 1) (by kernel_rfl)).read HOB5.out (World.ownsRow_nil _ 0 _ _))
  have HS5 : Hid (ScR W5 fxS16 (some ⟨d, 0, none⟩) 2 c3 none 0 0) := Lib.hid (fx16_sound.read HO5.out (World.ownsRow_nil _ 0 _ _))
  have HU5 := Lib.hid (HU.out.next HB5.out)
  clear eW5 x2 y0 f0
  go_upto_region 5 with (first
    | (refine wpList_load_row rfl 25 (.tmp 1) rfl g rfl 25 _ (0, 0) _ HG5.out Tryd.underlying25 rfl (info_sc.trans rfl) ?_)
    | (refine wpList_load_row rfl 25 (.tmp 3) rfl q rfl 25 _ (0, 0) _ HQ5.out Tryd.underlying25 rfl (info_sc.trans rfl) ?_)
    | (go_at_call 20; (refine (enc16_c (blankS 2 1) fxS16 (some ⟨b, 0, none⟩) 2 c1 none 0 0 (some ⟨d, 0, none⟩) 2 c3 none 0 0 W5 HR5.out HS5.out fx16_ok.2 HU5.out).mono ?_); rintro _ w6 ⟨v6, rfl, ho6, hb6⟩; rw [fx16_enc] at ho6 ⊢; obtain ⟨A6, k6, rfl, _, _, hr6, _⟩ := OwnB.form ho6; have HR6 := Lib.hid hr6; have HB6 := Lib.hid (HB5.out.trans (hb6.mono HB5.out.size)); clear ho6 hb6 hr6))
  go_wp2_with (first
    | (go_at_call 24; (refine (Same_t A6 (some ⟨w6.heap.size, 0, none⟩) 25 25 k6 25 [2, 1, 0, 0, 0, 1, 0, 0, 0, 0, 97, 0, 0, 0, 0, 0, 0, 0, 0, 32, 0, 0, 0, 0, 0] _ rfl rfl (HR6.out.below ((Below.refl _ _).alloc (Nat.le_refl _) _)) (rd_lit _ _ _ (by kernel_rfl) (by decide)) (by decide)).mono ?_); rintro _ w7 ⟨rfl, q7, rfl⟩))
  go_ret
  exact ⟨rfl, below_drewN (HB6.out.alloc HB6.out.size _) _⟩
end Go.Proofs.YtipofokinjkclaaDoor

/- The walk of RowsStill: from a screen to itself with another cursor no row is told. Conditions: the tables lie where they were laid. -/
namespace Go.Proofs.YtipofokinjkclaaDoor
open Go Go.RowKit Go.Lib

theorem ScB.xyh {w : World} {g : Nat} {s : ScD} {A : Option Addr} {n c : Nat} {L : Option Addr} {m cm : Nat} (h : ScB w g s A n c L m cm) (x y : Int) (b : Bool) :
    ScB (((w.setCell ⟨g, 3, none⟩ (.int .i64 x)).setCell ⟨g, 4, none⟩ (.int .i64 y)).setCell ⟨g, 5, none⟩ (.bool b)) g ⟨s.cols, s.rows, s.cells, x, y, b, s.mouse, s.title, s.links⟩ A n c L m cm := by
  have h1 := heap_set (i := 3) (u := .int .i64 x) h
  have h2 := heap_set (i := 4) (u := .int .i64 y) h1
  have h3 := heap_set (i := 5) (u := .bool b) h2
  exact h3
set_option maxRecDepth 100000 in
set_option maxHeartbeats 16000000 in
theorem RowsStill_walk (w : World) (s : ScD) (A : Option Addr) (n c : Nat) (L : Option Addr) (m cm : Nat) (hs : ScO w s A n c L m cm) (x : Int) (wx : (Lit.int .i64 x).wf = true) (y : Int) (wy : (Lit.int .i64 y).wf = true) (hh : Bool) (hU : TabU w) :
    Calls Tryd.prog 4 #[.agg (scC s A n c L m cm), .int .i64 x, .int .i64 y, .bool hh] w fun r w' => r = .returned (.bool true) ∧ Below w.heap.size w w' := by
  clear wx wy
  obtain ⟨X, eX⟩ : ∃ X, X = scC s A n c L m cm := ⟨_, rfl⟩
  rw [← eX]
  obtain ⟨W0, eW0⟩ : ∃ W0, W0 = w.alloc (.cells X 25) := ⟨_, rfl⟩
  obtain ⟨p, ep⟩ : ∃ p, p = w.heap.size := ⟨_, rfl⟩
  have hb0 : Below w.heap.size w W0 := by rw [eW0]; exact (Below.refl _ _).alloc (Nat.le_refl _) _
  have HP0 : Hid (ScB W0 p s A n c L m cm) := Lib.hid (by rw [eW0, ep, eX]; exact heap_alloc_new _ _)
  have EW0 := Lib.hid eW0
  have EP := Lib.hid ep
  have HB0 := Lib.hid hb0
  have HS := Lib.hid hs
  have HU := Lib.hid hU
  clear eX eW0 ep hb0 hs hU
  obtain ⟨GB, eGB⟩ : ∃ b, greatB n s.title.size m = b := ⟨_, rfl⟩
  have HGB := Lib.hid eGB
  obtain ⟨FT, eFT⟩ : ∃ b, fit16 s = b := ⟨_, rfl⟩
  have HFT := Lib.hid eFT
  obtain ⟨b1, d1⟩ : ∃ b, decide (x < 0) = b := ⟨_, rfl⟩
  obtain ⟨b2, d2⟩ : ∃ b, decide (s.cols ≤ x) = b := ⟨_, rfl⟩
  obtain ⟨b3, d3⟩ : ∃ b, decide (y < 0) = b := ⟨_, rfl⟩
  obtain ⟨b4, d4⟩ : ∃ b, decide (s.rows ≤ y) = b := ⟨_, rfl⟩
  have HD : Hid (decide (x < 0) = b1 ∧ decide (s.cols ≤ x) = b2 ∧ decide (y < 0) = b3 ∧ decide (s.rows ≤ y) = b4) := Lib.hid ⟨d1, d2, d3, d4⟩
  clear eGB eFT
  go_enter Tryd.func4, Tryd.ntmps4
  go_upto_region 1 with (fail)
  rw [← EW0.out, ← EP.out]
  obtain ⟨T, eT⟩ : ∃ b, (GB || (!FT || (b1 || (b2 || (b3 || b4))))) = b := ⟨_, rfl⟩
  have HT := Lib.hid eT
  clear eT
  go_cut [38] (fun s38 wx => s38 = .bool T ∧ Hid (Below W0.heap.size W0 wx))
  case first =>
    cases GB
    · have HSM := Lib.hid (greatB_no HGB.out)
      have HRS : Hid (ScR w s A n c L m cm) := Lib.hid (HS.out.small (by have := HSM.out; omega) (by have := HSM.out; omega) (by have := HSM.out; omega))
      have HMO : Hid (0 ≤ s.mouse) := Lib.hid HS.out.b6.1
      cases FT
      · go_wp2_with (first
          | (refine wpList_load_row rfl 25 (.tmp 4) rfl p rfl 25 _ (0, 0) _ HP0.out Tryd.underlying25 rfl (info_sc.trans rfl) ?_)
          | ((with_reducible refine wpList_openG (o := ⟨some 15, _, _, _, _, _⟩) rfl ?_); (refine wpList_load_row rfl 25 (.tmp 4) rfl p rfl 25 _ (0, 0) _ HP1.out Tryd.underlying25 rfl (info_sc.trans rfl) ?_))
          | (go_at_call 17; (refine (great16_c s A n c L m cm W0).mono ?_); rintro _ w1 ⟨rfl, hb1⟩; rw [HGB.out]; have HB1 := Lib.hid hb1; have HP1 := Lib.hid (HP0.out.below hb1); clear hb1)
          | (go_at_call 26; (refine (refFits16_c s A n c L m cm w1 (HRS.out.below (HB0.out.trans (HB1.out.mono HB0.out.size))) HMO.out (HU.out.next (HB0.out.trans (HB1.out.mono HB0.out.size)))).mono ?_); rintro _ w2 ⟨rfl, hb2⟩; rw [HFT.out]; have HB2 := Lib.hid (HB1.out.trans (hb2.mono HB1.out.size)); have k0 := (HP0.out.below HB2.out).nine.1; have k1 := (HP0.out.below HB2.out).nine.2.1; clear hb2))
        go_meet
        exact ⟨by rw [← HT.out] <;> rfl, HB2⟩
      · cases b1
        · cases b2
          · cases b3
            · cases b4
              · go_wp2_with (first
                  | (refine wpList_load_row rfl 25 (.tmp 4) rfl p rfl 25 _ (0, 0) _ HP0.out Tryd.underlying25 rfl (info_sc.trans rfl) ?_)
                  | ((with_reducible refine wpList_openG (o := ⟨some 15, _, _, _, _, _⟩) rfl ?_); (refine wpList_load_row rfl 25 (.tmp 4) rfl p rfl 25 _ (0, 0) _ HP1.out Tryd.underlying25 rfl (info_sc.trans rfl) ?_))
                  | (go_at_call 17; (refine (great16_c s A n c L m cm W0).mono ?_); rintro _ w1 ⟨rfl, hb1⟩; rw [HGB.out]; have HB1 := Lib.hid hb1; have HP1 := Lib.hid (HP0.out.below hb1); clear hb1)
                  | (go_at_call 26; (refine (refFits16_c s A n c L m cm w1 (HRS.out.below (HB0.out.trans (HB1.out.mono HB0.out.size))) HMO.out (HU.out.next (HB0.out.trans (HB1.out.mono HB0.out.size)))).mono ?_); rintro _ w2 ⟨rfl, hb2⟩; rw [HFT.out]; have HB2 := Lib.hid (HB1.out.trans (hb2.mono HB1.out.size)); have k0 := (HP0.out.below HB2.out).nine.1; have k1 := (HP0.out.below HB2.out).nine.2.1; clear hb2))
                go_meet
                exact ⟨by rw [← HT.out] <;> rfl, HB2⟩
              · go_wp2_with (first
                  | (refine wpList_load_row rfl 25 (.tmp 4) rfl p rfl 25 _ (0, 0) _ HP0.out Tryd.underlying25 rfl (info_sc.trans rfl) ?_)
                  | ((with_reducible refine wpList_openG (o := ⟨some 15, _, _, _, _, _⟩) rfl ?_); (refine wpList_load_row rfl 25 (.tmp 4) rfl p rfl 25 _ (0, 0) _ HP1.out Tryd.underlying25 rfl (info_sc.trans rfl) ?_))
                  | (go_at_call 17; (refine (great16_c s A n c L m cm W0).mono ?_); rintro _ w1 ⟨rfl, hb1⟩; rw [HGB.out]; have HB1 := Lib.hid hb1; have HP1 := Lib.hid (HP0.out.below hb1); clear hb1)
                  | (go_at_call 26; (refine (refFits16_c s A n c L m cm w1 (HRS.out.below (HB0.out.trans (HB1.out.mono HB0.out.size))) HMO.out (HU.out.next (HB0.out.trans (HB1.out.mono HB0.out.size)))).mono ?_); rintro _ w2 ⟨rfl, hb2⟩; rw [HFT.out]; have HB2 := Lib.hid (HB1.out.trans (hb2.mono HB1.out.size)); have k0 := (HP0.out.below HB2.out).nine.1; have k1 := (HP0.out.below HB2.out).nine.2.1; clear hb2))
                go_meet
                exact ⟨by rw [← HT.out] <;> rfl, HB2⟩
            · go_wp2_with (first
                | (refine wpList_load_row rfl 25 (.tmp 4) rfl p rfl 25 _ (0, 0) _ HP0.out Tryd.underlying25 rfl (info_sc.trans rfl) ?_)
                | ((with_reducible refine wpList_openG (o := ⟨some 15, _, _, _, _, _⟩) rfl ?_); (refine wpList_load_row rfl 25 (.tmp 4) rfl p rfl 25 _ (0, 0) _ HP1.out Tryd.underlying25 rfl (info_sc.trans rfl) ?_))
                | (go_at_call 17; (refine (great16_c s A n c L m cm W0).mono ?_); rintro _ w1 ⟨rfl, hb1⟩; rw [HGB.out]; have HB1 := Lib.hid hb1; have HP1 := Lib.hid (HP0.out.below hb1); clear hb1)
                | (go_at_call 26; (refine (refFits16_c s A n c L m cm w1 (HRS.out.below (HB0.out.trans (HB1.out.mono HB0.out.size))) HMO.out (HU.out.next (HB0.out.trans (HB1.out.mono HB0.out.size)))).mono ?_); rintro _ w2 ⟨rfl, hb2⟩; rw [HFT.out]; have HB2 := Lib.hid (HB1.out.trans (hb2.mono HB1.out.size)); have k0 := (HP0.out.below HB2.out).nine.1; have k1 := (HP0.out.below HB2.out).nine.2.1; clear hb2))
              go_meet
              exact ⟨by rw [← HT.out] <;> rfl, HB2⟩
          · go_wp2_with (first
              | (refine wpList_load_row rfl 25 (.tmp 4) rfl p rfl 25 _ (0, 0) _ HP0.out Tryd.underlying25 rfl (info_sc.trans rfl) ?_)
              | ((with_reducible refine wpList_openG (o := ⟨some 15, _, _, _, _, _⟩) rfl ?_); (refine wpList_load_row rfl 25 (.tmp 4) rfl p rfl 25 _ (0, 0) _ HP1.out Tryd.underlying25 rfl (info_sc.trans rfl) ?_))
              | (go_at_call 17; (refine (great16_c s A n c L m cm W0).mono ?_); rintro _ w1 ⟨rfl, hb1⟩; rw [HGB.out]; have HB1 := Lib.hid hb1; have HP1 := Lib.hid (HP0.out.below hb1); clear hb1)
              | (go_at_call 26; (refine (refFits16_c s A n c L m cm w1 (HRS.out.below (HB0.out.trans (HB1.out.mono HB0.out.size))) HMO.out (HU.out.next (HB0.out.trans (HB1.out.mono HB0.out.size)))).mono ?_); rintro _ w2 ⟨rfl, hb2⟩; rw [HFT.out]; have HB2 := Lib.hid (HB1.out.trans (hb2.mono HB1.out.size)); have k0 := (HP0.out.below HB2.out).nine.1; have k1 := (HP0.out.below HB2.out).nine.2.1; clear hb2))
            go_meet
            exact ⟨by rw [← HT.out] <;> rfl, HB2⟩
        · go_wp2_with (first
            | (refine wpList_load_row rfl 25 (.tmp 4) rfl p rfl 25 _ (0, 0) _ HP0.out Tryd.underlying25 rfl (info_sc.trans rfl) ?_)
            | ((with_reducible refine wpList_openG (o := ⟨some 15, _, _, _, _, _⟩) rfl ?_); (refine wpList_load_row rfl 25 (.tmp 4) rfl p rfl 25 _ (0, 0) _ HP1.out Tryd.underlying25 rfl (info_sc.trans rfl) ?_))
            | (go_at_call 17; (refine (great16_c s A n c L m cm W0).mono ?_); rintro _ w1 ⟨rfl, hb1⟩; rw [HGB.out]; have HB1 := Lib.hid hb1; have HP1 := Lib.hid (HP0.out.below hb1); clear hb1)
            | (go_at_call 26; (refine (refFits16_c s A n c L m cm w1 (HRS.out.below (HB0.out.trans (HB1.out.mono HB0.out.size))) HMO.out (HU.out.next (HB0.out.trans (HB1.out.mono HB0.out.size)))).mono ?_); rintro _ w2 ⟨rfl, hb2⟩; rw [HFT.out]; have HB2 := Lib.hid (HB1.out.trans (hb2.mono HB1.out.size)); have k0 := (HP0.out.below HB2.out).nine.1; have k1 := (HP0.out.below HB2.out).nine.2.1; clear hb2))
          go_meet
          exact ⟨by rw [← HT.out] <;> rfl, HB2⟩
    · go_wp2_with (first
        | (refine wpList_load_row rfl 25 (.tmp 4) rfl p rfl 25 _ (0, 0) _ HP0.out Tryd.underlying25 rfl (info_sc.trans rfl) ?_)
        | ((with_reducible refine wpList_openG (o := ⟨some 15, _, _, _, _, _⟩) rfl ?_); (refine wpList_load_row rfl 25 (.tmp 4) rfl p rfl 25 _ (0, 0) _ HP1.out Tryd.underlying25 rfl (info_sc.trans rfl) ?_))
        | (go_at_call 17; (refine (great16_c s A n c L m cm W0).mono ?_); rintro _ w1 ⟨rfl, hb1⟩; rw [HGB.out]; have HB1 := Lib.hid hb1; have HP1 := Lib.hid (HP0.out.below hb1); clear hb1)
        | (go_at_call 26; (refine (refFits16_c s A n c L m cm w1 (HRS.out.below (HB0.out.trans (HB1.out.mono HB0.out.size))) HMO.out (HU.out.next (HB0.out.trans (HB1.out.mono HB0.out.size)))).mono ?_); rintro _ w2 ⟨rfl, hb2⟩; rw [HFT.out]; have HB2 := Lib.hid (HB1.out.trans (hb2.mono HB1.out.size)); have k0 := (HP0.out.below HB2.out).nine.1; have k1 := (HP0.out.below HB2.out).nine.2.1; clear hb2))
      go_meet
      exact ⟨by rw [← HT.out] <;> rfl, HB1⟩
  case rest =>
  obtain ⟨rfl, hbc⟩ := hcut
  have HBC := Lib.hid (HB0.out.trans (hbc.out.mono HB0.out.size))
  have HPC := Lib.hid (HP0.out.below hbc.out)
  clear hbc d1 d2 d3 d4
  cases T
  · have hb := HT.out
    simp only [Bool.or_eq_false_iff, Bool.not_eq_false'] at hb
    obtain ⟨rfl, rfl, rfl, rfl, rfl, rfl⟩ := hb
    have HSM := Lib.hid (greatB_no HGB.out)
    have HSO : Hid (Sound s) := Lib.hid (HS.out.sound (by have := HSM.out; omega) (by have := HSM.out; omega) (by have := HSM.out; omega))
    have HRS : Hid (ScR w s A n c L m cm) := Lib.hid (HS.out.small (by have := HSM.out; omega) (by have := HSM.out; omega) (by have := HSM.out; omega))
    have HOK : Hid (∀ d ∈ s.cells, CeOk d) := Lib.hid HS.out.ce
    have HEN : Hid (∃ a1 a2 a3 a4 a5, enc16 s ⟨s.cols, s.rows, s.cells, x, y, hh, s.mouse, s.title, s.links⟩ = ([a1, a2, a3, a4, a5, 0], 0)) := Lib.hid (by
      have h := HD.out
      simp only [decide_eq_false_iff_not] at h
      exact still_enc HFT.out (by omega) (by omega) (by omega) (by omega))
    obtain ⟨a1, a2, a3, a4, a5, hen⟩ := HEN.out
    have HE := Lib.hid hen
    clear hen HEN
    go_upto_region 4 with (first
      | (refine wpList_load_row rfl 25 (.tmp 4) rfl p rfl 25 _ (0, 0) _ HPC.out Tryd.underlying25 rfl (info_sc.trans rfl) ?_)
      | (go_at_call 19; (refine (refCopyS_c s A n c L m cm wc (HRS.out.below HBC.out)).mono ?_); rintro _ w2 ⟨A2, c2, L2, d2, rfl, ho2, ht2, _, hb2⟩; have HB2 := Lib.hid (HBC.out.trans (hb2.mono HBC.out.size)); have HP2 := Lib.hid (HPC.out.below hb2); have HR2 : Hid (ScR w2 s A2 n c2 L2 m d2) := Lib.hid (HSO.out.read ho2 ht2); have HPL : Hid (p < w2.heap.size) := Lib.hid (by { have h1 := heap_lt HPC.out; have h2 := hb2.size; omega }); clear ho2 ht2 hb2)
      | (refine wpList_store_rowTo rfl 25 (.tmp 9) (.tmp 41) rfl rfl w2.heap.size (scC s A2 n c2 L2 m d2) rfl rfl 25 _ (heap_alloc_new w2 _) (info_sc.trans rfl) rfl (sc_one _ _ _ _ _ _ _) ?_))
    generalize eXX : World.alloc w2 _ = XX
    have hx : Below w2.heap.size w2 XX := by rw [← eXX]; exact (Below.refl _ _).alloc (Nat.le_refl _) _
    obtain ⟨old, hq2⟩ : ∃ old, XX.heap[w2.heap.size]? = some (.cells old 25 (0, 0)) := ⟨_, by rw [← eXX]; exact heap_alloc_new _ _⟩
    obtain ⟨g, eg⟩ : ∃ g, g = w2.heap.size := ⟨_, rfl⟩
    obtain ⟨W3, eWW⟩ : ∃ W, W = XX.setRow w2.heap.size (scC s A2 n c2 L2 m d2) := ⟨_, rfl⟩
    rw [← eWW, ← eg]
    have HG3 : Hid (ScB W3 g s A2 n c2 L2 m d2) := Lib.hid (by rw [eWW, eg]; exact setRow_heap _ _ _ _ _ _ hq2)
    have hbs : Below w2.heap.size w2 W3 := by rw [eWW]; exact below_setRow hx (Nat.le_refl _) _
    have EGg := Lib.hid eg
    clear eXX hx hq2 eg eWW
    have HKS := Lib.hid hbs
    have HB3 := Lib.hid (HB2.out.trans (hbs.mono HB2.out.size))
    have HP3 := Lib.hid (HP2.out.below hbs)
    have HR3 := Lib.hid (HR2.out.below hbs)
    clear hbs
    have f3 := heap_free HG3.out 3
    have f4 := heap_free HG3.out 4
    have f5 := heap_free HG3.out 5
    obtain ⟨-, -, -, x3, x4, x5, -, -, -⟩ := HG3.out.nine
    go_upto_region 5 with (fail)
    obtain ⟨W4, eW4⟩ : ∃ W, W = ((W3.setCell ⟨g, 3, none⟩ (.int .i64 x)).setCell ⟨g, 4, none⟩ (.int .i64 y)).setCell ⟨g, 5, none⟩ (.bool hh) := ⟨_, rfl⟩
    rw [← eW4]
    obtain ⟨q, eq⟩ : ∃ q : ScD, q = ⟨s.cols, s.rows, s.cells, x, y, hh, s.mouse, s.title, s.links⟩ := ⟨_, rfl⟩
    have hge : w2.heap.size ≤ g := Nat.le_of_eq EGg.out.symm
    have hk4 : Below w2.heap.size W3 W4 := by rw [eW4]; exact (((Below.refl w2.heap.size W3).setCell (p := ⟨g, 3, none⟩) hge _).setCell (p := ⟨g, 4, none⟩) hge _).setCell (p := ⟨g, 5, none⟩) hge _
    have HG4 : Hid (ScB W4 g q A2 n c2 L2 m d2) := Lib.hid (by rw [eW4, eq]; exact HG3.out.xyh x y hh)
    have HK4 : Hid (Below w2.heap.size w2 W4) := Lib.hid (HKS.out.trans hk4)
    have HB4 := Lib.hid (HB2.out.trans (HK4.out.mono HB2.out.size))
    have HP4 := Lib.hid (HP2.out.below HK4.out)
    have HR4 : Hid (ScR W4 q A2 n c2 L2 m d2) := Lib.hid (by rw [eq]; have h := HR2.out.below HK4.out; exact ⟨h.hn, h.rd, h.nc, h.nl, h.hm, h.rt, h.mc, h.ml, h.us, h.ok, h.tl⟩)
    have HQO : Hid (∀ d ∈ q.cells, CeOk d) := Lib.hid (by rw [eq]; exact HOK.out)
    have HEQ : Hid (enc16 s q = ([a1, a2, a3, a4, a5, 0], 0)) := Lib.hid (by rw [eq]; exact HE.out)
    clear eW4 hge hk4 eq f3 f4 f5 x3 x4 x5
    go_upto_region 6 with (first
      | (refine wpList_load_row rfl 25 (.tmp 4) rfl p rfl 25 _ (0, 0) _ HP4.out Tryd.underlying25 rfl (info_sc.trans rfl) ?_)
      | (refine wpList_load_row rfl 25 (.tmp 9) rfl g rfl 25 _ (0, 0) _ HG4.out Tryd.underlying25 rfl (info_sc.trans rfl) ?_)
      | (go_at_call 20; (refine (enc16_c s q A n c L m cm A2 n c2 L2 m d2 W4 (HRS.out.below HB4.out) HR4.out HQO.out (HU.out.next HB4.out)).mono ?_); rintro _ w6 ⟨v6, rfl, ho6, hb6⟩; rw [HEQ.out] at ho6 ⊢; obtain ⟨A6, k6, rfl, _, _, hr6, _⟩ := OwnB.form ho6; have HR6 := Lib.hid hr6; have HB6 := Lib.hid (HB4.out.trans (hb6.mono HB4.out.size)); clear ho6 hb6 hr6))
    obtain ⟨b6, o6, rfl, hl6, hc6⟩ := HR6.out.addrB (by simp)
    have c5 : w6.cell? ⟨b6, o6 + 5, none⟩ = some (.int .u8 0) := hc6 5 (by simp)
    have HL6 := Lib.hid hl6
    clear hc6 hl6
    go_wp2_with (first
      | (go_at_call 18; (refine (fixed16_c w6 (HU.out.next HB6.out)).mono ?_); rintro _ w9 ⟨rfl, hb9⟩; have HB9 := Lib.hid (HB6.out.trans (hb9.mono HB6.out.size)); have y5 := (hb9.cell (p := ⟨b6, o6 + 5, none⟩) HL6.out).trans c5; clear hb9))
    go_ret
    exact ⟨rfl, HB9.out⟩
  · go_wp2_with (first
      | (go_at_call 18; (refine (fixed16_c wc (HU.out.next HBC.out)).mono ?_); rintro _ w9 ⟨rfl, hb9⟩; have HB9 := Lib.hid (HBC.out.trans (hb9.mono HBC.out.size)); clear hb9))
    go_ret
    exact ⟨rfl, HB9.out⟩
end Go.Proofs.YtipofokinjkclaaDoor
