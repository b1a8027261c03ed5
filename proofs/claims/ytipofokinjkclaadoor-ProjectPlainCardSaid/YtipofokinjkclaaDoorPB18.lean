/- Parts one behind the other: What law 15's great and fixed answer. Conditions: as told at each. -/
import Derived.Test.YtipofokinjkclaaDoorPB17

set_option linter.unusedVariables false
set_option linter.unusedSimpArgs false
/- What law 15's great and fixed answer. Conditions: the tables lie where they were laid. -/
namespace Go.Proofs.YtipofokinjkclaaDoor
open Go Go.RowKit Go.Lib

def greatB (n t m : Nat) : Bool := decide (3000 < (n : Int)) || (decide (1000 < (t : Int)) || decide (1000 < (m : Int)))
theorem greatB_no {n t m : Nat} (h : greatB n t m = false) : n ≤ 3000 ∧ t ≤ 1000 ∧ m ≤ 1000 := by
  simp only [greatB, Bool.or_eq_false_iff, decide_eq_false_iff_not] at h
  omega
set_option maxRecDepth 100000 in
set_option maxHeartbeats 8000000 in
theorem great15_c (s : ScD) (A : Option Addr) (n c : Nat) (L : Option Addr) (m cm : Nat) (w : World) :
    Calls Tryd.prog 28 #[.agg (scC s A n c L m cm)] w fun e w' => e = .returned (.bool (greatB n s.title.size m)) ∧ Below w.heap.size w w' := by
  obtain ⟨X, eX⟩ : ∃ X, X = scC s A n c L m cm := ⟨_, rfl⟩
  rw [← eX]
  obtain ⟨W0, eW0⟩ : ∃ W0, W0 = w.alloc (.cells X 25) := ⟨_, rfl⟩
  obtain ⟨p, ep⟩ : ∃ p, p = w.heap.size := ⟨_, rfl⟩
  have hb0 : Below w.heap.size w W0 := by rw [eW0]; exact (Below.refl _ _).alloc (Nat.le_refl _) _
  have hp0 : ScB W0 p s A n c L m cm := by rw [eW0, ep, eX]; exact heap_alloc_new _ _
  obtain ⟨x0, x1, x2, x3, x4, x5, x6, x7, x8⟩ := hp0.nine
  have EW0 := Lib.hid eW0
  have EP := Lib.hid ep
  have HB0 := Lib.hid hb0
  clear eX eW0 ep hb0 hp0 x0 x1 x3 x4 x5 x6
  unfold greatB
  obtain ⟨b1, e1⟩ : ∃ b, decide (3000 < (n : Int)) = b := ⟨_, rfl⟩
  obtain ⟨b2, e2⟩ : ∃ b, decide (1000 < (s.title.size : Int)) = b := ⟨_, rfl⟩
  obtain ⟨b3, e3⟩ : ∃ b, decide (1000 < (m : Int)) = b := ⟨_, rfl⟩
  rw [e1, e2, e3]
  cases b1 <;> cases b2 <;> cases b3 <;>
  · go_enter Tryd.func28, Tryd.ntmps28
    go_upto_region 1 with (fail)
    rw [← EW0.out, ← EP.out]
    go_wp2_with (fail)
    go_ret
    exact ⟨rfl, HB0.out⟩
theorem projBlank21 (w : World) : Calls Tryd.prog 34 #[.int .i64 2, .int .i64 1] w fun e w' => ∃ b c', e = .returned (.tuple #[.agg (scC (blankS 2 1) (some ⟨b, 0, none⟩) 2 c' none 0 0), .int .i64 0]) ∧ OwnC w' w.heap.size (.slice (some ⟨b, 0, none⟩) 2 c') (List.replicate 2 blankD) ∧ Below w.heap.size w w' := by
  refine (projBlank_c 2 1 2 w (by kernel_rfl) rfl).mono ?_
  rintro e w' ⟨A', c', he, ho, hb⟩
  obtain ⟨A2, c2, e2, hnc, _, _, ha, hz⟩ := ho.form
  cases hA : A' with
  | none =>
    injection e2 with e2 _ e3
    rw [hA] at e2
    have := hz e2.symm
    simp only [List.length_replicate] at hnc
    omega
  | some a =>
    injection e2 with e2
    obtain ⟨_, _, h1, h2⟩ := ha a (by rw [← e2, hA])
    obtain ⟨bb, oo, ss⟩ := a
    cases h1; cases h2
    subst hA
    exact ⟨bb, c', he, ho, hb⟩
def fxD0 : CeD := ⟨19968, 1, 0, 0, 0, 0⟩
def fxD1 : CeD := ⟨0, 2, 0, 0, 0, 0⟩
def fxS : ScD := ⟨2, 1, [fxD0, fxD1], 0, 0, false, 0, ⟨#[]⟩, []⟩
def fxN : ScD := ⟨2, 1, [⟨63, 0, 0, 0, 0, 0⟩, ⟨32, 0, 0, 0, 0, 0⟩], 0, 0, false, 0, ⟨#[]⟩, []⟩
theorem fx_proj : projS false false false false false false fxS = fxN := by kernel_rfl
theorem fx_fts : Fts 0 false false false false := by
  have := fts 0 (by decide)
  simpa using this
theorem fx_16 : (bits BinOp.and .u32 0 16 == 0) = !false := by
  have := and_eq0 0 4 (by decide) (by decide)
  simpa using this
theorem fx_32 : (bits BinOp.and .u32 0 32 == 0) = !false := by
  have := and_eq0 0 5 (by decide) (by decide)
  simpa using this
theorem fx_mem {P : CeD → Prop} (h0 : P fxD0) (h1 : P fxD1) : ∀ d ∈ fxS.cells, P d := fun d hd => by
  rcases List.mem_cons.1 hd with rfl | hd
  · exact h0
  · rcases List.mem_cons.1 hd with rfl | hd
    · exact h1
    · cases hd
theorem fxScreen (B c b : Nat) (w : World) (ho : OwnC w B (.slice (some ⟨b, 0, none⟩) 2 c) [fxD0, fxD1]) (hU : TabU w) (hC : TabC w) :
    Calls Tryd.prog 30 #[.agg (scC (blankS 2 1) (some ⟨b, 0, none⟩) 2 c none 0 0), .int .u32 0] w fun e w' => ∃ b' c' L' d', e = .returned (.agg (scC fxN (some ⟨b', 0, none⟩) 2 c' L' 0 d')) ∧ OwnC w' w.heap.size (.slice (some ⟨b', 0, none⟩) 2 c') fxN.cells ∧ Below w.heap.size w w' := by
  obtain ⟨A2, c2, e2, hnc, _, hr, _⟩ := ho.form
  injection e2 with e2 _ e3
  have hs : ScR w fxS (some ⟨b, 0, none⟩) 2 c none 0 0 :=
    { hn := rfl, rd := by rw [e2]; exact hr, nc := by rw [e3]; exact hnc, nl := by decide, hm := rfl, rt := .inl rfl, mc := by decide, ml := by decide, us := fun u hu => (by cases hu), ok := fx_mem ⟨by decide, by decide⟩ ⟨by decide, by decide⟩, tl := by decide }
  have h := pjScreen_c fxS (some ⟨b, 0, none⟩) 2 c none 0 0 0 false false false false false false w hs fx_fts fx_16 fx_32 (fx_mem ⟨by decide, by decide⟩ ⟨by decide, by decide⟩) hU hC
  rw [fx_proj] at h
  refine h.mono ?_
  rintro e w' ⟨A', n', c', L', m', cm', rfl, ho', ht', _, hb⟩
  obtain ⟨A3, c3, e4, hnc3, _, _, ha, hz⟩ := ho'.form
  obtain ⟨L3, d3, e5, _⟩ := Own.form ht'
  injection e4 with e41 e42 e43
  injection e5 with e51 e52 e53
  have hn2 : n' = 2 := e42
  have hm0 : m' = 0 := e52
  subst hn2 hm0
  cases hA : A' with
  | none =>
    rw [hA] at e41
    have h1 := hz e41.symm
    have h2 : 2 ≤ c3 := hnc3
    omega
  | some a =>
    obtain ⟨_, _, h1, h2⟩ := ha a (by rw [← e41, hA])
    obtain ⟨bb, oo, ss⟩ := a
    cases h1; cases h2
    subst hA
    exact ⟨bb, c', L', cm', rfl, ho', hb⟩
set_option maxRecDepth 100000 in
set_option maxHeartbeats 16000000 in
theorem fixed15_c (w : World) (hU : TabU w) (hC : TabC w) : Calls Tryd.prog 29 #[] w fun e w' => e = .returned (.bool true) ∧ Below w.heap.size w w' := by
  have HU := Lib.hid hU
  have HC := Lib.hid hC
  clear hU hC
  go_enter Tryd.func29, Tryd.ntmps29
  go_upto_region 2 with (first
    | (go_at_call 34; (refine (projBlank21 w).mono ?_); rintro _ w1 ⟨b, c1, rfl, ho1, hb1⟩; have HO1 := Lib.hid ho1; have HB1 := Lib.hid hb1; clear ho1 hb1)
    | (refine wpList_store_rowTo rfl 25 (.tmp 1) (.tmp 6) rfl rfl w1.heap.size (scC (blankS 2 1) (some ⟨b, 0, none⟩) 2 c1 none 0 0) rfl rfl 25 _ (heap_alloc_new w1 _) (info_sc.trans rfl) rfl (sc_one _ _ _ _ _ _ _) ?_))
  generalize eX : World.alloc w1 _ = X
  have hx : Below w1.heap.size w1 X := by rw [← eX]; exact (Below.refl _ _).alloc (Nat.le_refl _) _
  obtain ⟨old, hq2⟩ : ∃ old, X.heap[w1.heap.size]? = some (.cells old 25 (0, 0)) := ⟨_, by rw [← eX]; exact heap_alloc_new _ _⟩
  obtain ⟨g, eg⟩ : ∃ g, g = w1.heap.size := ⟨_, rfl⟩
  obtain ⟨W2, eW2⟩ : ∃ W2, W2 = X.setRow w1.heap.size (scC (blankS 2 1) (some ⟨b, 0, none⟩) 2 c1 none 0 0) := ⟨_, rfl⟩
  rw [← eW2, ← eg]
  have hg2 : ScB W2 g (blankS 2 1) (some ⟨b, 0, none⟩) 2 c1 none 0 0 := by rw [eW2, eg]; exact setRow_heap _ _ _ _ _ _ hq2
  have hb2 : Below w1.heap.size w1 W2 := by rw [eW2]; exact below_setRow hx (Nat.le_refl _) _
  have HO2 := Lib.hid (OwnC.below HO1.out hb2)
  have HB2 := Lib.hid (HB1.out.trans (hb2.mono HB1.out.size))
  have HG2 := Lib.hid hg2
  have x2 : W2.cell? ⟨g, 2, none⟩ = some (.slice (some ⟨b, 0, none⟩) 2 c1) := hg2.nine.2.2.1
  have HBG : Hid (b < g ∧ w.heap.size ≤ b) := Lib.hid ⟨by rw [eg]; exact (OwnC.lt HO1.out b rfl).2, (OwnC.lt HO1.out b rfl).1⟩
  clear eX hx hq2 eg eW2 hg2 hb2 HO1 HB1
  obtain ⟨y0, y1, y2, y3, y4, y5⟩ := HO2.out.six 0 (by simp)
  have f0 := HO2.out.free 0
  have f1 := HO2.out.free 1
  have f2 := HO2.out.free 2
  have f3 := HO2.out.free 3
  have f4 := HO2.out.free 4
  have f5 := HO2.out.free 5
  simp only [Nat.zero_mul, Nat.one_mul, Nat.zero_add, Nat.reduceAdd] at y0 y1 y2 y3 y4 y5
  go_upto_region 5 with (fail)
  obtain ⟨W4, eW4⟩ : ∃ W, W = ((((((W2.setCell ⟨b, 0 * 6, none⟩ (.int .i32 fxD0.r)).setCell ⟨b, 0 * 6 + 1, none⟩ (.int .u8 fxD0.w)).setCell ⟨b, 0 * 6 + 2, none⟩ (.int .u32 fxD0.fg)).setCell ⟨b, 0 * 6 + 3, none⟩ (.int .u32 fxD0.bg)).setCell ⟨b, 0 * 6 + 4, none⟩ (.int .u8 fxD0.at_)).setCell ⟨b, 0 * 6 + 5, none⟩ (.int .u16 fxD0.ln)) := ⟨_, rfl⟩
  have eV4 : ((((((W2.setCell ⟨b, 0, none⟩ (.int .i32 19968)).setCell ⟨b, 1, none⟩ (.int .u8 1)).setCell ⟨b, 2, none⟩ (.int .u32 0)).setCell ⟨b, 3, none⟩ (.int .u32 0)).setCell ⟨b, 4, none⟩ (.int .u8 0)).setCell ⟨b, 5, none⟩ (.int .u16 0)) = W4 := by rw [eW4]; rfl
  rw [eV4]
  have hgb4 : g ≠ b := by have := HBG.out.1; omega
  have HO4 : Hid (OwnC W4 w.heap.size (.slice (some ⟨b, 0, none⟩) 2 c1) [fxD0, blankD]) := Lib.hid (by rw [eW4]; exact HO2.out.setAll 0 (by simp) fxD0)
  have HG4 : Hid (ScB W4 g (blankS 2 1) (some ⟨b, 0, none⟩) 2 c1 none 0 0) := Lib.hid (by rw [eW4]; exact (six_far _ _ _ _ _ _ _ _ _ _ _ _ _ _ _ hgb4).trans HG2.out)
  have HB4 : Hid (Below w.heap.size w W4) := Lib.hid (by rw [eW4]; exact six_below HB2.out _ _ _ _ _ _ _ _ _ _ _ _ _ HBG.out.2)
  have x4 : W4.cell? ⟨g, 2, none⟩ = some (.slice (some ⟨b, 0, none⟩) 2 c1) := HG4.out.nine.2.2.1
  clear eW4 eV4 hgb4 y0 y1 y2 y3 y4 y5 f0 f1 f2 f3 f4 f5 x2
  obtain ⟨y0, y1, y2, y3, y4, y5⟩ := HO4.out.six 1 (by simp)
  have f0 := HO4.out.free 6
  have f1 := HO4.out.free 7
  have f2 := HO4.out.free 8
  have f3 := HO4.out.free 9
  have f4 := HO4.out.free 10
  have f5 := HO4.out.free 11
  simp only [Nat.zero_mul, Nat.one_mul, Nat.zero_add, Nat.reduceAdd] at y0 y1 y2 y3 y4 y5
  go_upto_region 6 with (fail)
  obtain ⟨W5, eW5⟩ : ∃ W, W = ((((((W4.setCell ⟨b, 1 * 6, none⟩ (.int .i32 fxD1.r)).setCell ⟨b, 1 * 6 + 1, none⟩ (.int .u8 fxD1.w)).setCell ⟨b, 1 * 6 + 2, none⟩ (.int .u32 fxD1.fg)).setCell ⟨b, 1 * 6 + 3, none⟩ (.int .u32 fxD1.bg)).setCell ⟨b, 1 * 6 + 4, none⟩ (.int .u8 fxD1.at_)).setCell ⟨b, 1 * 6 + 5, none⟩ (.int .u16 fxD1.ln)) := ⟨_, rfl⟩
  have eV5 : ((((((W4.setCell ⟨b, 6, none⟩ (.int .i32 0)).setCell ⟨b, 7, none⟩ (.int .u8 2)).setCell ⟨b, 8, none⟩ (.int .u32 0)).setCell ⟨b, 9, none⟩ (.int .u32 0)).setCell ⟨b, 10, none⟩ (.int .u8 0)).setCell ⟨b, 11, none⟩ (.int .u16 0)) = W5 := by rw [eW5]; rfl
  rw [eV5]
  have hgb5 : g ≠ b := by have := HBG.out.1; omega
  have HO5 : Hid (OwnC W5 w.heap.size (.slice (some ⟨b, 0, none⟩) 2 c1) [fxD0, fxD1]) := Lib.hid (by rw [eW5]; exact HO4.out.setAll 1 (by simp) fxD1)
  have HG5 : Hid (ScB W5 g (blankS 2 1) (some ⟨b, 0, none⟩) 2 c1 none 0 0) := Lib.hid (by rw [eW5]; exact (six_far _ _ _ _ _ _ _ _ _ _ _ _ _ _ _ hgb5).trans HG4.out)
  have HB5 : Hid (Below w.heap.size w W5) := Lib.hid (by rw [eW5]; exact six_below HB4.out _ _ _ _ _ _ _ _ _ _ _ _ _ HBG.out.2)
  have x5 : W5.cell? ⟨g, 2, none⟩ = some (.slice (some ⟨b, 0, none⟩) 2 c1) := HG5.out.nine.2.2.1
  clear eW5 eV5 hgb5 y0 y1 y2 y3 y4 y5 f0 f1 f2 f3 f4 f5 x4
  clear x5
  go_upto_region 7 with (first
    | (refine wpList_load_row rfl 25 (.tmp 1) rfl g rfl 25 _ (0, 0) _ HG5.out Tryd.underlying25 rfl (info_sc.trans rfl) ?_)
    | (go_at_call 30; (refine (fxScreen _ c1 b W5 HO5.out (HU.out.next HB5.out) (HC.out.next HB5.out)).mono ?_); rintro _ w6 ⟨d, c6, L6, d6, rfl, ho6, hb6⟩; have HO6 := Lib.hid ho6; have HB6 := Lib.hid (HB5.out.trans (hb6.mono HB5.out.size)); clear ho6 hb6)
    | (refine wpList_store_rowTo rfl 25 (.tmp 3) (.tmp 25) rfl rfl w6.heap.size (scC fxN (some ⟨d, 0, none⟩) 2 c6 L6 0 d6) rfl rfl 25 _ (heap_alloc_new w6 _) (info_sc.trans rfl) rfl (sc_one _ _ _ _ _ _ _) ?_))
  generalize eX : World.alloc w6 _ = X
  have hx : Below w6.heap.size w6 X := by rw [← eX]; exact (Below.refl _ _).alloc (Nat.le_refl _) _
  obtain ⟨old, hq2⟩ : ∃ old, X.heap[w6.heap.size]? = some (.cells old 25 (0, 0)) := ⟨_, by rw [← eX]; exact heap_alloc_new _ _⟩
  obtain ⟨g7, eg⟩ : ∃ g, g = w6.heap.size := ⟨_, rfl⟩
  obtain ⟨W7, eW7⟩ : ∃ W, W = X.setRow w6.heap.size (scC fxN (some ⟨d, 0, none⟩) 2 c6 L6 0 d6) := ⟨_, rfl⟩
  rw [← eW7, ← eg]
  have hg7 : ScB W7 g7 fxN (some ⟨d, 0, none⟩) 2 c6 L6 0 d6 := by rw [eW7, eg]; exact setRow_heap _ _ _ _ _ _ hq2
  have hb7 : Below w6.heap.size w6 W7 := by rw [eW7]; exact below_setRow hx (Nat.le_refl _) _
  have HB7 := Lib.hid (HB6.out.trans (hb7.mono HB6.out.size))
  have x2 : W7.cell? ⟨g7, 2, none⟩ = some (.slice (some ⟨d, 0, none⟩) 2 c6) := hg7.nine.2.2.1
  have ho7 := OwnC.below HO6.out hb7
  obtain ⟨y0, -, -, -, -, -⟩ := ho7.six 0 (by decide)
  obtain ⟨y6, y7, -, -, -, -⟩ := ho7.six 1 (by decide)
  simp only [Nat.zero_mul, Nat.one_mul, Nat.zero_add, Nat.reduceAdd] at y0 y6 y7
  replace y0 : W7.cell? ⟨d, 0, none⟩ = some (.int .i32 63) := y0
  replace y6 : W7.cell? ⟨d, 6, none⟩ = some (.int .i32 32) := y6
  replace y7 : W7.cell? ⟨d, 7, none⟩ = some (.int .u8 0) := y7
  clear eX hx hq2 eg eW7 hg7 hb7 ho7 HO6
  go_wp2_with (fail)
  go_ret
  exact ⟨rfl, HB7.out⟩
end Go.Proofs.YtipofokinjkclaaDoor
