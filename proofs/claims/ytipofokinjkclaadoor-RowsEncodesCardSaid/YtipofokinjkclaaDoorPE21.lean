/- Parts one behind the other: Plain: from a screen to itself with another cursor no row is told; the chapter's example by rows; The features' bits, and what the reference's Has answers; What law 15's great and fixed answer; What law 16's great and fixed answer; Plain: what is told of two screens leads from the one to the other; what an applied screen's cells are like. Conditions: as told at each. -/
import Derived.Test.YtipofokinjkclaaDoorPE15
import Derived.Test.YtipofokinjkclaaDoorPE13
import Derived.Laws.BitsAllLaws
import Derived.Test.YtipofokinjkclaaDoorPE14
import Derived.Test.YtipofokinjkclaaDoorPE19
import Derived.Test.YtipofokinjkclaaDoorPE20

set_option linter.unusedVariables false
set_option linter.unusedSimpArgs false
/- Plain: from a screen to itself with another cursor no row is told; the chapter's example by rows. Conditions: none. -/
namespace Go.Proofs.YtipofokinjkclaaDoor
open Go Go.RowKit Go.Lib

/-- The chapter's example. -/
def fxCs16 : List CeD := [⟨97, 0, 0, 0, 0, 0⟩, blankD]
def fxS16 : ScD := ⟨2, 1, fxCs16, 0, 0, false, 0, ⟨#[]⟩, []⟩
set_option maxRecDepth 100000 in
theorem fx16_enc : enc16 (blankS 2 1) fxS16 = ([2, 1, 0, 0, 0, 1, 0, 0, 0, 0, 97, 0, 0, 0, 0, 0, 0, 0, 0, 32, 0, 0, 0, 0, 0], 0) := by kernel_rfl
end Go.Proofs.YtipofokinjkclaaDoor


/- The features' bits, and what the reference's Has answers. Conditions: features of 32 bits. -/
namespace Go.Proofs.YtipofokinjkclaaDoor
open Go Go.RowKit Go.Lib

end Go.Proofs.YtipofokinjkclaaDoor


/- What law 15's great and fixed answer. Conditions: the tables lie where they were laid. -/
namespace Go.Proofs.YtipofokinjkclaaDoor
open Go Go.RowKit Go.Lib

def greatB (n t m : Nat) : Bool := decide (3000 < (n : Int)) || (decide (1000 < (t : Int)) || decide (1000 < (m : Int)))
theorem greatB_no {n t m : Nat} (h : greatB n t m = false) : n ≤ 3000 ∧ t ≤ 1000 ∧ m ≤ 1000 := by
  simp only [greatB, Bool.or_eq_false_iff, decide_eq_false_iff_not] at h
  omega
end Go.Proofs.YtipofokinjkclaaDoor


/- What law 16's great and fixed answer. Conditions: the tables lie where they were laid. -/
namespace Go.Proofs.YtipofokinjkclaaDoor
open Go Go.RowKit Go.Lib

set_option maxRecDepth 100000 in
set_option maxHeartbeats 8000000 in
theorem great16_c (s : ScD) (A : Option Addr) (n c : Nat) (L : Option Addr) (m cm : Nat) (w : World) :
    Calls Tryd.prog 17 #[.agg (scC s A n c L m cm)] w fun e w' => e = .returned (.bool (greatB n s.title.size m)) ∧ Below w.heap.size w w' := by
  obtain ⟨X, eX⟩ : ∃ X, X = scC s A n c L m cm := ⟨_, rfl⟩
  rw [← eX]
  obtain ⟨W0, eW0⟩ : ∃ W0, W0 = w.alloc (.cells X 25) := ⟨_, rfl⟩
  obtain ⟨p, ep⟩ : ∃ p, p = w.heap.size := ⟨_, rfl⟩
  have hb0 : Below w.heap.size w W0 := by rw [eW0]; exact (Below.refl _ _).alloc (Nat.le_refl _) _
  have hp0 : ScB W0 p s A n c L m cm := by rw [eW0, ep, eX]; exact heap_alloc_new _ _
  obtain ⟨x0, x1, x2, x3, x4, x5, x6, x7, x8⟩ := hp0.nine
  have EW0 := Lib.hid eW0
  have EP := Lib.hid ep
  have HB0 := Lib.hid hb0
  clear eX eW0 ep hb0 hp0 x0 x1 x3 x4 x5 x6
  unfold greatB
  obtain ⟨b1, e1⟩ : ∃ b, decide (3000 < (n : Int)) = b := ⟨_, rfl⟩
  obtain ⟨b2, e2⟩ : ∃ b, decide (1000 < (s.title.size : Int)) = b := ⟨_, rfl⟩
  obtain ⟨b3, e3⟩ : ∃ b, decide (1000 < (m : Int)) = b := ⟨_, rfl⟩
  rw [e1, e2, e3]
  cases b1 <;> cases b2 <;> cases b3 <;>
  · go_enter Tryd.func17, Tryd.ntmps17
    go_upto_region 1 with (fail)
    rw [← EW0.out, ← EP.out]
    go_wp2_with (fail)
    go_ret
    exact ⟨rfl, HB0.out⟩
theorem rd_lit (w : World) (bs : List UInt8) (vs : Array Value) (hv : vs = (bs.map bv).toArray) (hm : bs.length ≤ 1000) : Rd (w.alloc (.cells vs 5)) (some ⟨w.heap.size, 0, none⟩) (bs.map bv) := by
  obtain ⟨A, c, e, _, _, h, _⟩ := OwnB.form (OwnB_lit w bs vs hv bs.length rfl hm)
  injection e with e1 e2 e3
  subst e1
  exact h
theorem own_at {w : World} {B n c : Nat} {A : Option Addr} {ds : List CeD} (h : OwnC w B (.slice A n c) ds) (h0 : 0 < ds.length) : ∃ b, A = some ⟨b, 0, none⟩ := by
  obtain ⟨h1, _, h2, h3, h4⟩ := h.parts
  cases hA : A with
  | none =>
    have := h4 hA
    omega
  | some a =>
    obtain ⟨_, _, g1, g2⟩ := h3 a hA
    obtain ⟨bb, oo, ss⟩ := a
    cases g1; cases g2
    exact ⟨bb, rfl⟩
theorem refBlank21 (w : World) : Calls Tryd.prog 35 #[.int .i64 2, .int .i64 1] w fun e w' => ∃ b c', e = .returned (.tuple #[.agg (scC (blankS 2 1) (some ⟨b, 0, none⟩) 2 c' none 0 0), .int .i64 0]) ∧ OwnC w' w.heap.size (.slice (some ⟨b, 0, none⟩) 2 c') [blankD, blankD] ∧ Below w.heap.size w w' := by
  refine (refBlank15_c 2 1 2 w (by kernel_rfl) rfl).mono ?_
  rintro e w' ⟨A', c', he, ho, hb⟩
  obtain ⟨b, rfl⟩ := own_at ho (by simp)
  exact ⟨b, c', he, ho, hb⟩
theorem fx16_ok : (∀ d ∈ (blankS 2 1).cells, CeOk d) ∧ (∀ d ∈ fxS16.cells, CeOk d) := by
  have h1 : CeOk blankD := by unfold CeOk blankD; decide
  have h2 : CeOk ⟨97, 0, 0, 0, 0, 0⟩ := by unfold CeOk; decide
  constructor
  · intro d hd
    rw [List.eq_of_mem_replicate hd]; exact h1
  · intro d hd
    rcases List.mem_cons.1 hd with rfl | hd
    · exact h2
    · rw [List.mem_singleton] at hd; subst hd; exact h1
theorem fx16_sound : Sound fxS16 := ⟨by decide, Nat.zero_le _, fun u hu => (by cases hu), fun d hd => by have := (fx16_ok.2 d hd).2.2.2.2.2; exact ⟨this.1, by omega⟩, Nat.zero_le _, fun d hd => ⟨(fx16_ok.2 d hd).2.2.1.1, (fx16_ok.2 d hd).2.2.2.1.1⟩⟩
set_option maxRecDepth 100000 in
set_option maxHeartbeats 16000000 in
theorem fixed16_c (w : World) (hU : TabU w) : Calls Tryd.prog 18 #[] w fun e w' => e = .returned (.bool true) ∧ Below w.heap.size w w' := by
  have HU := Lib.hid hU
  clear hU
  go_enter Tryd.func18, Tryd.ntmps18
  go_upto_region 2 with (first
    | (go_at_call 35; (refine (refBlank21 w).mono ?_); rintro _ w1 ⟨b, c1, rfl, ho1, hb1⟩; have HO1 := Lib.hid ho1; have HB1 := Lib.hid hb1; clear ho1 hb1)
    | (refine wpList_store_rowTo rfl 25 (.tmp 1) (.tmp 9) rfl rfl w1.heap.size (scC (blankS 2 1) (some ⟨b, 0, none⟩) 2 c1 none 0 0) rfl rfl 25 _ (heap_alloc_new w1 _) (info_sc.trans rfl) rfl (sc_one _ _ _ _ _ _ _) ?_))
  generalize eX : World.alloc w1 _ = X
  have hx : Below w1.heap.size w1 X := by rw [← eX]; exact (Below.refl _ _).alloc (Nat.le_refl _) _
  obtain ⟨old, hq2⟩ : ∃ old, X.heap[w1.heap.size]? = some (.cells old 25 (0, 0)) := ⟨_, by rw [← eX]; exact heap_alloc_new _ _⟩
  obtain ⟨g, eg⟩ : ∃ g, g = w1.heap.size := ⟨_, rfl⟩
  obtain ⟨W2, eW⟩ : ∃ W2, W2 = X.setRow w1.heap.size (scC (blankS 2 1) (some ⟨b, 0, none⟩) 2 c1 none 0 0) := ⟨_, rfl⟩
  rw [← eW, ← eg]
  have hg : ScB W2 g (blankS 2 1) (some ⟨b, 0, none⟩) 2 c1 none 0 0 := by rw [eW, eg]; exact setRow_heap _ _ _ _ _ _ hq2
  have hb : Below w1.heap.size w1 W2 := by rw [eW]; exact below_setRow hx (Nat.le_refl _) _
  have HGW2 := Lib.hid hg
  have HKW2 := Lib.hid hb
  have HLW2 : Hid (g = w1.heap.size) := Lib.hid eg
  clear eX hx hq2 eg eW hg hb
  have HO2 := Lib.hid (OwnC.below HO1.out HKW2.out)
  have HB2 := Lib.hid (HB1.out.trans (HKW2.out.mono HB1.out.size))
  go_upto_region 3 with (first
    | (go_at_call 35; (refine (refBlank21 W2).mono ?_); rintro _ w3 ⟨d, c3, rfl, ho3, hb3⟩; have HO3 := Lib.hid ho3; have HQ3 := Lib.hid hb3; clear ho3 hb3)
    | (refine wpList_store_rowTo rfl 25 (.tmp 3) (.tmp 13) rfl rfl w3.heap.size (scC (blankS 2 1) (some ⟨d, 0, none⟩) 2 c3 none 0 0) rfl rfl 25 _ (heap_alloc_new w3 _) (info_sc.trans rfl) rfl (sc_one _ _ _ _ _ _ _) ?_))
  generalize eX : World.alloc w3 _ = X
  have hx : Below w3.heap.size w3 X := by rw [← eX]; exact (Below.refl _ _).alloc (Nat.le_refl _) _
  obtain ⟨old, hq2⟩ : ∃ old, X.heap[w3.heap.size]? = some (.cells old 25 (0, 0)) := ⟨_, by rw [← eX]; exact heap_alloc_new _ _⟩
  obtain ⟨q, eg⟩ : ∃ g, g = w3.heap.size := ⟨_, rfl⟩
  obtain ⟨W4, eW⟩ : ∃ W2, W2 = X.setRow w3.heap.size (scC (blankS 2 1) (some ⟨d, 0, none⟩) 2 c3 none 0 0) := ⟨_, rfl⟩
  rw [← eW, ← eg]
  have hg : ScB W4 q (blankS 2 1) (some ⟨d, 0, none⟩) 2 c3 none 0 0 := by rw [eW, eg]; exact setRow_heap _ _ _ _ _ _ hq2
  have hb : Below w3.heap.size w3 W4 := by rw [eW]; exact below_setRow hx (Nat.le_refl _) _
  have HGW4 := Lib.hid hg
  have HKW4 := Lib.hid hb
  have HLW4 : Hid (q = w3.heap.size) := Lib.hid eg
  clear eX hx hq2 eg eW hg hb
  have HO4 := Lib.hid (OwnC.below HO3.out HKW4.out)
  have HK4 := Lib.hid (HQ3.out.trans (HKW4.out.mono HQ3.out.size))
  have HB4 := Lib.hid (HB2.out.trans (HK4.out.mono HB2.out.size))
  have HG4 := Lib.hid (HGW2.out.below HK4.out)
  have HOB4 := Lib.hid (OwnC.below HO2.out HK4.out)
  have HD : Hid (g < d ∧ d < q ∧ b < d ∧ w.heap.size ≤ d) := Lib.hid ⟨by have h1 := heap_lt HGW2.out; have h2 := (OwnC.lt HO3.out d rfl).1; omega, by rw [HLW4.out]; exact (OwnC.lt HO3.out d rfl).2, by have h1 := (OwnC.lt HO2.out b rfl).2; have h2 := (OwnC.lt HO3.out d rfl).1; omega, by have h1 := HB2.out.size; have h2 := (OwnC.lt HO3.out d rfl).1; omega⟩
  have x2 : W4.cell? ⟨q, 2, none⟩ = some (.slice (some ⟨d, 0, none⟩) 2 c3) := HGW4.out.nine.2.2.1
  obtain ⟨y0, -, -, -, -, -⟩ := HO4.out.six 0 (by decide)
  have f0 := HO4.out.free 0
  simp only [Nat.zero_mul, Nat.zero_add] at y0
  go_upto_region 4 with (fail)
  obtain ⟨W5, eW5⟩ : ∃ W, W = W4.setCell ⟨d, 0, none⟩ (.int .i32 97) := ⟨_, rfl⟩
  rw [← eW5]
  have HO5 : Hid (OwnC W5 W2.heap.size (.slice (some ⟨d, 0, none⟩) 2 c3) fxCs16) := Lib.hid (by rw [eW5]; have h := HO4.out.rune 0 (by decide) 97; exact h)
  have HG5 : Hid (ScB W5 g (blankS 2 1) (some ⟨b, 0, none⟩) 2 c1 none 0 0) := Lib.hid (by rw [eW5]; exact (heap_far _ (by have := HD.out; show g ≠ d; omega)).trans HG4.out)
  have HQ5 : Hid (ScB W5 q fxS16 (some ⟨d, 0, none⟩) 2 c3 none 0 0) := Lib.hid (by rw [eW5]; exact (heap_far _ (by have := HD.out; show q ≠ d; omega)).trans HGW4.out)
  have HOB5 : Hid (OwnC W5 w.heap.size (.slice (some ⟨b, 0, none⟩) 2 c1) [blankD, blankD]) := Lib.hid (OwnC.keep HOB4.out (fun j ej => by injection ej with ej; subst ej; rw [eW5]; exact heap_far _ (by have := HD.out; show b ≠ d; omega)))
  have HB5 : Hid (Below w.heap.size w W5) := Lib.hid (by rw [eW5]; exact HB4.out.setCell (by have := HD.out; show w.heap.size ≤ d; omega) _)
  have HR5 : Hid (ScR W5 (blankS 2 1) (some ⟨b, 0, none⟩) 2 c1 none 0 0) := Lib.hid ((blank_sound16 (C := 2) (R := 1) (by kernel_rfl)).read HOB5.out (World.ownsRow_nil _ 0 _ _))
  have HS5 : Hid (ScR W5 fxS16 (some ⟨d, 0, none⟩) 2 c3 none 0 0) := Lib.hid (fx16_sound.read HO5.out (World.ownsRow_nil _ 0 _ _))
  have HU5 := Lib.hid (HU.out.next HB5.out)
  clear eW5 x2 y0 f0
  go_upto_region 5 with (first
    | (refine wpList_load_row rfl 25 (.tmp 1) rfl g rfl 25 _ (0, 0) _ HG5.out Tryd.underlying25 rfl (info_sc.trans rfl) ?_)
    | (refine wpList_load_row rfl 25 (.tmp 3) rfl q rfl 25 _ (0, 0) _ HQ5.out Tryd.underlying25 rfl (info_sc.trans rfl) ?_)
    | (go_at_call 20; (refine (enc16_c (blankS 2 1) fxS16 (some ⟨b, 0, none⟩) 2 c1 none 0 0 (some ⟨d, 0, none⟩) 2 c3 none 0 0 W5 HR5.out HS5.out fx16_ok.2 HU5.out).mono ?_); rintro _ w6 ⟨v6, rfl, ho6, hb6⟩; rw [fx16_enc] at ho6 ⊢; obtain ⟨A6, k6, rfl, _, _, hr6, _⟩ := OwnB.form ho6; have HR6 := Lib.hid hr6; have HB6 := Lib.hid (HB5.out.trans (hb6.mono HB5.out.size)); clear ho6 hb6 hr6))
  go_wp2_with (first
    | (go_at_call 24; (refine (Same_t A6 (some ⟨w6.heap.size, 0, none⟩) 25 25 k6 25 [2, 1, 0, 0, 0, 1, 0, 0, 0, 0, 97, 0, 0, 0, 0, 0, 0, 0, 0, 32, 0, 0, 0, 0, 0] _ rfl rfl (HR6.out.below ((Below.refl _ _).alloc (Nat.le_refl _) _)) (rd_lit _ _ _ (by kernel_rfl) (by decide)) (by decide)).mono ?_); rintro _ w7 ⟨rfl, q7, rfl⟩))
  go_ret
  exact ⟨rfl, below_drewN (HB6.out.alloc HB6.out.size _) _⟩
end Go.Proofs.YtipofokinjkclaaDoor


/- Plain: what is told of two screens leads from the one to the other; what an applied screen's cells are like. Conditions: none. -/
namespace Go.Proofs.YtipofokinjkclaaDoor
open Go Go.RowKit Go.Lib

theorem ceok_told {s : ScD} (h : ∀ d ∈ s.cells, CeOk d) : ∀ d ∈ s.cells, (0 ≤ d.fg ∧ 0 ≤ d.bg) ∧ (0 ≤ d.at_ ∧ d.at_ ≤ 255) ∧ 0 ≤ d.ln := fun d hd => by
  obtain ⟨_, _, ⟨h1, _⟩, ⟨h2, _⟩, h3, ⟨h4, _⟩⟩ := h d hd
  exact ⟨⟨h1, h2⟩, h3, h4⟩
theorem there_full {a b : ScD} (ha : fit16 a = true) (hb : fit16 b = true) (hc : ∀ d ∈ b.cells, CeOk d) : (full16 b).2 = 0 ∧ app16 a (full16 b).1 = (b, 0) := by
  obtain ⟨C, R, hf⟩ := fit16_of hb
  unfold full16
  rw [if_pos hb]
  refine ⟨rfl, ?_⟩
  have e : blankS b.cols b.rows = blankS C R := by rw [hf.c, hf.r]
  rw [e]
  exact app16_lay ha hb hf (.inr rfl) ⟨(fun h => by cases h), fun _ => rfl⟩ (hf.told hb (ceok_told hc))
theorem there_enc {a b : ScD} (ha : fit16 a = true) (hb : fit16 b = true) (hc : ∀ d ∈ b.cells, CeOk d) : (enc16 a b).2 = 0 ∧ app16 a (enc16 a b).1 = (b, 0) := by
  unfold enc16
  rw [ha, hb]
  simp only [Bool.and_self, if_true]
  by_cases hd : ((a.cols == b.cols) && (a.rows == b.rows)) = true
  · rw [if_pos hd]
    refine ⟨rfl, ?_⟩
    rw [Bool.and_eq_true, beq_iff_eq, beq_iff_eq] at hd
    obtain ⟨C, R, hf⟩ := fit16_of hb
    obtain ⟨C', R', hfa⟩ := fit16_of ha
    have e1 : C' = C := by have h1 := hfa.c; have h2 := hf.c; omega
    have e2 : R' = R := by have h1 := hfa.r; have h2 := hf.r; omega
    subst e1 e2
    exact app16_lay ha hb hf (.inl rfl) ⟨fun _ => ⟨rfl, hfa⟩, fun h => by cases h⟩ (hf.told hb (ceok_told hc))
  · rw [if_neg hd]
    exact there_full ha hb hc
theorem layB_len {base b : ScD} {C R f0 : Nat} (h : Fit16 b C R) : (layB base b f0).length ≤ 20000 := by
  have h1 := rowsT_length C base.cells b.cells R
  have h2 := Nat.mul_le_mul h.r2 (show C * 9 + 1 ≤ 721 by have := h.c2; omega)
  have h3 := h.tl
  have h4 : ∀ t, (ttlB t b.title).length ≤ 65 := fun t => by
    cases t
    · exact Nat.zero_le _
    · show (lo b.title.size :: strB b.title).length ≤ 65
      rw [List.length_cons, strB_len]; omega
  have h5 := h4 (!(b.title.toList == base.title.toList))
  unfold layB headB
  rw [h.c, h.r, Int.toNat_natCast, Int.toNat_natCast]
  simp only [List.length_append, List.length_cons, List.length_nil]
  omega
theorem full_len (b : ScD) : (full16 b).1.length ≤ 20000 := by
  unfold full16
  split
  · rename_i h
    obtain ⟨C, R, hf⟩ := fit16_of h
    exact layB_len hf
  · exact Nat.zero_le _
theorem enc_len (a b : ScD) : (enc16 a b).1.length ≤ 20000 := by
  unfold enc16
  split
  · rename_i h
    rw [Bool.and_eq_true] at h
    obtain ⟨C, R, hf⟩ := fit16_of h.2
    split
    · exact layB_len hf
    · exact full_len b
  · exact Nat.zero_le _
theorem end16_okLn {s : ScD} {p : Nat × List CeD} (h : okLn p.2) : okLn (end16 s p).1.cells := by
  unfold end16
  split
  · split
    · exact h
    · intro d hd; cases hd
  · intro d hd; cases hd
theorem app16_okLn {a : ScD} {d : List UInt8} (h : okLn a.cells) : okLn (app16 a d).1.cells := by
  have hz : okLn scZ.cells := fun d hd => by cases hd
  unfold app16
  split
  · split
    · split
      · exact hz
      · split
        · exact hz
        · split
          · exact hz
          · refine end16_okLn (readP_all (P := fun d => 0 ≤ d.ln ∧ d.ln < 65536) cellAt_ln _ _ _ _ ?_)
            unfold base16
            split
            · exact h
            · intro d hd
              rw [List.eq_of_mem_replicate hd]
              exact ⟨Int.le_refl _, (by decide : (0 : Int) < 65536)⟩
    · exact hz
  · exact hz
/-- An applied screen that fits can be read. -/
theorem fit_read {w : World} {B : Nat} {t : ScD} {A : Option Addr} {n c : Nat} {L : Option Addr} {d : Nat} (hf : fit16 t = true) (ho : OwnC w B (.slice A n c) t.cells) (hl : t.links = []) (hk : okLn t.cells) : ScR w t A n c L 0 d := by
  obtain ⟨C, R, h⟩ := fit16_of hf
  obtain ⟨p1, p2, p3, _⟩ := ho.parts
  have hn : n ≤ 1920 := by rw [← p1, h.len]; exact Nat.mul_le_mul h.c2 h.r2
  exact ⟨p1, p2, p3, by omega, by rw [hl]; rfl, by rw [hl]; exact .inl rfl, Nat.zero_le _, Nat.zero_le _, (fun u hu => by rw [hl] at hu; cases hu), hk, by have := h.tl; omega⟩
end Go.Proofs.YtipofokinjkclaaDoor

