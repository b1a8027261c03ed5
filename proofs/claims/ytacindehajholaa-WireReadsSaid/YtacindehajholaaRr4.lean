/- What the reference's reader does: Text. Conditions: lengths that fit. -/
import Derived.Test.YtacindehajholaaRr3
namespace Go.Proofs.Ytacindehajholaa
open Go Go.RowKit

theorem varR_b (s : RS) : (varR s).2.b = s.b := by
  unfold varR
  split
  · rfl
  · split <;> rfl
theorem varR_at (s : RS) (h : s.at_ ≤ s.b.length) : (varR s).2.at_ ≤ s.b.length := by
  unfold varR
  split
  · exact h
  · split
    · exact h
    · rename_i n k hg
      have := (varGo_u64 hg).2.1
      rw [List.length_drop] at this
      show s.at_ + k ≤ _
      omega

set_option maxRecDepth 100000 in
set_option maxHeartbeats 1000000 in
theorem refText_no (A : Option Addr) (c : Nat) (s s1 : RS) (n : Nat) (most : Int) (E : Nat) (w : World) (h : RsOk w A c s) (hv : varR s = (n, s1)) (hm : (Lit.int .i64 most).wf = true)
    (hE : (s1.err ≠ 0 ∧ E = s1.err) ∨ (s1.err = 0 ∧ most < 0 ∧ E = 4) ∨ (s1.err = 0 ∧ 0 ≤ most ∧ most < (n : Int) ∧ E = 4) ∨ (s1.err = 0 ∧ 0 ≤ most ∧ (n : Int) ≤ most ∧ s1.b.length < s1.at_ + n ∧ E = 2)) :
    Calls Try.prog 26 #[rsV A c s, .int .i64 most] w fun e w' => e = .returned (.tuple #[.slice none 0 0, rsV A c { s with err := E }]) ∧ Below w.heap.size w w' := by
  have h' := h
  obtain ⟨h1, h2, h3, h4, h5⟩ := h
  obtain ⟨hm1, hm2⟩ := bounds_i64 hm
  have hsb : s1.b = s.b := by have := varR_b s; rw [hv] at this; exact this
  have hsa : s1.at_ ≤ s.b.length := by have := varR_at s h4; rw [hv] at this; exact this
  have hV := fun (w : World) (hh : RsOk w A c s) => refVarR_c A c s w hh
  rw [hv] at hV
  unfold rsV at hV
  simp only [hsb] at hV hE
  have HV := Lib.hid hV; clear hV hv
  have hR : ∀ o1 o2, RsOk ((w.alloc o1).alloc o2) A c s := fun o1 o2 => ⟨(h1.alloc o1).alloc o2, h2, h3, h4, h5⟩
  have HR := Lib.hid hR; clear hR h' h1
  have HSB := Lib.hid hsb; clear hsb
  unfold rsV
  rcases hE with ⟨he, rfl⟩ | ⟨he, hl, rfl⟩ | ⟨he, hl0, hl, rfl⟩ | ⟨he, hl0, hl1, hl, rfl⟩
  · have e0 : (((s1.err : Nat) : Int) != 0) = true := by rw [bne_iff_ne]; omega
    clear he
    go_enter Try.func26, Try.ntmps26
    go_wp2_with (fail)
    refine (HV.out _ (HR.out _ _)).mono ?_
    rintro e w1 ⟨rfl, hb1⟩
    have z := hb1.size
    simp only [World.size_alloc] at z hb1
    have x0 := box3 ((hb1.block w.heap.size (by omega)).trans (heap2_old w _ _))
    have x1 := box3 ((hb1.block (w.heap.size + 1) (by omega)).trans (heap2_new w _ _))
    obtain ⟨⟨a0, a1, a2⟩, b0, b1, b2⟩ := x0
    obtain ⟨⟨d0, d1, d2⟩, f0, f1, f2⟩ := x1
    have hB : Below w.heap.size w w1 := (((Below.refl _ _).alloc (Nat.le_refl _) _).alloc (by simp) _).trans (hb1.mono (by omega))
    have z1 : w.heap.size < w1.heap.size := by omega
    have z2 : w.heap.size + 1 < w1.heap.size := by omega
    have hsub := IntWalk.u64_in ((s.b.length : Int) - (s1.at_ : Int)) ⟨by omega, by omega⟩
    go_wp2_with (fail)
    go_region
    all_goals
      go_wp2
      refine bodyPost_ret (v := .tuple #[.slice none 0 0, .agg #[.slice A s.b.length c, .int .i64 (s.at_ : Int), .int .i64 (s1.err : Int)]]) (by simp [results, Try.results26, go_sem, d0, d1, d2, z1, z2]) rfl ?_
      exact ⟨rfl, by go_grown⟩
  · have e0 : (((s1.err : Nat) : Int) != 0) = false := by rw [bne_eq_false_iff_eq]; omega
    clear he
    go_enter Try.func26, Try.ntmps26
    go_wp2_with (fail)
    refine (HV.out _ (HR.out _ _)).mono ?_
    rintro e w1 ⟨rfl, hb1⟩
    have z := hb1.size
    simp only [World.size_alloc] at z hb1
    have x0 := box3 ((hb1.block w.heap.size (by omega)).trans (heap2_old w _ _))
    have x1 := box3 ((hb1.block (w.heap.size + 1) (by omega)).trans (heap2_new w _ _))
    obtain ⟨⟨a0, a1, a2⟩, b0, b1, b2⟩ := x0
    obtain ⟨⟨d0, d1, d2⟩, f0, f1, f2⟩ := x1
    have hB : Below w.heap.size w w1 := (((Below.refl _ _).alloc (Nat.le_refl _) _).alloc (by simp) _).trans (hb1.mono (by omega))
    have z1 : w.heap.size < w1.heap.size := by omega
    have z2 : w.heap.size + 1 < w1.heap.size := by omega
    have hsub := IntWalk.u64_in ((s.b.length : Int) - (s1.at_ : Int)) ⟨by omega, by omega⟩
    go_wp2_with (fail)
    go_region
    all_goals
      go_wp2
      refine bodyPost_ret (v := .tuple #[.slice none 0 0, .agg #[.slice A s.b.length c, .int .i64 (s.at_ : Int), .int .i64 (4 : Int)]]) (by simp [results, Try.results26, go_sem, d0, d1, d2, z1, z2]) rfl ?_
      exact ⟨rfl, by go_grown⟩
  · have e0 : (((s1.err : Nat) : Int) != 0) = false := by rw [bne_eq_false_iff_eq]; omega
    clear he
    go_enter Try.func26, Try.ntmps26
    go_wp2_with (fail)
    refine (HV.out _ (HR.out _ _)).mono ?_
    rintro e w1 ⟨rfl, hb1⟩
    have z := hb1.size
    simp only [World.size_alloc] at z hb1
    have x0 := box3 ((hb1.block w.heap.size (by omega)).trans (heap2_old w _ _))
    have x1 := box3 ((hb1.block (w.heap.size + 1) (by omega)).trans (heap2_new w _ _))
    obtain ⟨⟨a0, a1, a2⟩, b0, b1, b2⟩ := x0
    obtain ⟨⟨d0, d1, d2⟩, f0, f1, f2⟩ := x1
    have hB : Below w.heap.size w w1 := (((Below.refl _ _).alloc (Nat.le_refl _) _).alloc (by simp) _).trans (hb1.mono (by omega))
    have z1 : w.heap.size < w1.heap.size := by omega
    have z2 : w.heap.size + 1 < w1.heap.size := by omega
    have hsub := IntWalk.u64_in ((s.b.length : Int) - (s1.at_ : Int)) ⟨by omega, by omega⟩
    go_wp2_with (fail)
    go_region
    all_goals
      go_wp2
      refine bodyPost_ret (v := .tuple #[.slice none 0 0, .agg #[.slice A s.b.length c, .int .i64 (s.at_ : Int), .int .i64 (4 : Int)]]) (by simp [results, Try.results26, go_sem, d0, d1, d2, z1, z2]) rfl ?_
      exact ⟨rfl, by go_grown⟩
  · have e0 : (((s1.err : Nat) : Int) != 0) = false := by rw [bne_eq_false_iff_eq]; omega
    clear he
    have hl' : (s.b.length : Int) - (s1.at_ : Int) < (n : Int) := by omega
    go_enter Try.func26, Try.ntmps26
    go_wp2_with (fail)
    refine (HV.out _ (HR.out _ _)).mono ?_
    rintro e w1 ⟨rfl, hb1⟩
    have z := hb1.size
    simp only [World.size_alloc] at z hb1
    have x0 := box3 ((hb1.block w.heap.size (by omega)).trans (heap2_old w _ _))
    have x1 := box3 ((hb1.block (w.heap.size + 1) (by omega)).trans (heap2_new w _ _))
    obtain ⟨⟨a0, a1, a2⟩, b0, b1, b2⟩ := x0
    obtain ⟨⟨d0, d1, d2⟩, f0, f1, f2⟩ := x1
    have hB : Below w.heap.size w w1 := (((Below.refl _ _).alloc (Nat.le_refl _) _).alloc (by simp) _).trans (hb1.mono (by omega))
    have z1 : w.heap.size < w1.heap.size := by omega
    have z2 : w.heap.size + 1 < w1.heap.size := by omega
    have hsub := IntWalk.u64_in ((s.b.length : Int) - (s1.at_ : Int)) ⟨by omega, by omega⟩
    go_wp2_with (fail)
    go_region
    all_goals
      go_wp2
      refine bodyPost_ret (v := .tuple #[.slice none 0 0, .agg #[.slice A s.b.length c, .int .i64 (s.at_ : Int), .int .i64 (2 : Int)]]) (by simp [results, Try.results26, go_sem, d0, d1, d2, z1, z2]) rfl ?_
      exact ⟨rfl, by go_grown⟩

set_option maxRecDepth 100000 in
set_option maxHeartbeats 1000000 in
theorem refText_yes (A : Option Addr) (c : Nat) (s s1 : RS) (n : Nat) (most : Int) (w : World) (h : RsOk w A c s) (hv : varR s = (n, s1)) (hm : (Lit.int .i64 most).wf = true)
    (he : s1.err = 0) (hl0 : 0 ≤ most) (hl1 : (n : Int) ≤ most) (hl : s1.at_ + n ≤ s1.b.length) :
    Calls Try.prog 26 #[rsV A c s, .int .i64 most] w fun e w' => ∃ v, e = .returned (.tuple #[v, rsV A c { s1 with at_ := s1.at_ + n }]) ∧ OwnB w' w.heap.size v ((s1.b.drop s1.at_).take n) ∧ Below w.heap.size w w' := by
  obtain ⟨h1, h2, h3, h4, h5⟩ := h
  obtain ⟨hm1, hm2⟩ := bounds_i64 hm
  have hsb : s1.b = s.b := by have := varR_b s; rw [hv] at this; exact this
  have hsa : s1.at_ ≤ s.b.length := by have := varR_at s h4; rw [hv] at this; exact this
  have hV := fun (w : World) (hh : RsOk w A c s) => refVarR_c A c s w hh
  rw [hv] at hV
  have ht : takeR s1 (n : Int) = ((s1.b.drop s1.at_).take n, { s1 with at_ := s1.at_ + n }) := by
    rw [takeR, if_neg (by omega), if_neg (by omega), if_neg (by omega)]; rfl
  have hT := fun (w : World) (hh : RsOk w A c s1) => refTake_c A c s1 (n : Int) w hh (WalkArith.wf_i64 (by omega))
  rw [ht] at hT
  unfold rsV at hV hT
  simp only [hsb] at hV hT hl
  have HV := Lib.hid hV; clear hV hv ht
  have HT := Lib.hid hT; clear hT
  have hR : ∀ o1 o2, RsOk ((w.alloc o1).alloc o2) A c s := fun o1 o2 => ⟨(h1.alloc o1).alloc o2, h2, h3, h4, h5⟩
  have hR1 : ∀ w1, Below w.heap.size w w1 → RsOk w1 A c s1 := fun w1 hb => ⟨by rw [hsb]; exact h1.below hb, by rw [hsb]; exact h2, h3, by rw [hsb]; exact hsa, by rw [hsb]; exact h5⟩
  have HR := Lib.hid hR; clear hR h1
  have HR1 := Lib.hid hR1; clear hR1
  have e0 : (((s1.err : Nat) : Int) != 0) = false := by rw [bne_eq_false_iff_eq]; omega
  have hl' : (n : Int) ≤ (s.b.length : Int) - (s1.at_ : Int) := by omega
  unfold rsV
  simp only [hsb]
  have HSB := Lib.hid hsb; clear hsb he
  go_enter Try.func26, Try.ntmps26
  go_wp2_with (fail)
  refine (HV.out _ (HR.out _ _)).mono ?_
  rintro e w1 ⟨rfl, hb1⟩
  have z := hb1.size
  simp only [World.size_alloc] at z hb1
  have x0 := box3 ((hb1.block w.heap.size (by omega)).trans (heap2_old w _ _))
  obtain ⟨⟨a0, a1, a2⟩, b0, b1, b2⟩ := x0
  have hB : Below w.heap.size w w1 := (((Below.refl _ _).alloc (Nat.le_refl _) _).alloc (by simp) _).trans (hb1.mono (by omega))
  have z1 : w.heap.size < w1.heap.size := by omega
  have z2 : w.heap.size + 1 < w1.heap.size := by omega
  have hsub := IntWalk.u64_in ((s.b.length : Int) - (s1.at_ : Int)) ⟨by omega, by omega⟩
  go_wp2_with (fail)
  have hBa : Below w.heap.size w (w1.alloc (.cells #[.slice A s.b.length c, .int .i64 (s1.at_ : Int), .int .i64 (s1.err : Int)] 43)) := hB.alloc hB.size _
  refine (HT.out _ (HR1.out _ hBa)).mono ?_
  rintro e w2 ⟨v, rfl, ho, hb2⟩
  have y := hb2.size
  simp only [World.size_alloc] at y hb2 ho
  have x1 := box3 ((hb2.block (w.heap.size + 1) (by omega)).trans ((Below.heap_alloc _ _ _ z2).trans ((hb1.block (w.heap.size + 1) (by omega)).trans (heap2_new w _ _))))
  obtain ⟨⟨d0, d1, d2⟩, f0, f1, f2⟩ := x1
  have hB2 : Below w.heap.size w w2 := hBa.trans (hb2.mono (by omega))
  have HO := Lib.hid ho; clear ho
  go_wp2_with (fail)
  refine bodyPost_ret (v := .tuple #[v, .agg #[.slice A s.b.length c, .int .i64 ((s1.at_ + n : Nat) : Int), .int .i64 (s1.err : Int)]]) (by simp [results, Try.results26, go_sem, d0, d1, d2]) rfl ?_
  refine ⟨v, rfl, ?_, by go_grown⟩
  exact Own.low (Own.setBelow (Own.setBelow (Own.setBelow HO.out (by show w.heap.size + 1 < _; omega) _) (by show w.heap.size + 1 < _; omega) _) (by show w.heap.size + 1 < _; omega) _) (by omega)

theorem refTextR_c (A : Option Addr) (c : Nat) (s : RS) (most : Int) (w : World) (h : RsOk w A c s) (hm : (Lit.int .i64 most).wf = true) :
    Calls Try.prog 26 #[rsV A c s, .int .i64 most] w fun e w' => ∃ v, e = .returned (.tuple #[v, rsV A c (textR s most).2]) ∧ OwnB w' w.heap.size v (textR s most).1 ∧ Below w.heap.size w w' := by
  by_cases h0 : s.err = 0
  · cases hg : varGo (s.b.drop s.at_) 0 with
    | bad e =>
      have hv : varR s = (0, { s with err := e }) := by rw [varR, if_neg (by omega), hg]
      have ht : textR s most = ([], { s with err := e }) := by rw [textR, if_neg (by omega), hg]
      rw [ht]
      refine (refText_no A c s _ 0 most e w h hv hm (.inl ⟨by rcases varGo_err hg with rfl | rfl <;> simp, rfl⟩)).mono ?_
      rintro e w' ⟨rfl, h1⟩
      exact ⟨_, rfl, Own.nil_ _ _ _, h1⟩
    | ok n k =>
      have hv : varR s = (n, { s with at_ := s.at_ + k }) := by rw [varR, if_neg (by omega), hg]
      by_cases hl : most < 0 ∨ most < (n : Int)
      · have ht : textR s most = ([], { s with err := 4 }) := by rw [textR, if_neg (by omega), hg]; exact if_pos hl
        rw [ht]
        refine (refText_no A c s _ n most 4 w h hv hm (by
          rcases Int.lt_or_le most 0 with hq | hq
          · exact .inr (.inl ⟨h0, hq, rfl⟩)
          · exact .inr (.inr (.inl ⟨h0, hq, by omega, rfl⟩)))).mono ?_
        rintro e w' ⟨rfl, h1⟩
        exact ⟨_, rfl, Own.nil_ _ _ _, h1⟩
      · by_cases hs : s.b.length < s.at_ + k + n
        · have ht : textR s most = ([], { s with err := 2 }) := by rw [textR, if_neg (by omega), hg]; exact (if_neg hl).trans (if_pos hs)
          rw [ht]
          refine (refText_no A c s _ n most 2 w h hv hm (.inr (.inr (.inr ⟨h0, by omega, by omega, hs, rfl⟩)))).mono ?_
          rintro e w' ⟨rfl, h1⟩
          exact ⟨_, rfl, Own.nil_ _ _ _, h1⟩
        · have ht : textR s most = ((s.b.drop (s.at_ + k)).take n, { s with at_ := s.at_ + k + n }) := by rw [textR, if_neg (by omega), hg]; exact (if_neg hl).trans (if_neg hs)
          rw [ht]
          exact refText_yes A c s _ n most w h hv hm h0 (by omega) (by omega) (by show s.at_ + k + n ≤ s.b.length; omega)
  · have hv : varR s = (0, s) := if_pos h0
    have ht : textR s most = ([], s) := if_pos h0
    rw [ht]
    refine (refText_no A c s s 0 most s.err w h hv hm (.inl ⟨h0, rfl⟩)).mono ?_
    rintro e w' ⟨rfl, h1⟩
    exact ⟨_, rfl, Own.nil_ _ _ _, h1⟩
end Go.Proofs.Ytacindehajholaa
