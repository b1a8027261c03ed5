/- What the reader of the layer wire does: Take and Text. Conditions: a reader that lies in a block of its own. -/
import Derived.Test.YtacindehajholaaRd3
import Derived.StillTailTactics
namespace Go.Proofs.Ytacindehajholaa
open Go Go.RowKit

def takeR (s : RS) (n : Int) : List UInt8 × RS :=
  if s.err ≠ 0 then ([], s) else if n < 0 then ([], { s with err := 1 })
  else if (s.b.length : Int) - (s.at_ : Int) < n then ([], { s with err := 2 })
  else ((s.b.drop s.at_).take n.toNat, { s with at_ := s.at_ + n.toNat })

set_option maxRecDepth 100000 in
set_option maxHeartbeats 400000 in
theorem Rtake_c (r : Nat) (s : RS) (n : Int) (w : World) (h : Rdr w r s) (hs : (Lit.int .i64 n).wf = true) :
    Calls Try.prog 27 #[.pointer (some ⟨r, 0, none⟩), .int .i64 n] w fun e w' => ∃ v, e = .returned v ∧ OwnB w' w.heap.size v (takeR s n).1 ∧ Rdr w' r (takeR s n).2 ∧ w.grownBy w' (some r) := by
  obtain ⟨A, c, ⟨c0, c1, c2⟩, ⟨f0, f1, f2⟩, hrd, hlc, hcm, hk, hl⟩ := h.open_
  by_cases h0 : s.err = 0
  · have hb : (((s.err : Nat) : Int) != 0) = false := by rw [bne_eq_false_iff_eq]; omega
    rcases Int.lt_or_le n 0 with h1 | h1
    · have e1 : takeR s n = ([], { s with err := 1 }) := by rw [takeR, if_neg (by omega), if_pos h1]
      rw [e1]
      clear e1
      have H0 := Lib.hid h0; clear h0
      go_enter Try.func27, Try.ntmps27
      go_wp2
      go_ret
      exact ⟨_, rfl, Own.nil_ _ _ _, setErr_only h 0 1⟩
    · obtain ⟨m, rfl⟩ := Int.eq_ofNat_of_zero_le h1
      by_cases hsh : (s.b.length : Int) - (s.at_ : Int) < (m : Int)
      · have e1 : takeR s m = ([], { s with err := 2 }) := by rw [takeR, if_neg (by omega), if_neg (by omega), if_pos hsh]
        rw [e1]
        clear e1
        have H0 := Lib.hid h0; clear h0
        go_enter Try.func27, Try.ntmps27
        go_wp2
        go_quiet (fail)
        go_wp2
        go_ret
        exact ⟨_, rfl, Own.nil_ _ _ _, setErr_only h _ 2⟩
      · have e1 : takeR s m = ((s.b.drop s.at_).take m, { s with at_ := s.at_ + m }) := by rw [takeR, if_neg (by omega), if_neg (by omega), if_neg hsh]; rfl
        have hsh' : (m : Int) ≤ (s.b.length : Int) - (s.at_ : Int) := by omega
        have H1 := Lib.hid e1; clear e1
        have H0 := Lib.hid h0; clear h0
        clear hsh
        go_enter Try.func27, Try.ntmps27
        go_wp2
        go_quiet (fail)
        go_wp2
        have hw1 : IntKind.i64.wrap ((s.at_ : Int) + (m : Int)) = (s.at_ : Int) + (m : Int) := IntWalk.i64_in _ ⟨by omega, by omega⟩
        have hw2 : (s.at_ : Int) + (m : Int) ≤ (c : Int) := by omega
        have hw3 : (s.at_ : Int) ≤ (s.at_ : Int) + (m : Int) := by omega
        have hw4 : (0 : Int) ≤ (s.at_ : Int) := by omega
        refine wp_region_still_tail 15 (by kernel_rfl) (by kernel_rfl) ?_
        simp only [List.take_succ_cons, List.take_zero, List.drop_succ_cons, List.drop_zero]
        change wpStill _ _ (w.drewN (nq + 1)) _ _ _
        repeat still_step
        refine wpStill_nil ?_
        change wpList _ _ _ _ _ (w.drewN (nq + 1))
        refine wpList_cloneB _ rfl (.tmp 52) rfl _ _ _ ((s.b.drop s.at_).take m) rfl ?_ ?_ ?_ ?_
        · rw [List.length_take, List.length_drop]; omega
        · rw [List.map_take, List.map_drop]
          exact ((hrd.drewN (nq + 1)).cut (by rw [List.length_map]) hk hlc).take m
        · omega
        · intro A' c' w2 g1 g2 g3 g4 g5 g6
          have hr2 : Rdr w2 r s := (h.drewN (nq + 1)).below g2
          have hg2 : w.grownBy w2 (some r) := grownBy_of_below (a := w) (w := w2) ⟨g2.os, g2.tape, g2.output, g2.size, g2.block⟩ _
          obtain ⟨A2, c2', ⟨d0, d1, d2⟩, ⟨e0, e1, e2⟩, _, _, _, _, _⟩ := hr2.open_
          have G1 := Lib.hid g1; clear g1
          have G2 := Lib.hid g2; clear g2
          have G5 := Lib.hid g5; clear g5
          have G6 := Lib.hid g6; clear g6
          clear c0 c1 c2 f0 f1 f2
          generalize (if c = s.at_ then A else Option.map (fun x => x.add s.at_) A) = A9
          have em : ((s.at_ : Int) + (m : Int)).toNat - s.at_ = m := by omega
          have G1' := G1.out
          rw [em] at G1'
          rw [em]
          have G3 := Lib.hid G1'; clear G1'
          clear G1 em g3 g4
          go_wp2
          go_ret
          rw [H1.out]
          refine ⟨_, rfl, ?_, ?_, ?_⟩
          · exact Own.setBelow (p := ⟨r, 1, none⟩) (show OwnB w2 w.heap.size _ _ from G3.out) h.lt _
          · have := hr2.setAt (s.at_ + m) (by omega)
            rw [show ((s.at_ + m : Nat) : Int) = (s.at_ : Int) + (m : Int) by omega] at this
            exact this
          · exact only_trans hg2 (only_set r 1 _)
  · have hb : (((s.err : Nat) : Int) != 0) = true := by rw [bne_iff_ne]; omega
    have e1 : takeR s n = ([], s) := if_pos h0
    rw [e1]
    clear e1
    have H0 := Lib.hid h0; clear h0
    go_enter Try.func27, Try.ntmps27
    go_wp2
    go_ret
    exact ⟨_, rfl, Own.nil_ _ _ _, h, World.grownBy.refl _ _⟩

def textR (s : RS) (most : Int) : List UInt8 × RS :=
  if s.err ≠ 0 then ([], s) else match varGo (s.b.drop s.at_) 0 with
    | .bad e => ([], { s with err := e })
    | .ok n k => if most < 0 ∨ most < (n : Int) then ([], { s with err := 4 })
      else if s.b.length < s.at_ + k + n then ([], { s with err := 2 })
      else ((s.b.drop (s.at_ + k)).take n, { s with at_ := s.at_ + k + n })


theorem setAt_back {w : World} {r : Nat} {s : RS} (k : Nat) (h : Rdr w r s) (q : Nat) (hk : k ≤ s.b.length) : Rdr ((w.drewN q).setCell ⟨r, 1, none⟩ (.int .i64 (k : Int))) r { s with at_ := k } ∧ w.grownBy ((w.drewN q).setCell ⟨r, 1, none⟩ (.int .i64 (k : Int))) (some r) :=
  ⟨(h.drewN q).setAt k hk, only_setD q r 1 _⟩

set_option maxRecDepth 100000 in
set_option maxHeartbeats 400000 in
theorem Rtext_bad (r : Nat) (s s1 : RS) (n : Nat) (most : Int) (w : World) (h : Rdr w r s) (hv : varR s = (n, s1)) (he : s1.err ≠ 0) :
    Calls Try.prog 25 #[.pointer (some ⟨r, 0, none⟩), .int .i64 most] w fun e w' => e = .returned (.slice none 0 0) ∧ Rdr w' r { s1 with at_ := s.at_ } ∧ w.grownBy w' (some r) := by
  have hV := Rvar_c r s w h
  rw [hv] at hV
  have HV := Lib.hid hV; clear hV
  have hsb : s1.b = s.b := by
    have := congrArg (fun x => x.2.b) hv
    simp only [varR] at this
    rw [← this]
    split
    · rfl
    · split <;> rfl
  obtain ⟨A, c, ⟨c0, c1, c2⟩, ⟨f0, f1, f2⟩, hrd, hlc, hcm, hk, hl⟩ := h.open_
  have hb : (((s1.err : Nat) : Int) != 0) = true := by rw [bne_iff_ne]; omega
  have HS := Lib.hid hsb; clear hsb
  clear he hv
  go_enter Try.func25, Try.ntmps25
  go_wp2_with (first | (go_at_call 10; refine HV.out.mono ?_; rintro e w1 ⟨rfl, hr1, hg1⟩; obtain ⟨A1, c1', ⟨d0, d1, d2⟩, ⟨e0, e1, e2⟩, _, _, _, _, _⟩ := hr1.open_; clear c0 c1 c2 f0 f1 f2))
  go_ret
  exact ⟨rfl, hr1.setAt s.at_ (by rw [HS.out]; exact hk), only_trans hg1 (only_set r 1 _)⟩

set_option maxRecDepth 100000 in
set_option maxHeartbeats 400000 in
theorem Rtext_long (r : Nat) (s s1 : RS) (n : Nat) (most : Int) (w : World) (h : Rdr w r s) (hv : varR s = (n, s1)) (he : s1.err = 0) (hm : (Lit.int .i64 most).wf = true) (hlong : most < 0 ∨ most < (n : Int)) :
    Calls Try.prog 25 #[.pointer (some ⟨r, 0, none⟩), .int .i64 most] w fun e w' => e = .returned (.slice none 0 0) ∧ Rdr w' r { s1 with at_ := s.at_, err := 4 } ∧ w.grownBy w' (some r) := by
  have hV := Rvar_c r s w h
  rw [hv] at hV
  have HV := Lib.hid hV; clear hV
  have hsb : s1.b = s.b := by
    have := congrArg (fun x => x.2.b) hv
    simp only [varR] at this
    rw [← this]
    split
    · rfl
    · split <;> rfl
  obtain ⟨A, c, ⟨c0, c1, c2⟩, ⟨f0, f1, f2⟩, hrd, hlc, hcm, hk, hl⟩ := h.open_
  have hb : (((s1.err : Nat) : Int) != 0) = false := by rw [bne_eq_false_iff_eq]; omega
  have HS := Lib.hid hsb; clear hsb
  obtain ⟨hm1, hm2⟩ := bounds_i64 hm
  clear he hv
  have fin : ∀ w1, Rdr w1 r s1 → w.grownBy w1 (some r) → Rdr ((w1.setCell ⟨r, 2, none⟩ (.int .i64 4)).setCell ⟨r, 1, none⟩ (.int .i64 (s.at_ : Int))) r { s1 with at_ := s.at_, err := 4 } ∧ w.grownBy ((w1.setCell ⟨r, 2, none⟩ (.int .i64 4)).setCell ⟨r, 1, none⟩ (.int .i64 (s.at_ : Int))) (some r) := fun w1 h1 h2 =>
    ⟨(h1.setErr 4).setAt s.at_ (by show _ ≤ s1.b.length; rw [HS.out]; exact hk), only_trans h2 (only_trans (only_set r 2 _) (only_set r 1 _))⟩
  have FIN := Lib.hid fin; clear fin
  rcases Int.lt_or_le most 0 with h0 | h0
  · clear hlong
    go_enter Try.func25, Try.ntmps25
    go_wp2_with (first | (go_at_call 10; refine HV.out.mono ?_; rintro e w1 ⟨rfl, hr1, hg1⟩; obtain ⟨A1, c1', ⟨d0, d1, d2⟩, ⟨e0, e1, e2⟩, _, _, _, _, _⟩ := hr1.open_; clear c0 c1 c2 f0 f1 f2))
    go_ret
    exact ⟨rfl, FIN.out _ hr1 hg1⟩
  · have h1 : most < (n : Int) := by omega
    clear hlong
    go_enter Try.func25, Try.ntmps25
    go_wp2_with (first | (go_at_call 10; refine HV.out.mono ?_; rintro e w1 ⟨rfl, hr1, hg1⟩; obtain ⟨A1, c1', ⟨d0, d1, d2⟩, ⟨e0, e1, e2⟩, _, _, _, _, _⟩ := hr1.open_; clear c0 c1 c2 f0 f1 f2))
    go_ret
    exact ⟨rfl, FIN.out _ hr1 hg1⟩

set_option maxRecDepth 100000 in
set_option maxHeartbeats 400000 in
theorem Rtext_short (r : Nat) (s s1 : RS) (n : Nat) (most : Int) (w : World) (h : Rdr w r s) (hv : varR s = (n, s1)) (he : s1.err = 0) (hm : (Lit.int .i64 most).wf = true) (h0 : 0 ≤ most) (h1 : (n : Int) ≤ most) (hs : s1.b.length < s1.at_ + n) :
    Calls Try.prog 25 #[.pointer (some ⟨r, 0, none⟩), .int .i64 most] w fun e w' => e = .returned (.slice none 0 0) ∧ Rdr w' r { s1 with at_ := s.at_, err := 2 } ∧ w.grownBy w' (some r) := by
  have hV := Rvar_c r s w h
  rw [hv] at hV
  have HV := Lib.hid hV; clear hV
  have hsb : s1.b = s.b := by
    have := congrArg (fun x => x.2.b) hv
    simp only [varR] at this
    rw [← this]
    split
    · rfl
    · split <;> rfl
  obtain ⟨A, c, ⟨c0, c1, c2⟩, ⟨f0, f1, f2⟩, hrd, hlc, hcm, hk, hl⟩ := h.open_
  have hb : (((s1.err : Nat) : Int) != 0) = false := by rw [bne_eq_false_iff_eq]; omega
  have HS := Lib.hid hsb; clear hsb
  obtain ⟨hm1, hm2⟩ := bounds_i64 hm
  clear he hv
  have fin : ∀ w1 q, Rdr w1 r s1 → w.grownBy w1 (some r) → Rdr (((w1.drewN q).setCell ⟨r, 2, none⟩ (.int .i64 2)).setCell ⟨r, 1, none⟩ (.int .i64 (s.at_ : Int))) r { s1 with at_ := s.at_, err := 2 } ∧ w.grownBy (((w1.drewN q).setCell ⟨r, 2, none⟩ (.int .i64 2)).setCell ⟨r, 1, none⟩ (.int .i64 (s.at_ : Int))) (some r) := fun w1 q h1 h2 =>
    ⟨((h1.drewN q).setErr 2).setAt s.at_ (by show _ ≤ s1.b.length; rw [HS.out]; exact hk), only_trans h2 (only_trans (only_setD q r 2 _) (only_set r 1 _))⟩
  have FIN := Lib.hid fin; clear fin
  go_enter Try.func25, Try.ntmps25
  go_wp2_with (first | (go_at_call 10; refine HV.out.mono ?_; rintro e w1 ⟨rfl, hr1, hg1⟩; obtain ⟨A1, c1', ⟨d0, d1, d2⟩, ⟨e0, e1, e2⟩, _, _, _, hk1, hl1⟩ := hr1.open_; have hw := IntWalk.u64_in ((s1.b.length : Int) - (s1.at_ : Int)) ⟨by omega, by omega⟩; clear c0 c1 c2 f0 f1 f2))
  go_quiet (fail)
  go_wp2
  go_ret
  exact ⟨rfl, FIN.out _ _ hr1 hg1⟩

set_option maxRecDepth 100000 in
set_option maxHeartbeats 400000 in
theorem Rtext_take (r : Nat) (s s1 : RS) (n : Nat) (most : Int) (w : World) (h : Rdr w r s) (hv : varR s = (n, s1)) (he : s1.err = 0) (hm : (Lit.int .i64 most).wf = true) (h0 : 0 ≤ most) (h1 : (n : Int) ≤ most) (hs : s1.at_ + n ≤ s1.b.length) :
    Calls Try.prog 25 #[.pointer (some ⟨r, 0, none⟩), .int .i64 most] w fun e w' => ∃ v, e = .returned v ∧ OwnB w' w.heap.size v ((s1.b.drop s1.at_).take n) ∧ Rdr w' r { s1 with at_ := s1.at_ + n } ∧ w.grownBy w' (some r) := by
  have hV := Rvar_c r s w h
  rw [hv] at hV
  have HV := Lib.hid hV; clear hV
  obtain ⟨A, c, ⟨c0, c1, c2⟩, ⟨f0, f1, f2⟩, hrd, hlc, hcm, hk, hl⟩ := h.open_
  have hb : (((s1.err : Nat) : Int) != 0) = false := by rw [bne_eq_false_iff_eq]; omega
  obtain ⟨hm1, hm2⟩ := bounds_i64 hm
  have ht : takeR s1 (n : Int) = ((s1.b.drop s1.at_).take n, { s1 with at_ := s1.at_ + n }) := by
    rw [takeR, if_neg (by omega), if_neg (by omega), if_neg (by omega)]; rfl
  have HT := Lib.hid ht; clear ht
  clear he hv
  go_enter Try.func25, Try.ntmps25
  go_wp2_with (first | (go_at_call 10; refine HV.out.mono ?_; rintro e w1 ⟨rfl, hr1, hg1⟩; obtain ⟨A1, c1', ⟨d0, d1, d2⟩, ⟨e0, e1, e2⟩, _, _, _, hk1, hl1⟩ := hr1.open_; have hw := IntWalk.u64_in ((s1.b.length : Int) - (s1.at_ : Int)) ⟨by omega, by omega⟩; clear c0 c1 c2 f0 f1 f2))
  go_quiet (fail)
  go_wp2_with (fail)
  refine (Rtake_c r s1 (n : Int) _ (hr1.drewN _) (WalkArith.wf_i64 (by omega))).mono ?_
  rintro e w2 ⟨v, rfl, ho, hr2, hg2⟩
  rw [HT.out] at ho hr2
  have HO := Lib.hid ho; clear ho
  have HR2 := Lib.hid hr2; clear hr2
  go_wp2
  go_ret
  exact ⟨_, rfl, Own.low HO.out hg1.size, HR2.out, only_trans hg1 (only_of_drewN hg2)⟩

theorem Rtext_c (r : Nat) (s : RS) (most : Int) (w : World) (h : Rdr w r s) (hm : (Lit.int .i64 most).wf = true) :
    Calls Try.prog 25 #[.pointer (some ⟨r, 0, none⟩), .int .i64 most] w fun e w' => ∃ v, e = .returned v ∧ OwnB w' w.heap.size v (textR s most).1 ∧ Rdr w' r (textR s most).2 ∧ w.grownBy w' (some r) := by
  by_cases h0 : s.err = 0
  · cases hg : varGo (s.b.drop s.at_) 0 with
    | bad e =>
      have hv : varR s = (0, { s with err := e }) := by rw [varR, if_neg (by omega), hg]
      have ht : textR s most = ([], { s with err := e }) := by rw [textR, if_neg (by omega), hg]
      rw [ht]
      refine (Rtext_bad r s _ 0 most w h hv (by rcases varGo_err hg with rfl | rfl <;> simp)).mono ?_
      rintro e w' ⟨rfl, h1, h2⟩
      exact ⟨_, rfl, Own.nil_ _ _ _, h1, h2⟩
    | ok n k =>
      have hv : varR s = (n, { s with at_ := s.at_ + k }) := by rw [varR, if_neg (by omega), hg]
      by_cases hl : most < 0 ∨ most < (n : Int)
      · have ht : textR s most = ([], { s with err := 4 }) := by rw [textR, if_neg (by omega), hg]; exact if_pos hl
        rw [ht]
        refine (Rtext_long r s _ n most w h hv h0 hm hl).mono ?_
        rintro e w' ⟨rfl, h1, h2⟩
        exact ⟨_, rfl, Own.nil_ _ _ _, h1, h2⟩
      · by_cases hs : s.b.length < s.at_ + k + n
        · have ht : textR s most = ([], { s with err := 2 }) := by rw [textR, if_neg (by omega), hg]; exact (if_neg hl).trans (if_pos hs)
          rw [ht]
          refine (Rtext_short r s _ n most w h hv h0 hm (by omega) (by omega) hs).mono ?_
          rintro e w' ⟨rfl, h1, h2⟩
          exact ⟨_, rfl, Own.nil_ _ _ _, h1, h2⟩
        · have ht : textR s most = ((s.b.drop (s.at_ + k)).take n, { s with at_ := s.at_ + k + n }) := by rw [textR, if_neg (by omega), hg]; exact (if_neg hl).trans (if_neg hs)
          rw [ht]
          exact Rtext_take r s _ n most w h hv h0 hm (by omega) (by omega) (by show s.at_ + k + n ≤ s.b.length; omega)
  · have hv : varR s = (0, s) := if_pos h0
    have ht : textR s most = ([], s) := if_pos h0
    rw [ht]
    refine (Rtext_bad r s s 0 most w h hv h0).mono ?_
    rintro e w' ⟨rfl, h1, h2⟩
    exact ⟨_, rfl, Own.nil_ _ _ _, h1, h2⟩

end Go.Proofs.Ytacindehajholaa
