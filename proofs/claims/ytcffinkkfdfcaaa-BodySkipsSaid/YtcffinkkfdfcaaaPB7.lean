/- Parts one behind the other: What the reader of the layer wire does: Take and Text; What the reference's reader does: the same as the layer's; Plain law: what is read as a number is just what is laid for it, and the other way round; What the reference's reader does: Var, Take, Text, End; What tlv.clone answers: the item in memory of its own. Conditions: as told at each. -/
import Derived.Test.YtcffinkkfdfcaaaPB6
import Derived.StillTailTactics
import Derived.Test.YtcffinkkfdfcaaaPB2
import Derived.Test.YtcffinkkfdfcaaaPB3

set_option linter.unusedVariables false
set_option linter.unusedSimpArgs false
/- What the reader of the layer wire does: Take and Text. Conditions: a reader that lies in a block of its own. -/
namespace Go.Proofs.Ytcffinkkfdfcaaa
open Go Go.RowKit

def takeR (s : RS) (n : Int) : List UInt8 × RS :=
  if s.err ≠ 0 then ([], s) else if n < 0 then ([], { s with err := 1 })
  else if (s.b.length : Int) - (s.at_ : Int) < n then ([], { s with err := 2 })
  else ((s.b.drop s.at_).take n.toNat, { s with at_ := s.at_ + n.toNat })

set_option maxRecDepth 100000 in
set_option maxHeartbeats 400000 in
theorem Rtake_c (r : Nat) (s : RS) (n : Int) (w : World) (h : Rdr w r s) (hs : (Lit.int .i64 n).wf = true) :
    Calls Try.prog 78 #[.pointer (some ⟨r, 0, none⟩), .int .i64 n] w fun e w' => ∃ v, e = .returned v ∧ OwnB w' w.heap.size v (takeR s n).1 ∧ Rdr w' r (takeR s n).2 ∧ w.grownBy w' (some r) := by
  obtain ⟨A, c, ⟨c0, c1, c2⟩, ⟨f0, f1, f2⟩, hrd, hlc, hcm, hk, hl⟩ := h.open_
  by_cases h0 : s.err = 0
  · have hb : (((s.err : Nat) : Int) != 0) = false := by rw [bne_eq_false_iff_eq]; omega
    rcases Int.lt_or_le n 0 with h1 | h1
    · have e1 : takeR s n = ([], { s with err := 1 }) := by rw [takeR, if_neg (by omega), if_pos h1]
      rw [e1]
      clear e1
      have H0 := Lib.hid h0; clear h0
      go_enter Try.func78, Try.ntmps78
      go_wp2
      go_ret
      exact ⟨_, rfl, Own.nil_ _ _ _, setErr_only h 0 1⟩
    · obtain ⟨m, rfl⟩ := Int.eq_ofNat_of_zero_le h1
      by_cases hsh : (s.b.length : Int) - (s.at_ : Int) < (m : Int)
      · have e1 : takeR s m = ([], { s with err := 2 }) := by rw [takeR, if_neg (by omega), if_neg (by omega), if_pos hsh]
        rw [e1]
        clear e1
        have H0 := Lib.hid h0; clear h0
        go_enter Try.func78, Try.ntmps78
        go_wp2
        go_quiet (fail)
        go_wp2
        go_ret
        exact ⟨_, rfl, Own.nil_ _ _ _, setErr_only h _ 2⟩
      · have e1 : takeR s m = ((s.b.drop s.at_).take m, { s with at_ := s.at_ + m }) := by rw [takeR, if_neg (by omega), if_neg (by omega), if_neg hsh]; rfl
        have hsh' : (m : Int) ≤ (s.b.length : Int) - (s.at_ : Int) := by omega
        have H1 := Lib.hid e1; clear e1
        have H0 := Lib.hid h0; clear h0
        clear hsh
        go_enter Try.func78, Try.ntmps78
        go_wp2
        go_quiet (fail)
        go_wp2
        have hw1 : IntKind.i64.wrap ((s.at_ : Int) + (m : Int)) = (s.at_ : Int) + (m : Int) := IntWalk.i64_in _ ⟨by omega, by omega⟩
        have hw2 : (s.at_ : Int) + (m : Int) ≤ (c : Int) := by omega
        have hw3 : (s.at_ : Int) ≤ (s.at_ : Int) + (m : Int) := by omega
        have hw4 : (0 : Int) ≤ (s.at_ : Int) := by omega
        refine wp_region_still_tail 15 (by kernel_rfl) (by kernel_rfl) ?_
        simp only [List.take_succ_cons, List.take_zero, List.drop_succ_cons, List.drop_zero]
        change wpStill _ _ (w.drewN (nq + 1)) _ _ _
        repeat still_step
        refine wpStill_nil ?_
        change wpList _ _ _ _ _ (w.drewN (nq + 1))
        refine wpList_cloneB _ rfl (.tmp 52) rfl _ _ _ ((s.b.drop s.at_).take m) rfl ?_ ?_ ?_ ?_
        · rw [List.length_take, List.length_drop]; omega
        · rw [List.map_take, List.map_drop]
          exact ((hrd.drewN (nq + 1)).cut (by rw [List.length_map]) hk hlc).take m
        · omega
        · intro A' c' w2 g1 g2 g3 g4 g5 g6
          have hr2 : Rdr w2 r s := (h.drewN (nq + 1)).below g2
          have hg2 : w.grownBy w2 (some r) := grownBy_of_below (a := w) (w := w2) ⟨g2.os, g2.tape, g2.output, g2.size, g2.block⟩ _
          obtain ⟨A2, c2', ⟨d0, d1, d2⟩, ⟨e0, e1, e2⟩, _, _, _, _, _⟩ := hr2.open_
          have G1 := Lib.hid g1; clear g1
          have G2 := Lib.hid g2; clear g2
          have G5 := Lib.hid g5; clear g5
          have G6 := Lib.hid g6; clear g6
          clear c0 c1 c2 f0 f1 f2
          generalize (if c = s.at_ then A else Option.map (fun x => x.add s.at_) A) = A9
          have em : ((s.at_ : Int) + (m : Int)).toNat - s.at_ = m := by omega
          have G1' := G1.out
          rw [em] at G1'
          rw [em]
          have G3 := Lib.hid G1'; clear G1'
          clear G1 em g3 g4
          go_wp2
          go_ret
          rw [H1.out]
          refine ⟨_, rfl, ?_, ?_, ?_⟩
          · exact Own.setBelow (p := ⟨r, 1, none⟩) (show OwnB w2 w.heap.size _ _ from G3.out) h.lt _
          · have := hr2.setAt (s.at_ + m) (by omega)
            rw [show ((s.at_ + m : Nat) : Int) = (s.at_ : Int) + (m : Int) by omega] at this
            exact this
          · exact only_trans hg2 (only_set r 1 _)
  · have hb : (((s.err : Nat) : Int) != 0) = true := by rw [bne_iff_ne]; omega
    have e1 : takeR s n = ([], s) := if_pos h0
    rw [e1]
    clear e1
    have H0 := Lib.hid h0; clear h0
    go_enter Try.func78, Try.ntmps78
    go_wp2
    go_ret
    exact ⟨_, rfl, Own.nil_ _ _ _, h, World.grownBy.refl _ _⟩

def textR (s : RS) (most : Int) : List UInt8 × RS :=
  if s.err ≠ 0 then ([], s) else match varGo (s.b.drop s.at_) 0 with
    | .bad e => ([], { s with err := e })
    | .ok n k => if most < 0 ∨ most < (n : Int) then ([], { s with err := 4 })
      else if s.b.length < s.at_ + k + n then ([], { s with err := 2 })
      else ((s.b.drop (s.at_ + k)).take n, { s with at_ := s.at_ + k + n })


theorem setAt_back {w : World} {r : Nat} {s : RS} (k : Nat) (h : Rdr w r s) (q : Nat) (hk : k ≤ s.b.length) : Rdr ((w.drewN q).setCell ⟨r, 1, none⟩ (.int .i64 (k : Int))) r { s with at_ := k } ∧ w.grownBy ((w.drewN q).setCell ⟨r, 1, none⟩ (.int .i64 (k : Int))) (some r) :=
  ⟨(h.drewN q).setAt k hk, only_setD q r 1 _⟩

set_option maxRecDepth 100000 in
set_option maxHeartbeats 400000 in
theorem Rtext_bad (r : Nat) (s s1 : RS) (n : Nat) (most : Int) (w : World) (h : Rdr w r s) (hv : varR s = (n, s1)) (he : s1.err ≠ 0) :
    Calls Try.prog 85 #[.pointer (some ⟨r, 0, none⟩), .int .i64 most] w fun e w' => e = .returned (.slice none 0 0) ∧ Rdr w' r { s1 with at_ := s.at_ } ∧ w.grownBy w' (some r) := by
  have hV := Rvar_c r s w h
  rw [hv] at hV
  have HV := Lib.hid hV; clear hV
  have hsb : s1.b = s.b := by
    have := congrArg (fun x => x.2.b) hv
    simp only [varR] at this
    rw [← this]
    split
    · rfl
    · split <;> rfl
  obtain ⟨A, c, ⟨c0, c1, c2⟩, ⟨f0, f1, f2⟩, hrd, hlc, hcm, hk, hl⟩ := h.open_
  have hb : (((s1.err : Nat) : Int) != 0) = true := by rw [bne_iff_ne]; omega
  have HS := Lib.hid hsb; clear hsb
  clear he hv
  go_enter Try.func85, Try.ntmps85
  go_wp2_with (first | (go_at_call 83; refine HV.out.mono ?_; rintro e w1 ⟨rfl, hr1, hg1⟩; obtain ⟨A1, c1', ⟨d0, d1, d2⟩, ⟨e0, e1, e2⟩, _, _, _, _, _⟩ := hr1.open_; clear c0 c1 c2 f0 f1 f2))
  go_ret
  exact ⟨rfl, hr1.setAt s.at_ (by rw [HS.out]; exact hk), only_trans hg1 (only_set r 1 _)⟩

set_option maxRecDepth 100000 in
set_option maxHeartbeats 400000 in
theorem Rtext_long (r : Nat) (s s1 : RS) (n : Nat) (most : Int) (w : World) (h : Rdr w r s) (hv : varR s = (n, s1)) (he : s1.err = 0) (hm : (Lit.int .i64 most).wf = true) (hlong : most < 0 ∨ most < (n : Int)) :
    Calls Try.prog 85 #[.pointer (some ⟨r, 0, none⟩), .int .i64 most] w fun e w' => e = .returned (.slice none 0 0) ∧ Rdr w' r { s1 with at_ := s.at_, err := 4 } ∧ w.grownBy w' (some r) := by
  have hV := Rvar_c r s w h
  rw [hv] at hV
  have HV := Lib.hid hV; clear hV
  have hsb : s1.b = s.b := by
    have := congrArg (fun x => x.2.b) hv
    simp only [varR] at this
    rw [← this]
    split
    · rfl
    · split <;> rfl
  obtain ⟨A, c, ⟨c0, c1, c2⟩, ⟨f0, f1, f2⟩, hrd, hlc, hcm, hk, hl⟩ := h.open_
  have hb : (((s1.err : Nat) : Int) != 0) = false := by rw [bne_eq_false_iff_eq]; omega
  have HS := Lib.hid hsb; clear hsb
  obtain ⟨hm1, hm2⟩ := bounds_i64 hm
  clear he hv
  have fin : ∀ w1, Rdr w1 r s1 → w.grownBy w1 (some r) → Rdr ((w1.setCell ⟨r, 2, none⟩ (.int .i64 4)).setCell ⟨r, 1, none⟩ (.int .i64 (s.at_ : Int))) r { s1 with at_ := s.at_, err := 4 } ∧ w.grownBy ((w1.setCell ⟨r, 2, none⟩ (.int .i64 4)).setCell ⟨r, 1, none⟩ (.int .i64 (s.at_ : Int))) (some r) := fun w1 h1 h2 =>
    ⟨(h1.setErr 4).setAt s.at_ (by show _ ≤ s1.b.length; rw [HS.out]; exact hk), only_trans h2 (only_trans (only_set r 2 _) (only_set r 1 _))⟩
  have FIN := Lib.hid fin; clear fin
  rcases Int.lt_or_le most 0 with h0 | h0
  · clear hlong
    go_enter Try.func85, Try.ntmps85
    go_wp2_with (first | (go_at_call 83; refine HV.out.mono ?_; rintro e w1 ⟨rfl, hr1, hg1⟩; obtain ⟨A1, c1', ⟨d0, d1, d2⟩, ⟨e0, e1, e2⟩, _, _, _, _, _⟩ := hr1.open_; clear c0 c1 c2 f0 f1 f2))
    go_ret
    exact ⟨rfl, FIN.out _ hr1 hg1⟩
  · have h1 : most < (n : Int) := by omega
    clear hlong
    go_enter Try.func85, Try.ntmps85
    go_wp2_with (first | (go_at_call 83; refine HV.out.mono ?_; rintro e w1 ⟨rfl, hr1, hg1⟩; obtain ⟨A1, c1', ⟨d0, d1, d2⟩, ⟨e0, e1, e2⟩, _, _, _, _, _⟩ := hr1.open_; clear c0 c1 c2 f0 f1 f2))
    go_ret
    exact ⟨rfl, FIN.out _ hr1 hg1⟩

set_option maxRecDepth 100000 in
set_option maxHeartbeats 400000 in
theorem Rtext_short (r : Nat) (s s1 : RS) (n : Nat) (most : Int) (w : World) (h : Rdr w r s) (hv : varR s = (n, s1)) (he : s1.err = 0) (hm : (Lit.int .i64 most).wf = true) (h0 : 0 ≤ most) (h1 : (n : Int) ≤ most) (hs : s1.b.length < s1.at_ + n) :
    Calls Try.prog 85 #[.pointer (some ⟨r, 0, none⟩), .int .i64 most] w fun e w' => e = .returned (.slice none 0 0) ∧ Rdr w' r { s1 with at_ := s.at_, err := 2 } ∧ w.grownBy w' (some r) := by
  have hV := Rvar_c r s w h
  rw [hv] at hV
  have HV := Lib.hid hV; clear hV
  have hsb : s1.b = s.b := by
    have := congrArg (fun x => x.2.b) hv
    simp only [varR] at this
    rw [← this]
    split
    · rfl
    · split <;> rfl
  obtain ⟨A, c, ⟨c0, c1, c2⟩, ⟨f0, f1, f2⟩, hrd, hlc, hcm, hk, hl⟩ := h.open_
  have hb : (((s1.err : Nat) : Int) != 0) = false := by rw [bne_eq_false_iff_eq]; omega
  have HS := Lib.hid hsb; clear hsb
  obtain ⟨hm1, hm2⟩ := bounds_i64 hm
  clear he hv
  have fin : ∀ w1 q, Rdr w1 r s1 → w.grownBy w1 (some r) → Rdr (((w1.drewN q).setCell ⟨r, 2, none⟩ (.int .i64 2)).setCell ⟨r, 1, none⟩ (.int .i64 (s.at_ : Int))) r { s1 with at_ := s.at_, err := 2 } ∧ w.grownBy (((w1.drewN q).setCell ⟨r, 2, none⟩ (.int .i64 2)).setCell ⟨r, 1, none⟩ (.int .i64 (s.at_ : Int))) (some r) := fun w1 q h1 h2 =>
    ⟨((h1.drewN q).setErr 2).setAt s.at_ (by show _ ≤ s1.b.length; rw [HS.out]; exact hk), only_trans h2 (only_trans (only_setD q r 2 _) (only_set r 1 _))⟩
  have FIN := Lib.hid fin; clear fin
  go_enter Try.func85, Try.ntmps85
  go_wp2_with (first | (go_at_call 83; refine HV.out.mono ?_; rintro e w1 ⟨rfl, hr1, hg1⟩; obtain ⟨A1, c1', ⟨d0, d1, d2⟩, ⟨e0, e1, e2⟩, _, _, _, hk1, hl1⟩ := hr1.open_; have hw := IntWalk.u64_in ((s1.b.length : Int) - (s1.at_ : Int)) ⟨by omega, by omega⟩; clear c0 c1 c2 f0 f1 f2))
  go_quiet (fail)
  go_wp2
  go_ret
  exact ⟨rfl, FIN.out _ _ hr1 hg1⟩

set_option maxRecDepth 100000 in
set_option maxHeartbeats 400000 in
theorem Rtext_take (r : Nat) (s s1 : RS) (n : Nat) (most : Int) (w : World) (h : Rdr w r s) (hv : varR s = (n, s1)) (he : s1.err = 0) (hm : (Lit.int .i64 most).wf = true) (h0 : 0 ≤ most) (h1 : (n : Int) ≤ most) (hs : s1.at_ + n ≤ s1.b.length) :
    Calls Try.prog 85 #[.pointer (some ⟨r, 0, none⟩), .int .i64 most] w fun e w' => ∃ v, e = .returned v ∧ OwnB w' w.heap.size v ((s1.b.drop s1.at_).take n) ∧ Rdr w' r { s1 with at_ := s1.at_ + n } ∧ w.grownBy w' (some r) := by
  have hV := Rvar_c r s w h
  rw [hv] at hV
  have HV := Lib.hid hV; clear hV
  obtain ⟨A, c, ⟨c0, c1, c2⟩, ⟨f0, f1, f2⟩, hrd, hlc, hcm, hk, hl⟩ := h.open_
  have hb : (((s1.err : Nat) : Int) != 0) = false := by rw [bne_eq_false_iff_eq]; omega
  obtain ⟨hm1, hm2⟩ := bounds_i64 hm
  have ht : takeR s1 (n : Int) = ((s1.b.drop s1.at_).take n, { s1 with at_ := s1.at_ + n }) := by
    rw [takeR, if_neg (by omega), if_neg (by omega), if_neg (by omega)]; rfl
  have HT := Lib.hid ht; clear ht
  clear he hv
  go_enter Try.func85, Try.ntmps85
  go_wp2_with (first | (go_at_call 83; refine HV.out.mono ?_; rintro e w1 ⟨rfl, hr1, hg1⟩; obtain ⟨A1, c1', ⟨d0, d1, d2⟩, ⟨e0, e1, e2⟩, _, _, _, hk1, hl1⟩ := hr1.open_; have hw := IntWalk.u64_in ((s1.b.length : Int) - (s1.at_ : Int)) ⟨by omega, by omega⟩; clear c0 c1 c2 f0 f1 f2))
  go_quiet (fail)
  go_wp2_with (fail)
  refine (Rtake_c r s1 (n : Int) _ (hr1.drewN _) (WalkArith.wf_i64 (by omega))).mono ?_
  rintro e w2 ⟨v, rfl, ho, hr2, hg2⟩
  rw [HT.out] at ho hr2
  have HO := Lib.hid ho; clear ho
  have HR2 := Lib.hid hr2; clear hr2
  go_wp2
  go_ret
  exact ⟨_, rfl, Own.low HO.out hg1.size, HR2.out, only_trans hg1 (only_of_drewN hg2)⟩

theorem Rtext_c (r : Nat) (s : RS) (most : Int) (w : World) (h : Rdr w r s) (hm : (Lit.int .i64 most).wf = true) :
    Calls Try.prog 85 #[.pointer (some ⟨r, 0, none⟩), .int .i64 most] w fun e w' => ∃ v, e = .returned v ∧ OwnB w' w.heap.size v (textR s most).1 ∧ Rdr w' r (textR s most).2 ∧ w.grownBy w' (some r) := by
  by_cases h0 : s.err = 0
  · cases hg : varGo (s.b.drop s.at_) 0 with
    | bad e =>
      have hv : varR s = (0, { s with err := e }) := by rw [varR, if_neg (by omega), hg]
      have ht : textR s most = ([], { s with err := e }) := by rw [textR, if_neg (by omega), hg]
      rw [ht]
      refine (Rtext_bad r s _ 0 most w h hv (by rcases varGo_err hg with rfl | rfl <;> simp)).mono ?_
      rintro e w' ⟨rfl, h1, h2⟩
      exact ⟨_, rfl, Own.nil_ _ _ _, h1, h2⟩
    | ok n k =>
      have hv : varR s = (n, { s with at_ := s.at_ + k }) := by rw [varR, if_neg (by omega), hg]
      by_cases hl : most < 0 ∨ most < (n : Int)
      · have ht : textR s most = ([], { s with err := 4 }) := by rw [textR, if_neg (by omega), hg]; exact if_pos hl
        rw [ht]
        refine (Rtext_long r s _ n most w h hv h0 hm hl).mono ?_
        rintro e w' ⟨rfl, h1, h2⟩
        exact ⟨_, rfl, Own.nil_ _ _ _, h1, h2⟩
      · by_cases hs : s.b.length < s.at_ + k + n
        · have ht : textR s most = ([], { s with err := 2 }) := by rw [textR, if_neg (by omega), hg]; exact (if_neg hl).trans (if_pos hs)
          rw [ht]
          refine (Rtext_short r s _ n most w h hv h0 hm (by omega) (by omega) hs).mono ?_
          rintro e w' ⟨rfl, h1, h2⟩
          exact ⟨_, rfl, Own.nil_ _ _ _, h1, h2⟩
        · have ht : textR s most = ((s.b.drop (s.at_ + k)).take n, { s with at_ := s.at_ + k + n }) := by rw [textR, if_neg (by omega), hg]; exact (if_neg hl).trans (if_neg hs)
          rw [ht]
          exact Rtext_take r s _ n most w h hv h0 hm (by omega) (by omega) (by show s.at_ + k + n ≤ s.b.length; omega)
  · have hv : varR s = (0, s) := if_pos h0
    have ht : textR s most = ([], s) := if_pos h0
    rw [ht]
    refine (Rtext_bad r s s 0 most w h hv h0).mono ?_
    rintro e w' ⟨rfl, h1, h2⟩
    exact ⟨_, rfl, Own.nil_ _ _ _, h1, h2⟩

end Go.Proofs.Ytcffinkkfdfcaaa

/- What the reference's reader does: the same as the layer's. Conditions: lengths that fit. -/
namespace Go.Proofs.Ytcffinkkfdfcaaa
open Go Go.RowKit

/-- The reference's reader as a value. -/
def rsV (A : Option Addr) (c : Nat) (s : RS) : Value := .agg #[.slice A s.b.length c, .int .i64 (s.at_ : Int), .int .i64 (s.err : Int)]
/-- What is known of it. -/
def RsOk (w : World) (A : Option Addr) (c : Nat) (s : RS) : Prop := Rd w A (s.b.map bv) ∧ s.b.length ≤ c ∧ c ≤ maxLen ∧ s.at_ ≤ s.b.length ∧ s.b.length ≤ 140737488355328

set_option maxRecDepth 100000 in
set_option maxHeartbeats 400000 in
theorem refLeft_c (A : Option Addr) (c : Nat) (s : RS) (w : World) (h : RsOk w A c s) :
    Calls Try.prog 91 #[rsV A c s] w fun e w' => e = .returned (.int .i64 ((s.b.length - s.at_ : Nat) : Int)) ∧ Below w.heap.size w w' := by
  obtain ⟨h1, h2, h3, h4, h5⟩ := h
  have e1 : ((s.b.length - s.at_ : Nat) : Int) = (s.b.length : Int) - (s.at_ : Int) := by omega
  rw [e1]
  clear e1
  unfold rsV
  go_enter Try.func91, Try.ntmps91
  go_wp2
  go_ret
  exact ⟨rfl, (Below.refl _ _).alloc (Nat.le_refl _) _⟩

end Go.Proofs.Ytcffinkkfdfcaaa

/- Plain law: what is read as a number is just what is laid for it, and the other way round. Conditions: none. -/
namespace Go.Proofs.Ytcffinkkfdfcaaa
open Go Go.RowKit

theorem varGo_one : ∀ (l : List UInt8) (i n k : Nat), varGo l i = .ok n k → l.take k = varL n ∧ (0 < i → 0 < n)
  | [], _, _, _, h => by cases h
  | d :: l, i, n, k, h => by
    have hd := UInt8.toNat_lt d
    rw [varGo] at h
    by_cases hb : (i = 9 ∧ 1 < d.toNat) ∨ (0 < i ∧ d.toNat = 0)
    · rw [if_pos hb] at h; cases h
    · rw [if_neg hb] at h
      have hz : 0 < i → 0 < d.toNat := fun hi => by
        rcases Nat.eq_zero_or_pos d.toNat with h0 | h0
        · exact absurd (.inr ⟨hi, h0⟩) hb
        · exact h0
      by_cases h8 : d.toNat < 128
      · rw [if_pos h8] at h
        injection h with h1 h2
        subst h1; subst h2
        refine ⟨?_, hz⟩
        rw [varL_lo h8]
        show [d] = _
        congr 1
        apply UInt8.toNat_inj.1
        rw [lo_nat]; omega
      · rw [if_neg h8] at h
        cases hv : varGo l (i + 1) with
        | bad e => rw [hv] at h; cases h
        | ok n' k' =>
          rw [hv] at h
          injection h with h1 h2
          obtain ⟨g1, g2⟩ := varGo_one l (i + 1) n' k' hv
          have g3 := g2 (by omega)
          subst h1; subst h2
          refine ⟨?_, fun _ => by omega⟩
          rw [varL_hi (by omega), List.take_succ_cons, g1]
          congr 1
          · apply UInt8.toNat_inj.1
            rw [dig_nat]; omega
          · congr 1; omega

theorem varGo_back : ∀ (m : Nat) (n i : Nat) (more : List UInt8), n ≤ m → i ≤ 9 → n < 2 ^ (64 - 7 * i) → (0 < i → 0 < n) → varGo (varL n ++ more) i = .ok n (varL n).length := by
  intro m
  induction m using Nat.strongRecOn with
  | _ m ih =>
    intro n i more hnm hi hn hz
    by_cases h8 : n < 128
    · rw [varL_lo h8]
      show varGo (lo n :: more) i = _
      rw [varGo, if_neg, if_pos (by rw [lo_nat]; omega), lo_nat, Nat.mod_eq_of_lt (by omega)]
      · rfl
      · rw [lo_nat]
        rintro (⟨h1, h2⟩ | ⟨h1, h2⟩)
        · subst h1
          have : n < 2 ^ 1 := hn
          omega
        · have := hz h1; omega
    · rw [varL_hi (by omega)]
      have hi9 : i < 9 := by
        rcases Nat.lt_or_ge i 9 with h | h
        · exact h
        · obtain rfl : i = 9 := by omega
          have : n < 2 ^ 1 := hn
          omega
      have e : 2 ^ (64 - 7 * i) = 128 * 2 ^ (64 - 7 * (i + 1)) := by
        rw [show (128 : Nat) = 2 ^ 7 from rfl, ← Nat.pow_add]; congr 1; omega
      have h1 := ih (n / 128) (by omega) (n / 128) (i + 1) more (Nat.le_refl _) (by omega) (by omega) (by omega)
      show varGo (dig n :: (varL (n / 128) ++ more)) i = _
      rw [varGo, if_neg, if_neg (by rw [dig_nat]; omega), h1, dig_nat]
      · simp only [List.length_cons, VR.ok.injEq, and_true]
        omega
      · rw [dig_nat]
        rintro (⟨h1, h2⟩ | ⟨h1, h2⟩) <;> omega

theorem varGo_laid {n : Nat} (h : U64 n) (more : List UInt8) : varGo (varL n ++ more) 0 = .ok n (varL n).length := varGo_back n n 0 more (Nat.le_refl _) (by decide) h (fun h => absurd h (by decide))

theorem beN_cons (d : UInt8) (l : List UInt8) : beN (d :: l) = d.toNat * 256 ^ l.length + beN l := by
  have h : ∀ (l : List UInt8) (a : Nat), l.foldl (fun a d => a * 256 + d.toNat) a = a * 256 ^ l.length + beN l := by
    intro l
    induction l with
    | nil => intro a; simp [beN]
    | cons d l ih =>
      intro a
      have e2 : beN (d :: l) = d.toNat * 256 ^ l.length + beN l := by
        show List.foldl (fun a d => a * 256 + d.toNat) (0 * 256 + d.toNat) l = _
        rw [ih, Nat.zero_mul, Nat.zero_add]
      rw [List.foldl_cons, ih, e2, List.length_cons, Nat.pow_succ, Nat.add_mul]
      have e : a * 256 * 256 ^ l.length = a * (256 ^ l.length * 256) := by rw [Nat.mul_assoc, Nat.mul_comm 256]
      rw [e, Nat.add_assoc]
  show List.foldl (fun a d => a * 256 + d.toNat) (0 * 256 + d.toNat) l = _
  rw [h, Nat.zero_mul, Nat.zero_add]
theorem numL_succ (n size : Nat) : numL n (size + 1) = lo (n / 256 ^ size) :: numL n size := by
  unfold numL
  rw [List.range_succ_eq_map, List.map_cons, List.map_map]
  congr 1
  apply List.map_congr_left
  intro i hi
  show lo (n / 256 ^ (size + 1 - 1 - (i + 1))) = _
  rw [show size + 1 - 1 - (i + 1) = size - 1 - i by omega]
theorem beN_num (n : Nat) : ∀ size, beN (numL n size) = n % 256 ^ size
  | 0 => by simp [numL, beN, Nat.mod_one]
  | size + 1 => by
    rw [numL_succ, beN_cons, numL_length, beN_num n size, lo_nat, Nat.pow_succ, Nat.mod_mul]
    rw [Nat.mul_comm]; omega

/-- Digits of 128, the lowest first, as a number. -/
def valL : List UInt8 → Nat
  | [] => 0
  | d :: l => d.toNat % 128 + 128 * valL l
theorem valL_snoc (l : List UInt8) (d : UInt8) : valL (l ++ [d]) = valL l + 128 ^ l.length * (d.toNat % 128) := by
  induction l with
  | nil => simp [valL]
  | cons e l ih =>
    rw [List.cons_append, valL, ih, valL, List.length_cons, Nat.pow_succ, Nat.mul_add, Nat.mul_comm (128 ^ l.length) 128, Nat.mul_assoc, Nat.add_assoc]
theorem valL_drop_le (l : List UInt8) (j : Nat) : valL (l.drop j) ≤ valL l := by
  induction l generalizing j with
  | nil => simp
  | cons d l ih =>
    cases j with
    | zero => simp
    | succ j =>
      rw [List.drop_succ_cons]
      have := ih j
      simp only [valL]; omega
theorem valL_lt (l : List UInt8) : valL l < 128 ^ l.length := by
  induction l with
  | nil => decide
  | cons d l ih => rw [valL, List.length_cons, Nat.pow_succ]; omega
end Go.Proofs.Ytcffinkkfdfcaaa

/- What the reference's reader does: Var, Take, Text, End. Conditions: lengths that fit. -/
namespace Go.Proofs.Ytcffinkkfdfcaaa
open Go Go.RowKit

theorem heap2_old (w : World) (a b : Obj) : ((w.alloc a).alloc b).heap[w.heap.size]? = some a := (Below.heap_alloc _ _ w.heap.size (by simp)).trans (heap_alloc_new w _)
theorem heap2_new (w : World) (a b : Obj) : ((w.alloc a).alloc b).heap[w.heap.size + 1]? = some b := by
  have h := heap_alloc_new (w.alloc a) b
  rwa [World.size_alloc] at h

/-- What is known of a box of three cells. -/
theorem box3 {w : World} {g : Nat} {x y z : Value} {t : TypeId} (h : w.heap[g]? = some (.cells #[x, y, z] t (0, 0))) :
    (w.cell? ⟨g, 0, none⟩ = some x ∧ w.cell? ⟨g, 1, none⟩ = some y ∧ w.cell? ⟨g, 2, none⟩ = some z) ∧ w.frozen? ⟨g, 0, none⟩ = false ∧ w.frozen? ⟨g, 1, none⟩ = false ∧ w.frozen? ⟨g, 2, none⟩ = false :=
  ⟨⟨by rw [heap_cell h]; rfl, by rw [heap_cell h]; rfl, by rw [heap_cell h]; rfl⟩, heap_free h _, heap_free h _, heap_free h _⟩

set_option maxRecDepth 100000 in
set_option maxHeartbeats 400000 in
theorem refTake_c (A : Option Addr) (c : Nat) (s : RS) (n : Int) (w : World) (h : RsOk w A c s) (hs : (Lit.int .i64 n).wf = true) :
    Calls Try.prog 96 #[rsV A c s, .int .i64 n] w fun e w' => ∃ v, e = .returned (.tuple #[v, rsV A c (takeR s n).2]) ∧ OwnB w' w.heap.size v (takeR s n).1 ∧ Below w.heap.size w w' := by
  obtain ⟨h1, h2, h3, h4, h5⟩ := h
  by_cases h0 : s.err = 0
  · have hb : (((s.err : Nat) : Int) != 0) = false := by rw [bne_eq_false_iff_eq]; omega
    rcases Int.lt_or_le n 0 with k1 | k1
    · have e1 : takeR s n = ([], { s with err := 1 }) := by rw [takeR, if_neg (by omega), if_pos k1]
      rw [e1]
      clear e1
      have H0 := Lib.hid h0; clear h0
      unfold rsV
      go_enter Try.func96, Try.ntmps96
      go_wp2
      go_region
      all_goals
        go_wp2
        go_returns
        exact ⟨_, rfl, Own.nil_ _ _ _, by go_grown⟩
    · obtain ⟨m, rfl⟩ := Int.eq_ofNat_of_zero_le k1
      by_cases hsh : (s.b.length : Int) - (s.at_ : Int) < (m : Int)
      · have e1 : takeR s m = ([], { s with err := 2 }) := by rw [takeR, if_neg (by omega), if_neg (by omega), if_pos hsh]
        rw [e1]
        clear e1
        have H0 := Lib.hid h0; clear h0
        unfold rsV
        go_enter Try.func96, Try.ntmps96
        go_wp2
        go_region
        all_goals
          go_wp2
          go_returns
          exact ⟨_, rfl, Own.nil_ _ _ _, by go_grown⟩
      · have e1 : takeR s m = ((s.b.drop s.at_).take m, { s with at_ := s.at_ + m }) := by rw [takeR, if_neg (by omega), if_neg (by omega), if_neg hsh]; rfl
        have hsh' : (m : Int) ≤ (s.b.length : Int) - (s.at_ : Int) := by omega
        have hlen : ((s.b.drop s.at_).take m).length = m := by rw [List.length_take, List.length_drop]; omega
        have HLEN := Lib.hid hlen; clear hlen
        have hcut := (h1.cut (by rw [List.length_map]) h4 h2).take m
        rw [← List.map_drop, ← List.map_take] at hcut
        have hw2 : (s.at_ : Int) + (m : Int) ≤ (c : Int) := by omega
        rw [e1]
        clear e1 hsh
        have H0 := Lib.hid h0; clear h0
        unfold rsV
        by_cases hc : c = s.at_
        · subst hc
          obtain rfl : m = 0 := by omega
          rw [if_pos rfl] at hcut
          have HCUT := Lib.hid hcut; clear hcut
          go_enter Try.func96, Try.ntmps96
          go_wp2_with (fail)
          refine (Copy_c _ _ _ ((s.b.drop s.at_).take 0) _ HLEN.out ((HCUT.out.alloc _).alloc _) (by omega)).mono ?_
          rintro e w1 ⟨v, rfl, ho, hb1⟩
          have z := hb1.size
          simp only [World.size_alloc] at z hb1 ho
          have x0 := box3 ((hb1.block w.heap.size (by omega)).trans (heap2_old w _ _))
          have x1 := box3 ((hb1.block (w.heap.size + 1) (by omega)).trans (heap2_new w _ _))
          obtain ⟨⟨a0, a1, a2⟩, b0, b1, b2⟩ := x0
          obtain ⟨⟨d0, d1, d2⟩, f0, f1, f2⟩ := x1
          have hB : Below w.heap.size w w1 := (((Below.refl _ _).alloc (Nat.le_refl _) _).alloc (by simp) _).trans (hb1.mono (by omega))
          have HO := Lib.hid ho; clear ho
          go_wp2_with (fail)
          go_region
          all_goals
            go_wp2
            refine bodyPost_ret (v := .tuple #[v, .agg #[.slice A s.b.length s.at_, .int .i64 ((s.at_ : Int) + ((0 : Nat) : Int)), .int .i64 (s.err : Int)]]) (by simp [results, Try.results96, go_sem, d0, d1, d2]) rfl ?_
            refine ⟨v, by simp only [Int.natCast_add], ?_, ?_⟩
            · exact Own.low (Own.drewN (Own.setBelow (Own.setBelow (Own.setBelow (Own.setBelow HO.out (by show w.heap.size < _; omega) _) (by show w.heap.size + 1 < _; omega) _) (by show w.heap.size + 1 < _; omega) _) (by show w.heap.size + 1 < _; omega) _) 1) (by omega)
            · exact ((((hB.setCell (by simp) _).setCell (by simp) _).setCell (by simp) _).setCell (by simp) _).drew
        · rw [if_neg hc] at hcut
          have HCUT := Lib.hid hcut; clear hcut
          go_enter Try.func96, Try.ntmps96
          go_wp2_with (fail)
          refine (Copy_c _ _ _ ((s.b.drop s.at_).take m) _ HLEN.out ((HCUT.out.alloc _).alloc _) (by omega)).mono ?_
          rintro e w1 ⟨v, rfl, ho, hb1⟩
          have z := hb1.size
          simp only [World.size_alloc] at z hb1 ho
          have x0 := box3 ((hb1.block w.heap.size (by omega)).trans (heap2_old w _ _))
          have x1 := box3 ((hb1.block (w.heap.size + 1) (by omega)).trans (heap2_new w _ _))
          obtain ⟨⟨a0, a1, a2⟩, b0, b1, b2⟩ := x0
          obtain ⟨⟨d0, d1, d2⟩, f0, f1, f2⟩ := x1
          have hB : Below w.heap.size w w1 := (((Below.refl _ _).alloc (Nat.le_refl _) _).alloc (by simp) _).trans (hb1.mono (by omega))
          have HO := Lib.hid ho; clear ho
          go_wp2_with (fail)
          go_region
          all_goals
            go_wp2
            refine bodyPost_ret (v := .tuple #[v, .agg #[.slice A s.b.length c, .int .i64 ((s.at_ : Int) + ((m : Nat) : Int)), .int .i64 (s.err : Int)]]) (by simp [results, Try.results96, go_sem, d0, d1, d2]) rfl ?_
            refine ⟨v, by simp only [Int.natCast_add], ?_, ?_⟩
            · exact Own.low (Own.drewN (Own.setBelow (Own.setBelow (Own.setBelow (Own.setBelow HO.out (by show w.heap.size < _; omega) _) (by show w.heap.size + 1 < _; omega) _) (by show w.heap.size + 1 < _; omega) _) (by show w.heap.size + 1 < _; omega) _) 1) (by omega)
            · exact ((((hB.setCell (by simp) _).setCell (by simp) _).setCell (by simp) _).setCell (by simp) _).drew
  · have hb : (((s.err : Nat) : Int) != 0) = true := by rw [bne_iff_ne]; omega
    have e1 : takeR s n = ([], s) := if_pos h0
    rw [e1]
    clear e1
    have H0 := Lib.hid h0; clear h0
    unfold rsV
    go_enter Try.func96, Try.ntmps96
    go_wp2
    go_region
    all_goals
      go_wp2
      go_returns
      exact ⟨_, rfl, Own.nil_ _ _ _, by go_grown⟩
end Go.Proofs.Ytcffinkkfdfcaaa

/- What tlv.clone answers: the item in memory of its own. Conditions: an item that can be read. -/
namespace Go.Proofs.Ytcffinkkfdfcaaa
open Go Go.RowKit

/-- An item as a value. -/
def ItV.val (d : ItV) : Value := .agg #[.int .i64 d.k, .bool d.cr, .bool d.li, .slice d.A d.n d.c, .slice d.As d.ns d.cs]
/-- The world within the copying of an item. -/
structure ClS (w0 : World) (gb : Nat) (d : ItV) (bs : List UInt8) (v : Value) (ds : List ItV) (P : Fo) (w : World) : Prop where
  box : w.heap[w0.heap.size]? = some (.cells d.cells.toArray 76 (0, 0))
  res : w.heap[w0.heap.size + 1]? = some (.cells #[.int .i64 0, .bool false, .bool false, .slice none 0 0, .slice none 0 0] 76 (0, 0))
  txt : TxtO (fun j => w0.heap.size + 1 < j ∧ j < gb) w d.A d.n d.c bs
  out : FoP (gb ≤ ·) w v ds P
  bel : Below w0.heap.size w0 w
  lo : w0.heap.size + 2 ≤ gb ∧ gb ≤ w.heap.size
section
variable {w0 w w' : World} {gb : Nat} {d : ItV} {bs : List UInt8} {v v' : Value} {ds : List ItV} {P : Fo}
theorem ClS.below (h : ClS w0 gb d bs v ds P w) (hb : Below w.heap.size w w') : ClS w0 gb d bs v ds P w' :=
  ⟨(hb.block _ (heap_lt h.box)).trans h.box, (hb.block _ (heap_lt h.res)).trans h.res, h.txt.frame (fun j _ hj => hb.block j hj), h.out.below hb, h.bel.trans (hb.mono h.bel.size), h.lo.1, Nat.le_trans h.lo.2 hb.size⟩
theorem ClS.more (h : ClS w0 gb d bs v ds P w) {e : ItV} {R : Fo} (hd : ItsO (fun j => gb ≤ j ∧ v.ownBlock ≠ some j) w [e] R) (ho : OwnI w' 0 v' (ds ++ [e])) (hg : w.grownBy w' v.ownBlock) (hv : v'.ownBlock = v.ownBlock ∨ v'.ownBlock = some w.heap.size) :
    ClS w0 gb d bs v' (ds ++ [e]) (P.app R) w' := by
  have hlo := h.lo
  have hne : ∀ j, j < w.heap.size → j < gb → w'.heap[j]? = w.heap[j]? := fun j hl hj => hg.block j hl (fun e => by have : gb ≤ j := h.out.ok_ j e.symm; omega)
  exact ⟨(hne _ (heap_lt h.box) (by omega)).trans h.box, (hne _ (heap_lt h.res) (by omega)).trans h.res, h.txt.frame (fun j hj hl => hne j hl hj.2), h.out.more hd ho hg hv hlo.2,
    h.bel.grown hg h.bel.size (fun k e => by have : gb ≤ k := h.out.ok_ k e; omega), hlo.1, Nat.le_trans hlo.2 hg.size⟩
end
set_option maxRecDepth 100000 in
set_option maxHeartbeats 8000000 in
theorem clone_it : ∀ (M : Nat) (sub : Fo), sub.size = M → ∀ (ok : Nat → Prop) (k : Int) (cr li : Bool) (bs : List UInt8) (A : Option Addr) (n c : Nat) (As : Option Addr) (ns cs : Nat) (w : World), TxtR ok w A n c bs → sub.len = ns → FoR ok w As 0 sub → sub.size ≤ 100000 →
    Calls Try.prog 93 #[.agg #[.int .i64 k, .bool cr, .bool li, .slice A n c, .slice As ns cs]] w fun r w' => ∃ d : ItV, r = .returned d.val ∧ ItsO (w.heap.size ≤ ·) w' [d] (.cons k cr li bs sub .nil) ∧ Below w.heap.size w w' := by
  intro M
  induction M using Nat.strongRecOn with
  | _ M ih =>
    intro sub hM ok k cr li bs A n c As ns cs w ht hns h1 hl
    have IH := Lib.hid ih; clear ih
    have HM := Lib.hid hM; clear hM
    have HT := Lib.hid ht
    obtain ⟨t1, t2, t3, t4, -, t5⟩ := ht
    have T1 := Lib.hid t1
    have HL := Lib.hid hl
    replace hl : ns ≤ 100000 := by have := Fo.len_le sub; omega
    have HNS := Lib.hid hns
    have H1 := Lib.hid h1
    clear t1 hns h1
    obtain ⟨w2, ew2⟩ : ∃ w2, w2 = (w.alloc (.cells #[.int .i64 k, .bool cr, .bool li, .slice A n c, .slice As ns cs] 76)).alloc (.cells #[.int .i64 0, .bool false, .bool false, .slice none 0 0, .slice none 0 0] 76) := ⟨_, rfl⟩
    obtain ⟨gx, egx⟩ : ∃ gx, gx = w.heap.size := ⟨_, rfl⟩
    have b2 : Below w.heap.size w w2 := by rw [ew2]; exact ((Below.refl _ _).alloc (Nat.le_refl _) _).alloc (by simp) _
    have g0 : w2.heap[gx]? = some (.cells #[.int .i64 k, .bool cr, .bool li, .slice A n c, .slice As ns cs] 76 (0, 0)) := by rw [ew2, egx]; exact heap2_old w _ _
    have g1 : w2.heap[gx + 1]? = some (.cells #[.int .i64 0, .bool false, .bool false, .slice none 0 0, .slice none 0 0] 76 (0, 0)) := by rw [ew2, egx]; exact heap2_new w _ _
    have x3 : w2.cell? ⟨gx, 3, none⟩ = some (.slice A n c) := by rw [heap_cell g0]; rfl
    have xf : w2.frozen? ⟨gx, 3, none⟩ = false := heap_free g0 _
    have EW2 := Lib.hid ew2
    have EGX := Lib.hid egx
    have B2 := Lib.hid b2
    have G0 := Lib.hid g0
    have G1 := Lib.hid g1
    have R2 := Lib.hid (t2.below b2)
    clear ew2 egx b2 g0 g1 t2
    go_enter Try.func93, Try.ntmps93
    go_upto_region 1 with (fail)
    rw [← EW2.out, ← EGX.out]
    go_upto_region 3 with (at_builtin; refine wpList_cloneB _ rfl (.tmp 7) rfl A n c bs rfl T1.out R2.out t5 ?_; intro A' c' w3 p1 p2 p3 p4 p5 p6; have P1 := Lib.hid p1; have P2 := Lib.hid p2; have P3 := Lib.hid p3; have P4 := Lib.hid p4; have z3 : w3.cell? ⟨gx, 3, none⟩ = some (.slice A n c) := (p2.cell (p := ⟨gx, 3, none⟩) (heap_lt G0.out)).trans x3; have zf : w3.frozen? ⟨gx, 3, none⟩ = false := heap_free ((p2.block gx (heap_lt G0.out)).trans G0.out) _; clear p1 p2 p3 p4 p5 p6 x3 xf)
    obtain ⟨w4, ew4⟩ : ∃ w4, w4 = w3.setCell ⟨gx, 3, none⟩ (.slice A' n c') := ⟨_, rfl⟩
    have h3x := (P2.out.block gx (heap_lt G0.out)).trans G0.out
    have h3r := (P2.out.block (gx + 1) (heap_lt G1.out)).trans G1.out
    have z23 := P2.out.size
    have z2g := heap_lt G1.out
    have hne0 : gx = w.heap.size := EGX.out
    have k34 : Keeps (fun j => j = gx) w3 w4 := by rw [ew4]; exact Keeps.set _ _ _ _ rfl
    obtain ⟨gb, egb⟩ : ∃ gb, gb = w3.heap.size := ⟨_, rfl⟩
    have hS4 : ClS w gb ⟨k, cr, li, A', n, c', As, ns, cs⟩ bs (.slice none 0 0) [] .nil w4 := by
      refine ⟨?_, ?_, ⟨T1.out, ?_, ?_, t5⟩, FoP.nil_ _ _, ?_, ?_, ?_⟩
      · rw [ew4, ← hne0, heap_set h3x]; rfl
      · rw [← hne0]; exact (k34.block _ (heap_lt h3r) (by show ¬ gx + 1 = gx; omega)).trans h3r
      · have := P1.out
        refine Own.frameK (Own.low this (Nat.zero_le _)) (fun g e => k34.block g (Own.lt this g e).2 (by have := (Own.lt this g e).1; show ¬ g = gx; omega))
      · intro a e
        subst e
        have := Own.lt P1.out a.block rfl
        exact ⟨by omega, by omega⟩
      · exact below_drewN ((B2.out.trans (P2.out.mono B2.out.size)).trans (by rw [ew4]; exact (Below.refl _ _).setCell (p := ⟨gx, 3, none⟩) (by show _ ≤ gx; omega) _)) 0
      · omega
      · rw [egb]; exact k34.size
    have HS4 := Lib.hid hS4
    have EW4 := Lib.hid ew4
    rw [← EW4.out]
    clear ew4 h3x h3r z23 z2g hne0 k34 egb hS4 z3 zf G0 G1 B2 P1 P2 P3 P4 R2 EW2
    have x4 : w4.cell? ⟨gx, 4, none⟩ = some (.slice As ns cs) := by rw [EGX.out, heap_cell HS4.out.box]; rfl
    go_wp2_with (fail)
    go_loopw [3, 13] (fun v i wr => ∃ (q : Nat) (r P : Fo) (ds : List ItV), i = .int .i64 q ∧ Hid (q + r.len = ns) ∧ Hid (FoR ok w As q r) ∧ Hid (r.size ≤ sub.size) ∧ Hid (sub = P.app r) ∧ Hid (P.len = q) ∧ Hid (ClS w gb ⟨k, cr, li, A', n, c', As, ns, cs⟩ bs v ds P wr)) (fun _ i _ => ns - (intOf i).toNat)
    case atStart => exact ⟨0, sub, .nil, [], rfl, Lib.hid (by rw [HNS.out]; omega), H1, Lib.hid (Nat.le_refl _), Lib.hid rfl, Lib.hid rfl, HS4⟩
    case round =>
      clear HS4 x4
      obtain ⟨q, r, P, ds, rfl, HK, R1, HSz, HF, HPl, HS⟩ := hrel
      cases r with
      | nil =>
        have hk : q = ns := HK.out
        have hk' : (ns : Int) ≤ (q : Int) := by omega
        have hF : sub = P := by rw [HF.out, Fo.app_nil]
        obtain ⟨A9, c9, ev, j1, j2, -⟩ := HS.out.out.o.form (n := ns) (by rw [← hF]; exact HNS.out)
        have HS' := Lib.hid (ev ▸ HS.out)
        subst ev
        have hb := HS'.out.box
        have hr := HS'.out.res
        rw [← EGX.out] at hb hr
        have b4 : wr.cell? ⟨gx, 4, none⟩ = some (.slice As ns cs) := by rw [heap_cell hb]; rfl
        have bf : wr.frozen? ⟨gx, 4, none⟩ = false := heap_free hb _
        obtain ⟨w7, ew7⟩ : ∃ w7, w7 = wr.setCell ⟨gx, 4, none⟩ (.slice A9 ns c9) := ⟨_, rfl⟩
        have h7 : w7.heap[gx]? = some (.cells #[.int .i64 k, .bool cr, .bool li, .slice A' n c', .slice A9 ns c9] 76 (0, 0)) := by rw [ew7, heap_set hb]; rfl
        have r7 : w7.heap[gx + 1]? = some (.cells #[.int .i64 0, .bool false, .bool false, .slice none 0 0, .slice none 0 0] 76 (0, 0)) := by rw [ew7]; exact (heap_far _ (by show gx + 1 ≠ gx; omega)).trans hr
        obtain ⟨w8, ew8⟩ : ∃ w8, w8 = ((((w7.setCell ⟨gx + 1, 0, none⟩ (.int .i64 k)).setCell ⟨gx + 1, 1, none⟩ (.bool cr)).setCell ⟨gx + 1, 2, none⟩ (.bool li)).setCell ⟨gx + 1, 3, none⟩ (.slice A' n c')).setCell ⟨gx + 1, 4, none⟩ (.slice A9 ns c9) := ⟨_, rfl⟩
        have r8 : w8.heap[gx + 1]? = some (.cells #[.int .i64 k, .bool cr, .bool li, .slice A' n c', .slice A9 ns c9] 76 (0, 0)) := by
          rw [ew8, heap_set (heap_set (heap_set (heap_set (heap_set r7 _ _) _ _) _ _) _ _) _ _]; rfl
        have k8 : Keeps (fun j => j = gx ∨ j = gx + 1) wr w8 := by
          rw [ew8, ew7]
          refine (((((Keeps.set _ _ _ _ (.inl rfl)).trans (Keeps.set _ _ _ _ (.inr rfl))).trans (Keeps.set _ _ _ _ (.inr rfl))).trans (Keeps.set _ _ _ _ (.inr rfl))).trans (Keeps.set _ _ _ _ (.inr rfl))).trans (Keeps.set _ _ _ _ (.inr rfl))
        have fin : ItsO (w.heap.size ≤ ·) w8 [⟨k, cr, li, A', n, c', A9, ns, c9⟩] (.cons k cr li bs sub .nil) := by
          have hlo := HS'.out.lo.1
          have e := EGX.out
          refine ItsO.one ?_ ?_ (by rw [HNS.out]; omega)
          · exact (HS'.out.txt.frame (w' := w8) (fun j hj hl => k8.block j hl (by have := hj.1; omega))).weak (fun j hj _ => by have := hj.1; show w.heap.size ≤ j; omega)
          · rw [hF]
            exact (HS'.out.out.o.frame (w' := w8) (fun j hj hl => k8.block j hl (by have : gb ≤ j := hj; omega))).weak (fun j hj _ => by have : gb ≤ j := hj; show w.heap.size ≤ j; omega)
        have bel : Below w.heap.size w w8 := HS'.out.bel.trans (k8.below (fun j hj => ⟨Nat.lt_of_lt_of_le hj HS'.out.bel.size, by have := EGX.out; omega⟩))
        have FIN := Lib.hid fin
        have BEL := Lib.hid bel
        have EW7 := Lib.hid ew7
        have EW8 := Lib.hid ew8
        obtain ⟨p0, p1, p2, p3, p4⟩ : w7.cell? ⟨gx, 0, none⟩ = some (.int .i64 k) ∧ w7.cell? ⟨gx, 1, none⟩ = some (.bool cr) ∧ w7.cell? ⟨gx, 2, none⟩ = some (.bool li) ∧ w7.cell? ⟨gx, 3, none⟩ = some (.slice A' n c') ∧ w7.cell? ⟨gx, 4, none⟩ = some (.slice A9 ns c9) := by
          refine ⟨?_, ?_, ?_, ?_, ?_⟩ <;> (rw [heap_cell h7]; rfl)
        obtain ⟨s0, s1, s2, s3, s4⟩ : w7.cell? ⟨gx + 1, 0, none⟩ = some (.int .i64 0) ∧ w7.cell? ⟨gx + 1, 1, none⟩ = some (.bool false) ∧ w7.cell? ⟨gx + 1, 2, none⟩ = some (.bool false) ∧ w7.cell? ⟨gx + 1, 3, none⟩ = some (.slice none 0 0) ∧ w7.cell? ⟨gx + 1, 4, none⟩ = some (.slice none 0 0) := by
          refine ⟨?_, ?_, ?_, ?_, ?_⟩ <;> (rw [heap_cell r7]; rfl)
        have f0 := heap_free r7 0
        have f1 := heap_free r7 1
        have f2 := heap_free r7 2
        have f3 := heap_free r7 3
        have f4 := heap_free r7 4
        obtain ⟨v0, v1, v2, v3, v4⟩ : w8.cell? ⟨gx + 1, 0, none⟩ = some (.int .i64 k) ∧ w8.cell? ⟨gx + 1, 1, none⟩ = some (.bool cr) ∧ w8.cell? ⟨gx + 1, 2, none⟩ = some (.bool li) ∧ w8.cell? ⟨gx + 1, 3, none⟩ = some (.slice A' n c') ∧ w8.cell? ⟨gx + 1, 4, none⟩ = some (.slice A9 ns c9) := by
          refine ⟨?_, ?_, ?_, ?_, ?_⟩ <;> (rw [heap_cell r8]; rfl)
        clear hk hF hb hr ew7 ew8 h7 r7 r8 k8 fin bel
        go_upto_region 9 with (fail)
        rw [← EW7.out]
        clear b4 bf
        go_wp2_with (fail)
        rw [← EW8.out]
        refine bodyPost_ret (v := .agg #[.int .i64 k, .bool cr, .bool li, .slice A' n c', .slice A9 ns c9]) (by simp [results, Try.results93, go_sem, v0, v1, v2, v3, v4]) rfl ?_
        exact ⟨⟨k, cr, li, A', n, c', A9, ns, c9⟩, rfl, FIN.out, BEL.out⟩
      | cons z cr1 li1 bs1 sub1 rest =>
        obtain ⟨⟨b1, o1, At, m, cm, As1, e1, eA, hb1, -, ⟨c0, ca, cb, cc, cd⟩, tt, s1, l1, l2, l3⟩, r1⟩ := R1.out.one
        subst eA
        have hlt : q < ns := by have := HK.out; simp only [Fo.len] at this; omega
        have kb := HS.out.bel
        have TT := Lib.hid tt
        have S1 := Lib.hid s1
        have R1b := Lib.hid r1
        rw [← kb.cell (p := ⟨b1, _, none⟩) hb1] at c0 ca cb cc cd
        have HSb : Hid (rest.size ≤ sub.size) := Lib.hid (by have := HSz.out; simp only [Fo.size] at this; omega)
        have HSs : Hid (sub1.size < M ∧ sub1.size ≤ 100000) := Lib.hid (by have := HSz.out; have := HM.out; have := HL.out; simp only [Fo.size] at *; omega)
        have HKb : Hid (q + 1 + rest.len = ns) := Lib.hid (by have := HK.out; simp only [Fo.len] at this; omega)
        have HFb : Hid (sub = (P.app (.cons z cr1 li1 bs1 sub1 .nil)).app rest) := Lib.hid (by rw [HF.out, Fo.app_assoc]; rfl)
        obtain ⟨sl, esl⟩ : ∃ sl, sl = sub1.len := ⟨_, rfl⟩
        rw [← esl] at cd l1 l3
        have ESL := Lib.hid esl
        have hlt' : (q : Int) < (ns : Int) := by omega
        obtain ⟨w5, ew5⟩ : ∃ w5, w5 = wr.alloc (.cells #[.int .i64 z, .bool cr1, .bool li1, .slice At m cm, .slice As1 sl e1] 76) := ⟨_, rfl⟩
        obtain ⟨gy, egy⟩ : ∃ gy, gy = wr.heap.size := ⟨_, rfl⟩
        have b5 : Below wr.heap.size wr w5 := by rw [ew5]; exact (Below.refl _ _).alloc (Nat.le_refl _) _
        have h5 : w5.heap[gy]? = some (.cells #[.int .i64 z, .bool cr1, .bool li1, .slice At m cm, .slice As1 sl e1] 76 (0, 0)) := by rw [ew5, egy]; exact heap_alloc_new _ _
        have HS5 := Lib.hid (HS.out.below b5)
        obtain ⟨p0, p1, p2, p3, p4⟩ : w5.cell? ⟨gy, 0, none⟩ = some (.int .i64 z) ∧ w5.cell? ⟨gy, 1, none⟩ = some (.bool cr1) ∧ w5.cell? ⟨gy, 2, none⟩ = some (.bool li1) ∧ w5.cell? ⟨gy, 3, none⟩ = some (.slice At m cm) ∧ w5.cell? ⟨gy, 4, none⟩ = some (.slice As1 sl e1) := by
          refine ⟨?_, ?_, ?_, ?_, ?_⟩ <;> (rw [heap_cell h5]; rfl)
        have EW5 := Lib.hid ew5
        have EGY := Lib.hid egy
        have Z5 : Hid (wr.heap.size < w5.heap.size) := Lib.hid (by rw [ew5]; simp)
        clear ew5 egy b5 h5 tt s1 r1 esl HK HSz HF R1 kb l1 l2
        go_upto_region 6 with (fail)
        rw [← EW5.out, ← EGY.out]
        clear c0 ca cb cc cd
        go_wp2_with (fail)
        refine (IH.out sub1.size HSs.out.1 sub1 rfl ok z cr1 li1 bs1 At m cm As1 sl e1 w5 (TT.out.frame (fun j _ hj => HS5.out.bel.block j hj) HS5.out.bel.size) ESL.out.symm (S1.out.below HS5.out.bel) HSs.out.2).mono ?_
        rintro _ w6 ⟨⟨dk, dc, dl, dA, dn, dcc, dAs, dns, dcs⟩, rfl, ho6, hb6⟩
        unfold ItV.val
        dsimp only
        have HS6 := Lib.hid (HS5.out.below hb6)
        have b67 : Below w6.heap.size w6 (w6.alloc (.cells #[.int .i64 dk, .bool dc, .bool dl, .slice dA dn dcc, .slice dAs dns dcs] 76)) := (Below.refl _ _).alloc (Nat.le_refl _) _
        have HS7 := Lib.hid (HS6.out.below b67)
        have lov := fun j e => (HS.out.out.lt j e)
        have HD7 : Hid (ItsO (fun j => gb ≤ j ∧ u3.ownBlock ≠ some j) (w6.alloc (.cells #[.int .i64 dk, .bool dc, .bool dl, .slice dA dn dcc, .slice dAs dns dcs] 76)) [⟨dk, dc, dl, dA, dn, dcc, dAs, dns, dcs⟩] (.cons z cr1 li1 bs1 sub1 .nil)) :=
          Lib.hid ((ho6.frame (fun j _ hj => b67.block j hj)).weak (fun j hj _ => by
            have h1 : w5.heap.size ≤ j := hj
            have h2 := HS.out.lo.2
            have h3 := Z5.out
            exact ⟨by omega, fun e => by have := lov j e; omega⟩))
        have HR7 := Lib.hid (Rd.lit w6 (cellsI [⟨dk, dc, dl, dA, dn, dcc, dAs, dns, dcs⟩]) 76)
        have hdl : ds.length ≤ 100000 := by rw [ItsO.len P ds HS7.out.out.its, HPl.out]; omega
        clear ho6 hb6 b67 lov p0 p1 p2 p3 p4 HS5
        go_wp2_with (at_builtin; refine wpList_appI _ rfl (.tmp 17) (.tmp 20) rfl 0 _ ds rfl HS7.out.out.row (some ⟨w6.heap.size, 0, none⟩) 1 1 [⟨dk, dc, dl, dA, dn, dcc, dAs, dns, dcs⟩] rfl rfl HR7.out (by omega) (Nat.zero_le _) ?_; intro v12 w12 ho12 hg12 hv12; have HS12 := Lib.hid (HS7.out.more HD7.out ho12 hg12 hv12); clear ho12 hg12 hv12)
        go_roundw
        case rel => exact ⟨q + 1, rest, _, _, by go_num, HKb, R1b, HSb, HFb, Lib.hid (by rw [Fo.len_app, HPl.out]; rfl), HS12⟩
        case measure => simp [intOf]; omega
end Go.Proofs.Ytcffinkkfdfcaaa
