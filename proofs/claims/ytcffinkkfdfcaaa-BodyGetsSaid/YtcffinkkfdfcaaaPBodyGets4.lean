/- Parts one behind the other: What the reader of the layer wire does: Take and Text; What the reference's reader does: the same as the layer's; Plain law: what is read as a number is just what is laid for it, and the other way round; What the reference's reader does: Var, Take, Text, End; What tlv.clone answers: the item in memory of its own; What tlv.Get and the reference's Get answer: the first item of a kind; Bodies of datagrams as plain data: parts, data, what is laid of them; What bytes say as a list of items, in plain words; tlv.must: an error is thrown; The world within tlv's reading of a list of items. Conditions: as told at each. -/
import Derived.Test.YtcffinkkfdfcaaaPBodyGets3
import Derived.StillTailTactics
import Derived.Test.YtcffinkkfdfcaaaPBodyGets1
import Derived.Test.YtcffinkkfdfcaaaPBodyGets2
import Derived.Recover

/- What the reader of the layer wire does: Take and Text. Conditions: a reader that lies in a block of its own. -/
namespace Go.Proofs.Ytcffinkkfdfcaaa
open Go Go.RowKit

def takeR (s : RS) (n : Int) : List UInt8 × RS :=
  if s.err ≠ 0 then ([], s) else if n < 0 then ([], { s with err := 1 })
  else if (s.b.length : Int) - (s.at_ : Int) < n then ([], { s with err := 2 })
  else ((s.b.drop s.at_).take n.toNat, { s with at_ := s.at_ + n.toNat })

set_option maxRecDepth 100000 in
set_option maxHeartbeats 400000 in
theorem Rtake_c (r : Nat) (s : RS) (n : Int) (w : World) (h : Rdr w r s) (hs : (Lit.int .i64 n).wf = true) :
    Calls Try.prog 78 #[.pointer (some ⟨r, 0, none⟩), .int .i64 n] w fun e w' => ∃ v, e = .returned v ∧ OwnB w' w.heap.size v (takeR s n).1 ∧ Rdr w' r (takeR s n).2 ∧ w.grownBy w' (some r) := by
  obtain ⟨A, c, ⟨c0, c1, c2⟩, ⟨f0, f1, f2⟩, hrd, hlc, hcm, hk, hl⟩ := h.open_
  by_cases h0 : s.err = 0
  · have hb : (((s.err : Nat) : Int) != 0) = false := by rw [bne_eq_false_iff_eq]; omega
    rcases Int.lt_or_le n 0 with h1 | h1
    · have e1 : takeR s n = ([], { s with err := 1 }) := by rw [takeR, if_neg (by omega), if_pos h1]
      rw [e1]
      clear e1
      have H0 := Lib.hid h0; clear h0
      go_enter Try.func78, Try.ntmps78
      go_wp2
      go_ret
      exact ⟨_, rfl, Own.nil_ _ _ _, setErr_only h 0 1⟩
    · obtain ⟨m, rfl⟩ := Int.eq_ofNat_of_zero_le h1
      by_cases hsh : (s.b.length : Int) - (s.at_ : Int) < (m : Int)
      · have e1 : takeR s m = ([], { s with err := 2 }) := by rw [takeR, if_neg (by omega), if_neg (by omega), if_pos hsh]
        rw [e1]
        clear e1
        have H0 := Lib.hid h0; clear h0
        go_enter Try.func78, Try.ntmps78
        go_wp2
        go_quiet (fail)
        go_wp2
        go_ret
        exact ⟨_, rfl, Own.nil_ _ _ _, setErr_only h _ 2⟩
      · have e1 : takeR s m = ((s.b.drop s.at_).take m, { s with at_ := s.at_ + m }) := by rw [takeR, if_neg (by omega), if_neg (by omega), if_neg hsh]; rfl
        have hsh' : (m : Int) ≤ (s.b.length : Int) - (s.at_ : Int) := by omega
        have H1 := Lib.hid e1; clear e1
        have H0 := Lib.hid h0; clear h0
        clear hsh
        go_enter Try.func78, Try.ntmps78
        go_wp2
        go_quiet (fail)
        go_wp2
        have hw1 : IntKind.i64.wrap ((s.at_ : Int) + (m : Int)) = (s.at_ : Int) + (m : Int) := IntWalk.i64_in _ ⟨by omega, by omega⟩
        have hw2 : (s.at_ : Int) + (m : Int) ≤ (c : Int) := by omega
        have hw3 : (s.at_ : Int) ≤ (s.at_ : Int) + (m : Int) := by omega
        have hw4 : (0 : Int) ≤ (s.at_ : Int) := by omega
        refine wp_region_still_tail 15 (by kernel_rfl) (by kernel_rfl) ?_
        simp only [List.take_succ_cons, List.take_zero, List.drop_succ_cons, List.drop_zero]
        change wpStill _ _ (w.drewN (nq + 1)) _ _ _
        repeat still_step
        refine wpStill_nil ?_
        change wpList _ _ _ _ _ (w.drewN (nq + 1))
        refine wpList_cloneB _ rfl (.tmp 52) rfl _ _ _ ((s.b.drop s.at_).take m) rfl ?_ ?_ ?_ ?_
        · rw [List.length_take, List.length_drop]; omega
        · rw [List.map_take, List.map_drop]
          exact ((hrd.drewN (nq + 1)).cut (by rw [List.length_map]) hk hlc).take m
        · omega
        · intro A' c' w2 g1 g2 g3 g4 g5 g6
          have hr2 : Rdr w2 r s := (h.drewN (nq + 1)).below g2
          have hg2 : w.grownBy w2 (some r) := grownBy_of_below (a := w) (w := w2) ⟨g2.os, g2.tape, g2.output, g2.size, g2.block⟩ _
          obtain ⟨A2, c2', ⟨d0, d1, d2⟩, ⟨e0, e1, e2⟩, _, _, _, _, _⟩ := hr2.open_
          have G1 := Lib.hid g1; clear g1
          have G2 := Lib.hid g2; clear g2
          have G5 := Lib.hid g5; clear g5
          have G6 := Lib.hid g6; clear g6
          clear c0 c1 c2 f0 f1 f2
          generalize (if c = s.at_ then A else Option.map (fun x => x.add s.at_) A) = A9
          have em : ((s.at_ : Int) + (m : Int)).toNat - s.at_ = m := by omega
          have G1' := G1.out
          rw [em] at G1'
          rw [em]
          have G3 := Lib.hid G1'; clear G1'
          clear G1 em g3 g4
          go_wp2
          go_ret
          rw [H1.out]
          refine ⟨_, rfl, ?_, ?_, ?_⟩
          · exact Own.setBelow (p := ⟨r, 1, none⟩) (show OwnB w2 w.heap.size _ _ from G3.out) h.lt _
          · have := hr2.setAt (s.at_ + m) (by omega)
            rw [show ((s.at_ + m : Nat) : Int) = (s.at_ : Int) + (m : Int) by omega] at this
            exact this
          · exact only_trans hg2 (only_set r 1 _)
  · have hb : (((s.err : Nat) : Int) != 0) = true := by rw [bne_iff_ne]; omega
    have e1 : takeR s n = ([], s) := if_pos h0
    rw [e1]
    clear e1
    have H0 := Lib.hid h0; clear h0
    go_enter Try.func78, Try.ntmps78
    go_wp2
    go_ret
    exact ⟨_, rfl, Own.nil_ _ _ _, h, World.grownBy.refl _ _⟩

def textR (s : RS) (most : Int) : List UInt8 × RS :=
  if s.err ≠ 0 then ([], s) else match varGo (s.b.drop s.at_) 0 with
    | .bad e => ([], { s with err := e })
    | .ok n k => if most < 0 ∨ most < (n : Int) then ([], { s with err := 4 })
      else if s.b.length < s.at_ + k + n then ([], { s with err := 2 })
      else ((s.b.drop (s.at_ + k)).take n, { s with at_ := s.at_ + k + n })


theorem setAt_back {w : World} {r : Nat} {s : RS} (k : Nat) (h : Rdr w r s) (q : Nat) (hk : k ≤ s.b.length) : Rdr ((w.drewN q).setCell ⟨r, 1, none⟩ (.int .i64 (k : Int))) r { s with at_ := k } ∧ w.grownBy ((w.drewN q).setCell ⟨r, 1, none⟩ (.int .i64 (k : Int))) (some r) :=
  ⟨(h.drewN q).setAt k hk, only_setD q r 1 _⟩

set_option maxRecDepth 100000 in
set_option maxHeartbeats 400000 in
theorem Rtext_bad (r : Nat) (s s1 : RS) (n : Nat) (most : Int) (w : World) (h : Rdr w r s) (hv : varR s = (n, s1)) (he : s1.err ≠ 0) :
    Calls Try.prog 85 #[.pointer (some ⟨r, 0, none⟩), .int .i64 most] w fun e w' => e = .returned (.slice none 0 0) ∧ Rdr w' r { s1 with at_ := s.at_ } ∧ w.grownBy w' (some r) := by
  have hV := Rvar_c r s w h
  rw [hv] at hV
  have HV := Lib.hid hV; clear hV
  have hsb : s1.b = s.b := by
    have := congrArg (fun x => x.2.b) hv
    simp only [varR] at this
    rw [← this]
    split
    · rfl
    · split <;> rfl
  obtain ⟨A, c, ⟨c0, c1, c2⟩, ⟨f0, f1, f2⟩, hrd, hlc, hcm, hk, hl⟩ := h.open_
  have hb : (((s1.err : Nat) : Int) != 0) = true := by rw [bne_iff_ne]; omega
  have HS := Lib.hid hsb; clear hsb
  clear he hv
  go_enter Try.func85, Try.ntmps85
  go_wp2_with (first | (go_at_call 83; refine HV.out.mono ?_; rintro e w1 ⟨rfl, hr1, hg1⟩; obtain ⟨A1, c1', ⟨d0, d1, d2⟩, ⟨e0, e1, e2⟩, _, _, _, _, _⟩ := hr1.open_; clear c0 c1 c2 f0 f1 f2))
  go_ret
  exact ⟨rfl, hr1.setAt s.at_ (by rw [HS.out]; exact hk), only_trans hg1 (only_set r 1 _)⟩

set_option maxRecDepth 100000 in
set_option maxHeartbeats 400000 in
theorem Rtext_long (r : Nat) (s s1 : RS) (n : Nat) (most : Int) (w : World) (h : Rdr w r s) (hv : varR s = (n, s1)) (he : s1.err = 0) (hm : (Lit.int .i64 most).wf = true) (hlong : most < 0 ∨ most < (n : Int)) :
    Calls Try.prog 85 #[.pointer (some ⟨r, 0, none⟩), .int .i64 most] w fun e w' => e = .returned (.slice none 0 0) ∧ Rdr w' r { s1 with at_ := s.at_, err := 4 } ∧ w.grownBy w' (some r) := by
  have hV := Rvar_c r s w h
  rw [hv] at hV
  have HV := Lib.hid hV; clear hV
  have hsb : s1.b = s.b := by
    have := congrArg (fun x => x.2.b) hv
    simp only [varR] at this
    rw [← this]
    split
    · rfl
    · split <;> rfl
  obtain ⟨A, c, ⟨c0, c1, c2⟩, ⟨f0, f1, f2⟩, hrd, hlc, hcm, hk, hl⟩ := h.open_
  have hb : (((s1.err : Nat) : Int) != 0) = false := by rw [bne_eq_false_iff_eq]; omega
  have HS := Lib.hid hsb; clear hsb
  obtain ⟨hm1, hm2⟩ := bounds_i64 hm
  clear he hv
  have fin : ∀ w1, Rdr w1 r s1 → w.grownBy w1 (some r) → Rdr ((w1.setCell ⟨r, 2, none⟩ (.int .i64 4)).setCell ⟨r, 1, none⟩ (.int .i64 (s.at_ : Int))) r { s1 with at_ := s.at_, err := 4 } ∧ w.grownBy ((w1.setCell ⟨r, 2, none⟩ (.int .i64 4)).setCell ⟨r, 1, none⟩ (.int .i64 (s.at_ : Int))) (some r) := fun w1 h1 h2 =>
    ⟨(h1.setErr 4).setAt s.at_ (by show _ ≤ s1.b.length; rw [HS.out]; exact hk), only_trans h2 (only_trans (only_set r 2 _) (only_set r 1 _))⟩
  have FIN := Lib.hid fin; clear fin
  rcases Int.lt_or_le most 0 with h0 | h0
  · clear hlong
    go_enter Try.func85, Try.ntmps85
    go_wp2_with (first | (go_at_call 83; refine HV.out.mono ?_; rintro e w1 ⟨rfl, hr1, hg1⟩; obtain ⟨A1, c1', ⟨d0, d1, d2⟩, ⟨e0, e1, e2⟩, _, _, _, _, _⟩ := hr1.open_; clear c0 c1 c2 f0 f1 f2))
    go_ret
    exact ⟨rfl, FIN.out _ hr1 hg1⟩
  · have h1 : most < (n : Int) := by omega
    clear hlong
    go_enter Try.func85, Try.ntmps85
    go_wp2_with (first | (go_at_call 83; refine HV.out.mono ?_; rintro e w1 ⟨rfl, hr1, hg1⟩; obtain ⟨A1, c1', ⟨d0, d1, d2⟩, ⟨e0, e1, e2⟩, _, _, _, _, _⟩ := hr1.open_; clear c0 c1 c2 f0 f1 f2))
    go_ret
    exact ⟨rfl, FIN.out _ hr1 hg1⟩

set_option maxRecDepth 100000 in
set_option maxHeartbeats 400000 in
theorem Rtext_short (r : Nat) (s s1 : RS) (n : Nat) (most : Int) (w : World) (h : Rdr w r s) (hv : varR s = (n, s1)) (he : s1.err = 0) (hm : (Lit.int .i64 most).wf = true) (h0 : 0 ≤ most) (h1 : (n : Int) ≤ most) (hs : s1.b.length < s1.at_ + n) :
    Calls Try.prog 85 #[.pointer (some ⟨r, 0, none⟩), .int .i64 most] w fun e w' => e = .returned (.slice none 0 0) ∧ Rdr w' r { s1 with at_ := s.at_, err := 2 } ∧ w.grownBy w' (some r) := by
  have hV := Rvar_c r s w h
  rw [hv] at hV
  have HV := Lib.hid hV; clear hV
  have hsb : s1.b = s.b := by
    have := congrArg (fun x => x.2.b) hv
    simp only [varR] at this
    rw [← this]
    split
    · rfl
    · split <;> rfl
  obtain ⟨A, c, ⟨c0, c1, c2⟩, ⟨f0, f1, f2⟩, hrd, hlc, hcm, hk, hl⟩ := h.open_
  have hb : (((s1.err : Nat) : Int) != 0) = false := by rw [bne_eq_false_iff_eq]; omega
  have HS := Lib.hid hsb; clear hsb
  obtain ⟨hm1, hm2⟩ := bounds_i64 hm
  clear he hv
  have fin : ∀ w1 q, Rdr w1 r s1 → w.grownBy w1 (some r) → Rdr (((w1.drewN q).setCell ⟨r, 2, none⟩ (.int .i64 2)).setCell ⟨r, 1, none⟩ (.int .i64 (s.at_ : Int))) r { s1 with at_ := s.at_, err := 2 } ∧ w.grownBy (((w1.drewN q).setCell ⟨r, 2, none⟩ (.int .i64 2)).setCell ⟨r, 1, none⟩ (.int .i64 (s.at_ : Int))) (some r) := fun w1 q h1 h2 =>
    ⟨((h1.drewN q).setErr 2).setAt s.at_ (by show _ ≤ s1.b.length; rw [HS.out]; exact hk), only_trans h2 (only_trans (only_setD q r 2 _) (only_set r 1 _))⟩
  have FIN := Lib.hid fin; clear fin
  go_enter Try.func85, Try.ntmps85
  go_wp2_with (first | (go_at_call 83; refine HV.out.mono ?_; rintro e w1 ⟨rfl, hr1, hg1⟩; obtain ⟨A1, c1', ⟨d0, d1, d2⟩, ⟨e0, e1, e2⟩, _, _, _, hk1, hl1⟩ := hr1.open_; have hw := IntWalk.u64_in ((s1.b.length : Int) - (s1.at_ : Int)) ⟨by omega, by omega⟩; clear c0 c1 c2 f0 f1 f2))
  go_quiet (fail)
  go_wp2
  go_ret
  exact ⟨rfl, FIN.out _ _ hr1 hg1⟩

set_option maxRecDepth 100000 in
set_option maxHeartbeats 400000 in
theorem Rtext_take (r : Nat) (s s1 : RS) (n : Nat) (most : Int) (w : World) (h : Rdr w r s) (hv : varR s = (n, s1)) (he : s1.err = 0) (hm : (Lit.int .i64 most).wf = true) (h0 : 0 ≤ most) (h1 : (n : Int) ≤ most) (hs : s1.at_ + n ≤ s1.b.length) :
    Calls Try.prog 85 #[.pointer (some ⟨r, 0, none⟩), .int .i64 most] w fun e w' => ∃ v, e = .returned v ∧ OwnB w' w.heap.size v ((s1.b.drop s1.at_).take n) ∧ Rdr w' r { s1 with at_ := s1.at_ + n } ∧ w.grownBy w' (some r) := by
  have hV := Rvar_c r s w h
  rw [hv] at hV
  have HV := Lib.hid hV; clear hV
  obtain ⟨A, c, ⟨c0, c1, c2⟩, ⟨f0, f1, f2⟩, hrd, hlc, hcm, hk, hl⟩ := h.open_
  have hb : (((s1.err : Nat) : Int) != 0) = false := by rw [bne_eq_false_iff_eq]; omega
  obtain ⟨hm1, hm2⟩ := bounds_i64 hm
  have ht : takeR s1 (n : Int) = ((s1.b.drop s1.at_).take n, { s1 with at_ := s1.at_ + n }) := by
    rw [takeR, if_neg (by omega), if_neg (by omega), if_neg (by omega)]; rfl
  have HT := Lib.hid ht; clear ht
  clear he hv
  go_enter Try.func85, Try.ntmps85
  go_wp2_with (first | (go_at_call 83; refine HV.out.mono ?_; rintro e w1 ⟨rfl, hr1, hg1⟩; obtain ⟨A1, c1', ⟨d0, d1, d2⟩, ⟨e0, e1, e2⟩, _, _, _, hk1, hl1⟩ := hr1.open_; have hw := IntWalk.u64_in ((s1.b.length : Int) - (s1.at_ : Int)) ⟨by omega, by omega⟩; clear c0 c1 c2 f0 f1 f2))
  go_quiet (fail)
  go_wp2_with (fail)
  refine (Rtake_c r s1 (n : Int) _ (hr1.drewN _) (WalkArith.wf_i64 (by omega))).mono ?_
  rintro e w2 ⟨v, rfl, ho, hr2, hg2⟩
  rw [HT.out] at ho hr2
  have HO := Lib.hid ho; clear ho
  have HR2 := Lib.hid hr2; clear hr2
  go_wp2
  go_ret
  exact ⟨_, rfl, Own.low HO.out hg1.size, HR2.out, only_trans hg1 (only_of_drewN hg2)⟩

theorem Rtext_c (r : Nat) (s : RS) (most : Int) (w : World) (h : Rdr w r s) (hm : (Lit.int .i64 most).wf = true) :
    Calls Try.prog 85 #[.pointer (some ⟨r, 0, none⟩), .int .i64 most] w fun e w' => ∃ v, e = .returned v ∧ OwnB w' w.heap.size v (textR s most).1 ∧ Rdr w' r (textR s most).2 ∧ w.grownBy w' (some r) := by
  by_cases h0 : s.err = 0
  · cases hg : varGo (s.b.drop s.at_) 0 with
    | bad e =>
      have hv : varR s = (0, { s with err := e }) := by rw [varR, if_neg (by omega), hg]
      have ht : textR s most = ([], { s with err := e }) := by rw [textR, if_neg (by omega), hg]
      rw [ht]
      refine (Rtext_bad r s _ 0 most w h hv (by rcases varGo_err hg with rfl | rfl <;> simp)).mono ?_
      rintro e w' ⟨rfl, h1, h2⟩
      exact ⟨_, rfl, Own.nil_ _ _ _, h1, h2⟩
    | ok n k =>
      have hv : varR s = (n, { s with at_ := s.at_ + k }) := by rw [varR, if_neg (by omega), hg]
      by_cases hl : most < 0 ∨ most < (n : Int)
      · have ht : textR s most = ([], { s with err := 4 }) := by rw [textR, if_neg (by omega), hg]; exact if_pos hl
        rw [ht]
        refine (Rtext_long r s _ n most w h hv h0 hm hl).mono ?_
        rintro e w' ⟨rfl, h1, h2⟩
        exact ⟨_, rfl, Own.nil_ _ _ _, h1, h2⟩
      · by_cases hs : s.b.length < s.at_ + k + n
        · have ht : textR s most = ([], { s with err := 2 }) := by rw [textR, if_neg (by omega), hg]; exact (if_neg hl).trans (if_pos hs)
          rw [ht]
          refine (Rtext_short r s _ n most w h hv h0 hm (by omega) (by omega) hs).mono ?_
          rintro e w' ⟨rfl, h1, h2⟩
          exact ⟨_, rfl, Own.nil_ _ _ _, h1, h2⟩
        · have ht : textR s most = ((s.b.drop (s.at_ + k)).take n, { s with at_ := s.at_ + k + n }) := by rw [textR, if_neg (by omega), hg]; exact (if_neg hl).trans (if_neg hs)
          rw [ht]
          exact Rtext_take r s _ n most w h hv h0 hm (by omega) (by omega) (by show s.at_ + k + n ≤ s.b.length; omega)
  · have hv : varR s = (0, s) := if_pos h0
    have ht : textR s most = ([], s) := if_pos h0
    rw [ht]
    refine (Rtext_bad r s s 0 most w h hv h0).mono ?_
    rintro e w' ⟨rfl, h1, h2⟩
    exact ⟨_, rfl, Own.nil_ _ _ _, h1, h2⟩

end Go.Proofs.Ytcffinkkfdfcaaa

/- What the reference's reader does: the same as the layer's. Conditions: lengths that fit. -/
namespace Go.Proofs.Ytcffinkkfdfcaaa
open Go Go.RowKit

/-- The reference's reader as a value. -/
def rsV (A : Option Addr) (c : Nat) (s : RS) : Value := .agg #[.slice A s.b.length c, .int .i64 (s.at_ : Int), .int .i64 (s.err : Int)]
/-- What is known of it. -/
def RsOk (w : World) (A : Option Addr) (c : Nat) (s : RS) : Prop := Rd w A (s.b.map bv) ∧ s.b.length ≤ c ∧ c ≤ maxLen ∧ s.at_ ≤ s.b.length ∧ s.b.length ≤ 140737488355328

set_option maxRecDepth 100000 in
set_option maxHeartbeats 400000 in
theorem refLeft_c (A : Option Addr) (c : Nat) (s : RS) (w : World) (h : RsOk w A c s) :
    Calls Try.prog 91 #[rsV A c s] w fun e w' => e = .returned (.int .i64 ((s.b.length - s.at_ : Nat) : Int)) ∧ Below w.heap.size w w' := by
  obtain ⟨h1, h2, h3, h4, h5⟩ := h
  have e1 : ((s.b.length - s.at_ : Nat) : Int) = (s.b.length : Int) - (s.at_ : Int) := by omega
  rw [e1]
  clear e1
  unfold rsV
  go_enter Try.func91, Try.ntmps91
  go_wp2
  go_ret
  exact ⟨rfl, (Below.refl _ _).alloc (Nat.le_refl _) _⟩

end Go.Proofs.Ytcffinkkfdfcaaa

/- Plain law: what is read as a number is just what is laid for it, and the other way round. Conditions: none. -/
namespace Go.Proofs.Ytcffinkkfdfcaaa
open Go Go.RowKit

theorem varGo_one : ∀ (l : List UInt8) (i n k : Nat), varGo l i = .ok n k → l.take k = varL n ∧ (0 < i → 0 < n)
  | [], _, _, _, h => by cases h
  | d :: l, i, n, k, h => by
    have hd := UInt8.toNat_lt d
    rw [varGo] at h
    by_cases hb : (i = 9 ∧ 1 < d.toNat) ∨ (0 < i ∧ d.toNat = 0)
    · rw [if_pos hb] at h; cases h
    · rw [if_neg hb] at h
      have hz : 0 < i → 0 < d.toNat := fun hi => by
        rcases Nat.eq_zero_or_pos d.toNat with h0 | h0
        · exact absurd (.inr ⟨hi, h0⟩) hb
        · exact h0
      by_cases h8 : d.toNat < 128
      · rw [if_pos h8] at h
        injection h with h1 h2
        subst h1; subst h2
        refine ⟨?_, hz⟩
        rw [varL_lo h8]
        show [d] = _
        congr 1
        apply UInt8.toNat_inj.1
        rw [lo_nat]; omega
      · rw [if_neg h8] at h
        cases hv : varGo l (i + 1) with
        | bad e => rw [hv] at h; cases h
        | ok n' k' =>
          rw [hv] at h
          injection h with h1 h2
          obtain ⟨g1, g2⟩ := varGo_one l (i + 1) n' k' hv
          have g3 := g2 (by omega)
          subst h1; subst h2
          refine ⟨?_, fun _ => by omega⟩
          rw [varL_hi (by omega), List.take_succ_cons, g1]
          congr 1
          · apply UInt8.toNat_inj.1
            rw [dig_nat]; omega
          · congr 1; omega

theorem varGo_back : ∀ (m : Nat) (n i : Nat) (more : List UInt8), n ≤ m → i ≤ 9 → n < 2 ^ (64 - 7 * i) → (0 < i → 0 < n) → varGo (varL n ++ more) i = .ok n (varL n).length := by
  intro m
  induction m using Nat.strongRecOn with
  | _ m ih =>
    intro n i more hnm hi hn hz
    by_cases h8 : n < 128
    · rw [varL_lo h8]
      show varGo (lo n :: more) i = _
      rw [varGo, if_neg, if_pos (by rw [lo_nat]; omega), lo_nat, Nat.mod_eq_of_lt (by omega)]
      · rfl
      · rw [lo_nat]
        rintro (⟨h1, h2⟩ | ⟨h1, h2⟩)
        · subst h1
          have : n < 2 ^ 1 := hn
          omega
        · have := hz h1; omega
    · rw [varL_hi (by omega)]
      have hi9 : i < 9 := by
        rcases Nat.lt_or_ge i 9 with h | h
        · exact h
        · obtain rfl : i = 9 := by omega
          have : n < 2 ^ 1 := hn
          omega
      have e : 2 ^ (64 - 7 * i) = 128 * 2 ^ (64 - 7 * (i + 1)) := by
        rw [show (128 : Nat) = 2 ^ 7 from rfl, ← Nat.pow_add]; congr 1; omega
      have h1 := ih (n / 128) (by omega) (n / 128) (i + 1) more (Nat.le_refl _) (by omega) (by omega) (by omega)
      show varGo (dig n :: (varL (n / 128) ++ more)) i = _
      rw [varGo, if_neg, if_neg (by rw [dig_nat]; omega), h1, dig_nat]
      · simp only [List.length_cons, VR.ok.injEq, and_true]
        omega
      · rw [dig_nat]
        rintro (⟨h1, h2⟩ | ⟨h1, h2⟩) <;> omega

theorem varGo_laid {n : Nat} (h : U64 n) (more : List UInt8) : varGo (varL n ++ more) 0 = .ok n (varL n).length := varGo_back n n 0 more (Nat.le_refl _) (by decide) h (fun h => absurd h (by decide))

theorem beN_cons (d : UInt8) (l : List UInt8) : beN (d :: l) = d.toNat * 256 ^ l.length + beN l := by
  have h : ∀ (l : List UInt8) (a : Nat), l.foldl (fun a d => a * 256 + d.toNat) a = a * 256 ^ l.length + beN l := by
    intro l
    induction l with
    | nil => intro a; simp [beN]
    | cons d l ih =>
      intro a
      have e2 : beN (d :: l) = d.toNat * 256 ^ l.length + beN l := by
        show List.foldl (fun a d => a * 256 + d.toNat) (0 * 256 + d.toNat) l = _
        rw [ih, Nat.zero_mul, Nat.zero_add]
      rw [List.foldl_cons, ih, e2, List.length_cons, Nat.pow_succ, Nat.add_mul]
      have e : a * 256 * 256 ^ l.length = a * (256 ^ l.length * 256) := by rw [Nat.mul_assoc, Nat.mul_comm 256]
      rw [e, Nat.add_assoc]
  show List.foldl (fun a d => a * 256 + d.toNat) (0 * 256 + d.toNat) l = _
  rw [h, Nat.zero_mul, Nat.zero_add]
theorem numL_succ (n size : Nat) : numL n (size + 1) = lo (n / 256 ^ size) :: numL n size := by
  unfold numL
  rw [List.range_succ_eq_map, List.map_cons, List.map_map]
  congr 1
  apply List.map_congr_left
  intro i hi
  show lo (n / 256 ^ (size + 1 - 1 - (i + 1))) = _
  rw [show size + 1 - 1 - (i + 1) = size - 1 - i by omega]
theorem beN_num (n : Nat) : ∀ size, beN (numL n size) = n % 256 ^ size
  | 0 => by simp [numL, beN, Nat.mod_one]
  | size + 1 => by
    rw [numL_succ, beN_cons, numL_length, beN_num n size, lo_nat, Nat.pow_succ, Nat.mod_mul]
    rw [Nat.mul_comm]; omega

/-- Digits of 128, the lowest first, as a number. -/
def valL : List UInt8 → Nat
  | [] => 0
  | d :: l => d.toNat % 128 + 128 * valL l
theorem valL_snoc (l : List UInt8) (d : UInt8) : valL (l ++ [d]) = valL l + 128 ^ l.length * (d.toNat % 128) := by
  induction l with
  | nil => simp [valL]
  | cons e l ih =>
    rw [List.cons_append, valL, ih, valL, List.length_cons, Nat.pow_succ, Nat.mul_add, Nat.mul_comm (128 ^ l.length) 128, Nat.mul_assoc, Nat.add_assoc]
theorem valL_drop_le (l : List UInt8) (j : Nat) : valL (l.drop j) ≤ valL l := by
  induction l generalizing j with
  | nil => simp
  | cons d l ih =>
    cases j with
    | zero => simp
    | succ j =>
      rw [List.drop_succ_cons]
      have := ih j
      simp only [valL]; omega
theorem valL_lt (l : List UInt8) : valL l < 128 ^ l.length := by
  induction l with
  | nil => decide
  | cons d l ih => rw [valL, List.length_cons, Nat.pow_succ]; omega
end Go.Proofs.Ytcffinkkfdfcaaa

/- What the reference's reader does: Var, Take, Text, End. Conditions: lengths that fit. -/
namespace Go.Proofs.Ytcffinkkfdfcaaa
open Go Go.RowKit

theorem heap2_old (w : World) (a b : Obj) : ((w.alloc a).alloc b).heap[w.heap.size]? = some a := (Below.heap_alloc _ _ w.heap.size (by simp)).trans (heap_alloc_new w _)
theorem heap2_new (w : World) (a b : Obj) : ((w.alloc a).alloc b).heap[w.heap.size + 1]? = some b := by
  have h := heap_alloc_new (w.alloc a) b
  rwa [World.size_alloc] at h

/-- What is known of a box of three cells. -/
theorem box3 {w : World} {g : Nat} {x y z : Value} {t : TypeId} (h : w.heap[g]? = some (.cells #[x, y, z] t (0, 0))) :
    (w.cell? ⟨g, 0, none⟩ = some x ∧ w.cell? ⟨g, 1, none⟩ = some y ∧ w.cell? ⟨g, 2, none⟩ = some z) ∧ w.frozen? ⟨g, 0, none⟩ = false ∧ w.frozen? ⟨g, 1, none⟩ = false ∧ w.frozen? ⟨g, 2, none⟩ = false :=
  ⟨⟨by rw [heap_cell h]; rfl, by rw [heap_cell h]; rfl, by rw [heap_cell h]; rfl⟩, heap_free h _, heap_free h _, heap_free h _⟩

set_option maxRecDepth 100000 in
set_option maxHeartbeats 400000 in
theorem refTake_c (A : Option Addr) (c : Nat) (s : RS) (n : Int) (w : World) (h : RsOk w A c s) (hs : (Lit.int .i64 n).wf = true) :
    Calls Try.prog 96 #[rsV A c s, .int .i64 n] w fun e w' => ∃ v, e = .returned (.tuple #[v, rsV A c (takeR s n).2]) ∧ OwnB w' w.heap.size v (takeR s n).1 ∧ Below w.heap.size w w' := by
  obtain ⟨h1, h2, h3, h4, h5⟩ := h
  by_cases h0 : s.err = 0
  · have hb : (((s.err : Nat) : Int) != 0) = false := by rw [bne_eq_false_iff_eq]; omega
    rcases Int.lt_or_le n 0 with k1 | k1
    · have e1 : takeR s n = ([], { s with err := 1 }) := by rw [takeR, if_neg (by omega), if_pos k1]
      rw [e1]
      clear e1
      have H0 := Lib.hid h0; clear h0
      unfold rsV
      go_enter Try.func96, Try.ntmps96
      go_wp2
      go_region
      all_goals
        go_wp2
        go_returns
        exact ⟨_, rfl, Own.nil_ _ _ _, by go_grown⟩
    · obtain ⟨m, rfl⟩ := Int.eq_ofNat_of_zero_le k1
      by_cases hsh : (s.b.length : Int) - (s.at_ : Int) < (m : Int)
      · have e1 : takeR s m = ([], { s with err := 2 }) := by rw [takeR, if_neg (by omega), if_neg (by omega), if_pos hsh]
        rw [e1]
        clear e1
        have H0 := Lib.hid h0; clear h0
        unfold rsV
        go_enter Try.func96, Try.ntmps96
        go_wp2
        go_region
        all_goals
          go_wp2
          go_returns
          exact ⟨_, rfl, Own.nil_ _ _ _, by go_grown⟩
      · have e1 : takeR s m = ((s.b.drop s.at_).take m, { s with at_ := s.at_ + m }) := by rw [takeR, if_neg (by omega), if_neg (by omega), if_neg hsh]; rfl
        have hsh' : (m : Int) ≤ (s.b.length : Int) - (s.at_ : Int) := by omega
        have hlen : ((s.b.drop s.at_).take m).length = m := by rw [List.length_take, List.length_drop]; omega
        have HLEN := Lib.hid hlen; clear hlen
        have hcut := (h1.cut (by rw [List.length_map]) h4 h2).take m
        rw [← List.map_drop, ← List.map_take] at hcut
        have hw2 : (s.at_ : Int) + (m : Int) ≤ (c : Int) := by omega
        rw [e1]
        clear e1 hsh
        have H0 := Lib.hid h0; clear h0
        unfold rsV
        by_cases hc : c = s.at_
        · subst hc
          obtain rfl : m = 0 := by omega
          rw [if_pos rfl] at hcut
          have HCUT := Lib.hid hcut; clear hcut
          go_enter Try.func96, Try.ntmps96
          go_wp2_with (fail)
          refine (Copy_c _ _ _ ((s.b.drop s.at_).take 0) _ HLEN.out ((HCUT.out.alloc _).alloc _) (by omega)).mono ?_
          rintro e w1 ⟨v, rfl, ho, hb1⟩
          have z := hb1.size
          simp only [World.size_alloc] at z hb1 ho
          have x0 := box3 ((hb1.block w.heap.size (by omega)).trans (heap2_old w _ _))
          have x1 := box3 ((hb1.block (w.heap.size + 1) (by omega)).trans (heap2_new w _ _))
          obtain ⟨⟨a0, a1, a2⟩, b0, b1, b2⟩ := x0
          obtain ⟨⟨d0, d1, d2⟩, f0, f1, f2⟩ := x1
          have hB : Below w.heap.size w w1 := (((Below.refl _ _).alloc (Nat.le_refl _) _).alloc (by simp) _).trans (hb1.mono (by omega))
          have HO := Lib.hid ho; clear ho
          go_wp2_with (fail)
          go_region
          all_goals
            go_wp2
            refine bodyPost_ret (v := .tuple #[v, .agg #[.slice A s.b.length s.at_, .int .i64 ((s.at_ : Int) + ((0 : Nat) : Int)), .int .i64 (s.err : Int)]]) (by simp [results, Try.results96, go_sem, d0, d1, d2]) rfl ?_
            refine ⟨v, by simp only [Int.natCast_add], ?_, ?_⟩
            · exact Own.low (Own.drewN (Own.setBelow (Own.setBelow (Own.setBelow (Own.setBelow HO.out (by show w.heap.size < _; omega) _) (by show w.heap.size + 1 < _; omega) _) (by show w.heap.size + 1 < _; omega) _) (by show w.heap.size + 1 < _; omega) _) 1) (by omega)
            · exact ((((hB.setCell (by simp) _).setCell (by simp) _).setCell (by simp) _).setCell (by simp) _).drew
        · rw [if_neg hc] at hcut
          have HCUT := Lib.hid hcut; clear hcut
          go_enter Try.func96, Try.ntmps96
          go_wp2_with (fail)
          refine (Copy_c _ _ _ ((s.b.drop s.at_).take m) _ HLEN.out ((HCUT.out.alloc _).alloc _) (by omega)).mono ?_
          rintro e w1 ⟨v, rfl, ho, hb1⟩
          have z := hb1.size
          simp only [World.size_alloc] at z hb1 ho
          have x0 := box3 ((hb1.block w.heap.size (by omega)).trans (heap2_old w _ _))
          have x1 := box3 ((hb1.block (w.heap.size + 1) (by omega)).trans (heap2_new w _ _))
          obtain ⟨⟨a0, a1, a2⟩, b0, b1, b2⟩ := x0
          obtain ⟨⟨d0, d1, d2⟩, f0, f1, f2⟩ := x1
          have hB : Below w.heap.size w w1 := (((Below.refl _ _).alloc (Nat.le_refl _) _).alloc (by simp) _).trans (hb1.mono (by omega))
          have HO := Lib.hid ho; clear ho
          go_wp2_with (fail)
          go_region
          all_goals
            go_wp2
            refine bodyPost_ret (v := .tuple #[v, .agg #[.slice A s.b.length c, .int .i64 ((s.at_ : Int) + ((m : Nat) : Int)), .int .i64 (s.err : Int)]]) (by simp [results, Try.results96, go_sem, d0, d1, d2]) rfl ?_
            refine ⟨v, by simp only [Int.natCast_add], ?_, ?_⟩
            · exact Own.low (Own.drewN (Own.setBelow (Own.setBelow (Own.setBelow (Own.setBelow HO.out (by show w.heap.size < _; omega) _) (by show w.heap.size + 1 < _; omega) _) (by show w.heap.size + 1 < _; omega) _) (by show w.heap.size + 1 < _; omega) _) 1) (by omega)
            · exact ((((hB.setCell (by simp) _).setCell (by simp) _).setCell (by simp) _).setCell (by simp) _).drew
  · have hb : (((s.err : Nat) : Int) != 0) = true := by rw [bne_iff_ne]; omega
    have e1 : takeR s n = ([], s) := if_pos h0
    rw [e1]
    clear e1
    have H0 := Lib.hid h0; clear h0
    unfold rsV
    go_enter Try.func96, Try.ntmps96
    go_wp2
    go_region
    all_goals
      go_wp2
      go_returns
      exact ⟨_, rfl, Own.nil_ _ _ _, by go_grown⟩
end Go.Proofs.Ytcffinkkfdfcaaa

/- What tlv.clone answers: the item in memory of its own. Conditions: an item that can be read. -/
namespace Go.Proofs.Ytcffinkkfdfcaaa
open Go Go.RowKit

/-- An item as a value. -/
def ItV.val (d : ItV) : Value := .agg #[.int .i64 d.k, .bool d.cr, .bool d.li, .slice d.A d.n d.c, .slice d.As d.ns d.cs]
/-- The world within the copying of an item. -/
structure ClS (w0 : World) (gb : Nat) (d : ItV) (bs : List UInt8) (v : Value) (ds : List ItV) (P : Fo) (w : World) : Prop where
  box : w.heap[w0.heap.size]? = some (.cells d.cells.toArray 76 (0, 0))
  res : w.heap[w0.heap.size + 1]? = some (.cells #[.int .i64 0, .bool false, .bool false, .slice none 0 0, .slice none 0 0] 76 (0, 0))
  txt : TxtO (fun j => w0.heap.size + 1 < j ∧ j < gb) w d.A d.n d.c bs
  out : FoP (gb ≤ ·) w v ds P
  bel : Below w0.heap.size w0 w
  lo : w0.heap.size + 2 ≤ gb ∧ gb ≤ w.heap.size
section
variable {w0 w w' : World} {gb : Nat} {d : ItV} {bs : List UInt8} {v v' : Value} {ds : List ItV} {P : Fo}
theorem ClS.below (h : ClS w0 gb d bs v ds P w) (hb : Below w.heap.size w w') : ClS w0 gb d bs v ds P w' :=
  ⟨(hb.block _ (heap_lt h.box)).trans h.box, (hb.block _ (heap_lt h.res)).trans h.res, h.txt.frame (fun j _ hj => hb.block j hj), h.out.below hb, h.bel.trans (hb.mono h.bel.size), h.lo.1, Nat.le_trans h.lo.2 hb.size⟩
theorem ClS.more (h : ClS w0 gb d bs v ds P w) {e : ItV} {R : Fo} (hd : ItsO (fun j => gb ≤ j ∧ v.ownBlock ≠ some j) w [e] R) (ho : OwnI w' 0 v' (ds ++ [e])) (hg : w.grownBy w' v.ownBlock) (hv : v'.ownBlock = v.ownBlock ∨ v'.ownBlock = some w.heap.size) :
    ClS w0 gb d bs v' (ds ++ [e]) (P.app R) w' := by
  have hlo := h.lo
  have hne : ∀ j, j < w.heap.size → j < gb → w'.heap[j]? = w.heap[j]? := fun j hl hj => hg.block j hl (fun e => by have : gb ≤ j := h.out.ok_ j e.symm; omega)
  exact ⟨(hne _ (heap_lt h.box) (by omega)).trans h.box, (hne _ (heap_lt h.res) (by omega)).trans h.res, h.txt.frame (fun j hj hl => hne j hl hj.2), h.out.more hd ho hg hv hlo.2,
    h.bel.grown hg h.bel.size (fun k e => by have : gb ≤ k := h.out.ok_ k e; omega), hlo.1, Nat.le_trans hlo.2 hg.size⟩
end
set_option maxRecDepth 100000 in
set_option maxHeartbeats 8000000 in
theorem clone_it : ∀ (M : Nat) (sub : Fo), sub.size = M → ∀ (ok : Nat → Prop) (k : Int) (cr li : Bool) (bs : List UInt8) (A : Option Addr) (n c : Nat) (As : Option Addr) (ns cs : Nat) (w : World), TxtR ok w A n c bs → sub.len = ns → FoR ok w As 0 sub → sub.size ≤ 100000 →
    Calls Try.prog 93 #[.agg #[.int .i64 k, .bool cr, .bool li, .slice A n c, .slice As ns cs]] w fun r w' => ∃ d : ItV, r = .returned d.val ∧ ItsO (w.heap.size ≤ ·) w' [d] (.cons k cr li bs sub .nil) ∧ Below w.heap.size w w' := by
  intro M
  induction M using Nat.strongRecOn with
  | _ M ih =>
    intro sub hM ok k cr li bs A n c As ns cs w ht hns h1 hl
    have IH := Lib.hid ih; clear ih
    have HM := Lib.hid hM; clear hM
    have HT := Lib.hid ht
    obtain ⟨t1, t2, t3, t4, -, t5⟩ := ht
    have T1 := Lib.hid t1
    have HL := Lib.hid hl
    replace hl : ns ≤ 100000 := by have := Fo.len_le sub; omega
    have HNS := Lib.hid hns
    have H1 := Lib.hid h1
    clear t1 hns h1
    obtain ⟨w2, ew2⟩ : ∃ w2, w2 = (w.alloc (.cells #[.int .i64 k, .bool cr, .bool li, .slice A n c, .slice As ns cs] 76)).alloc (.cells #[.int .i64 0, .bool false, .bool false, .slice none 0 0, .slice none 0 0] 76) := ⟨_, rfl⟩
    obtain ⟨gx, egx⟩ : ∃ gx, gx = w.heap.size := ⟨_, rfl⟩
    have b2 : Below w.heap.size w w2 := by rw [ew2]; exact ((Below.refl _ _).alloc (Nat.le_refl _) _).alloc (by simp) _
    have g0 : w2.heap[gx]? = some (.cells #[.int .i64 k, .bool cr, .bool li, .slice A n c, .slice As ns cs] 76 (0, 0)) := by rw [ew2, egx]; exact heap2_old w _ _
    have g1 : w2.heap[gx + 1]? = some (.cells #[.int .i64 0, .bool false, .bool false, .slice none 0 0, .slice none 0 0] 76 (0, 0)) := by rw [ew2, egx]; exact heap2_new w _ _
    have x3 : w2.cell? ⟨gx, 3, none⟩ = some (.slice A n c) := by rw [heap_cell g0]; rfl
    have xf : w2.frozen? ⟨gx, 3, none⟩ = false := heap_free g0 _
    have EW2 := Lib.hid ew2
    have EGX := Lib.hid egx
    have B2 := Lib.hid b2
    have G0 := Lib.hid g0
    have G1 := Lib.hid g1
    have R2 := Lib.hid (t2.below b2)
    clear ew2 egx b2 g0 g1 t2
    go_enter Try.func93, Try.ntmps93
    go_upto_region 1 with (fail)
    rw [← EW2.out, ← EGX.out]
    go_upto_region 3 with (at_builtin; refine wpList_cloneB _ rfl (.tmp 7) rfl A n c bs rfl T1.out R2.out t5 ?_; intro A' c' w3 p1 p2 p3 p4 p5 p6; have P1 := Lib.hid p1; have P2 := Lib.hid p2; have P3 := Lib.hid p3; have P4 := Lib.hid p4; have z3 : w3.cell? ⟨gx, 3, none⟩ = some (.slice A n c) := (p2.cell (p := ⟨gx, 3, none⟩) (heap_lt G0.out)).trans x3; have zf : w3.frozen? ⟨gx, 3, none⟩ = false := heap_free ((p2.block gx (heap_lt G0.out)).trans G0.out) _; clear p1 p2 p3 p4 p5 p6 x3 xf)
    obtain ⟨w4, ew4⟩ : ∃ w4, w4 = w3.setCell ⟨gx, 3, none⟩ (.slice A' n c') := ⟨_, rfl⟩
    have h3x := (P2.out.block gx (heap_lt G0.out)).trans G0.out
    have h3r := (P2.out.block (gx + 1) (heap_lt G1.out)).trans G1.out
    have z23 := P2.out.size
    have z2g := heap_lt G1.out
    have hne0 : gx = w.heap.size := EGX.out
    have k34 : Keeps (fun j => j = gx) w3 w4 := by rw [ew4]; exact Keeps.set _ _ _ _ rfl
    obtain ⟨gb, egb⟩ : ∃ gb, gb = w3.heap.size := ⟨_, rfl⟩
    have hS4 : ClS w gb ⟨k, cr, li, A', n, c', As, ns, cs⟩ bs (.slice none 0 0) [] .nil w4 := by
      refine ⟨?_, ?_, ⟨T1.out, ?_, ?_, t5⟩, FoP.nil_ _ _, ?_, ?_, ?_⟩
      · rw [ew4, ← hne0, heap_set h3x]; rfl
      · rw [← hne0]; exact (k34.block _ (heap_lt h3r) (by show ¬ gx + 1 = gx; omega)).trans h3r
      · have := P1.out
        refine Own.frameK (Own.low this (Nat.zero_le _)) (fun g e => k34.block g (Own.lt this g e).2 (by have := (Own.lt this g e).1; show ¬ g = gx; omega))
      · intro a e
        subst e
        have := Own.lt P1.out a.block rfl
        exact ⟨by omega, by omega⟩
      · exact below_drewN ((B2.out.trans (P2.out.mono B2.out.size)).trans (by rw [ew4]; exact (Below.refl _ _).setCell (p := ⟨gx, 3, none⟩) (by show _ ≤ gx; omega) _)) 0
      · omega
      · rw [egb]; exact k34.size
    have HS4 := Lib.hid hS4
    have EW4 := Lib.hid ew4
    rw [← EW4.out]
    clear ew4 h3x h3r z23 z2g hne0 k34 egb hS4 z3 zf G0 G1 B2 P1 P2 P3 P4 R2 EW2
    have x4 : w4.cell? ⟨gx, 4, none⟩ = some (.slice As ns cs) := by rw [EGX.out, heap_cell HS4.out.box]; rfl
    go_wp2_with (fail)
    go_loopw [3, 13] (fun v i wr => ∃ (q : Nat) (r P : Fo) (ds : List ItV), i = .int .i64 q ∧ Hid (q + r.len = ns) ∧ Hid (FoR ok w As q r) ∧ Hid (r.size ≤ sub.size) ∧ Hid (sub = P.app r) ∧ Hid (P.len = q) ∧ Hid (ClS w gb ⟨k, cr, li, A', n, c', As, ns, cs⟩ bs v ds P wr)) (fun _ i _ => ns - (intOf i).toNat)
    case atStart => exact ⟨0, sub, .nil, [], rfl, Lib.hid (by rw [HNS.out]; omega), H1, Lib.hid (Nat.le_refl _), Lib.hid rfl, Lib.hid rfl, HS4⟩
    case round =>
      clear HS4 x4
      obtain ⟨q, r, P, ds, rfl, HK, R1, HSz, HF, HPl, HS⟩ := hrel
      cases r with
      | nil =>
        have hk : q = ns := HK.out
        have hk' : (ns : Int) ≤ (q : Int) := by omega
        have hF : sub = P := by rw [HF.out, Fo.app_nil]
        obtain ⟨A9, c9, ev, j1, j2, -⟩ := HS.out.out.o.form (n := ns) (by rw [← hF]; exact HNS.out)
        have HS' := Lib.hid (ev ▸ HS.out)
        subst ev
        have hb := HS'.out.box
        have hr := HS'.out.res
        rw [← EGX.out] at hb hr
        have b4 : wr.cell? ⟨gx, 4, none⟩ = some (.slice As ns cs) := by rw [heap_cell hb]; rfl
        have bf : wr.frozen? ⟨gx, 4, none⟩ = false := heap_free hb _
        obtain ⟨w7, ew7⟩ : ∃ w7, w7 = wr.setCell ⟨gx, 4, none⟩ (.slice A9 ns c9) := ⟨_, rfl⟩
        have h7 : w7.heap[gx]? = some (.cells #[.int .i64 k, .bool cr, .bool li, .slice A' n c', .slice A9 ns c9] 76 (0, 0)) := by rw [ew7, heap_set hb]; rfl
        have r7 : w7.heap[gx + 1]? = some (.cells #[.int .i64 0, .bool false, .bool false, .slice none 0 0, .slice none 0 0] 76 (0, 0)) := by rw [ew7]; exact (heap_far _ (by show gx + 1 ≠ gx; omega)).trans hr
        obtain ⟨w8, ew8⟩ : ∃ w8, w8 = ((((w7.setCell ⟨gx + 1, 0, none⟩ (.int .i64 k)).setCell ⟨gx + 1, 1, none⟩ (.bool cr)).setCell ⟨gx + 1, 2, none⟩ (.bool li)).setCell ⟨gx + 1, 3, none⟩ (.slice A' n c')).setCell ⟨gx + 1, 4, none⟩ (.slice A9 ns c9) := ⟨_, rfl⟩
        have r8 : w8.heap[gx + 1]? = some (.cells #[.int .i64 k, .bool cr, .bool li, .slice A' n c', .slice A9 ns c9] 76 (0, 0)) := by
          rw [ew8, heap_set (heap_set (heap_set (heap_set (heap_set r7 _ _) _ _) _ _) _ _) _ _]; rfl
        have k8 : Keeps (fun j => j = gx ∨ j = gx + 1) wr w8 := by
          rw [ew8, ew7]
          refine (((((Keeps.set _ _ _ _ (.inl rfl)).trans (Keeps.set _ _ _ _ (.inr rfl))).trans (Keeps.set _ _ _ _ (.inr rfl))).trans (Keeps.set _ _ _ _ (.inr rfl))).trans (Keeps.set _ _ _ _ (.inr rfl))).trans (Keeps.set _ _ _ _ (.inr rfl))
        have fin : ItsO (w.heap.size ≤ ·) w8 [⟨k, cr, li, A', n, c', A9, ns, c9⟩] (.cons k cr li bs sub .nil) := by
          have hlo := HS'.out.lo.1
          have e := EGX.out
          refine ItsO.one ?_ ?_ (by rw [HNS.out]; omega)
          · exact (HS'.out.txt.frame (w' := w8) (fun j hj hl => k8.block j hl (by have := hj.1; omega))).weak (fun j hj _ => by have := hj.1; show w.heap.size ≤ j; omega)
          · rw [hF]
            exact (HS'.out.out.o.frame (w' := w8) (fun j hj hl => k8.block j hl (by have : gb ≤ j := hj; omega))).weak (fun j hj _ => by have : gb ≤ j := hj; show w.heap.size ≤ j; omega)
        have bel : Below w.heap.size w w8 := HS'.out.bel.trans (k8.below (fun j hj => ⟨Nat.lt_of_lt_of_le hj HS'.out.bel.size, by have := EGX.out; omega⟩))
        have FIN := Lib.hid fin
        have BEL := Lib.hid bel
        have EW7 := Lib.hid ew7
        have EW8 := Lib.hid ew8
        obtain ⟨p0, p1, p2, p3, p4⟩ : w7.cell? ⟨gx, 0, none⟩ = some (.int .i64 k) ∧ w7.cell? ⟨gx, 1, none⟩ = some (.bool cr) ∧ w7.cell? ⟨gx, 2, none⟩ = some (.bool li) ∧ w7.cell? ⟨gx, 3, none⟩ = some (.slice A' n c') ∧ w7.cell? ⟨gx, 4, none⟩ = some (.slice A9 ns c9) := by
          refine ⟨?_, ?_, ?_, ?_, ?_⟩ <;> (rw [heap_cell h7]; rfl)
        obtain ⟨s0, s1, s2, s3, s4⟩ : w7.cell? ⟨gx + 1, 0, none⟩ = some (.int .i64 0) ∧ w7.cell? ⟨gx + 1, 1, none⟩ = some (.bool false) ∧ w7.cell? ⟨gx + 1, 2, none⟩ = some (.bool false) ∧ w7.cell? ⟨gx + 1, 3, none⟩ = some (.slice none 0 0) ∧ w7.cell? ⟨gx + 1, 4, none⟩ = some (.slice none 0 0) := by
          refine ⟨?_, ?_, ?_, ?_, ?_⟩ <;> (rw [heap_cell r7]; rfl)
        have f0 := heap_free r7 0
        have f1 := heap_free r7 1
        have f2 := heap_free r7 2
        have f3 := heap_free r7 3
        have f4 := heap_free r7 4
        obtain ⟨v0, v1, v2, v3, v4⟩ : w8.cell? ⟨gx + 1, 0, none⟩ = some (.int .i64 k) ∧ w8.cell? ⟨gx + 1, 1, none⟩ = some (.bool cr) ∧ w8.cell? ⟨gx + 1, 2, none⟩ = some (.bool li) ∧ w8.cell? ⟨gx + 1, 3, none⟩ = some (.slice A' n c') ∧ w8.cell? ⟨gx + 1, 4, none⟩ = some (.slice A9 ns c9) := by
          refine ⟨?_, ?_, ?_, ?_, ?_⟩ <;> (rw [heap_cell r8]; rfl)
        clear hk hF hb hr ew7 ew8 h7 r7 r8 k8 fin bel
        go_upto_region 9 with (fail)
        rw [← EW7.out]
        clear b4 bf
        go_wp2_with (fail)
        rw [← EW8.out]
        refine bodyPost_ret (v := .agg #[.int .i64 k, .bool cr, .bool li, .slice A' n c', .slice A9 ns c9]) (by simp [results, Try.results93, go_sem, v0, v1, v2, v3, v4]) rfl ?_
        exact ⟨⟨k, cr, li, A', n, c', A9, ns, c9⟩, rfl, FIN.out, BEL.out⟩
      | cons z cr1 li1 bs1 sub1 rest =>
        obtain ⟨⟨b1, o1, At, m, cm, As1, e1, eA, hb1, -, ⟨c0, ca, cb, cc, cd⟩, tt, s1, l1, l2, l3⟩, r1⟩ := R1.out.one
        subst eA
        have hlt : q < ns := by have := HK.out; simp only [Fo.len] at this; omega
        have kb := HS.out.bel
        have TT := Lib.hid tt
        have S1 := Lib.hid s1
        have R1b := Lib.hid r1
        rw [← kb.cell (p := ⟨b1, _, none⟩) hb1] at c0 ca cb cc cd
        have HSb : Hid (rest.size ≤ sub.size) := Lib.hid (by have := HSz.out; simp only [Fo.size] at this; omega)
        have HSs : Hid (sub1.size < M ∧ sub1.size ≤ 100000) := Lib.hid (by have := HSz.out; have := HM.out; have := HL.out; simp only [Fo.size] at *; omega)
        have HKb : Hid (q + 1 + rest.len = ns) := Lib.hid (by have := HK.out; simp only [Fo.len] at this; omega)
        have HFb : Hid (sub = (P.app (.cons z cr1 li1 bs1 sub1 .nil)).app rest) := Lib.hid (by rw [HF.out, Fo.app_assoc]; rfl)
        obtain ⟨sl, esl⟩ : ∃ sl, sl = sub1.len := ⟨_, rfl⟩
        rw [← esl] at cd l1 l3
        have ESL := Lib.hid esl
        have hlt' : (q : Int) < (ns : Int) := by omega
        obtain ⟨w5, ew5⟩ : ∃ w5, w5 = wr.alloc (.cells #[.int .i64 z, .bool cr1, .bool li1, .slice At m cm, .slice As1 sl e1] 76) := ⟨_, rfl⟩
        obtain ⟨gy, egy⟩ : ∃ gy, gy = wr.heap.size := ⟨_, rfl⟩
        have b5 : Below wr.heap.size wr w5 := by rw [ew5]; exact (Below.refl _ _).alloc (Nat.le_refl _) _
        have h5 : w5.heap[gy]? = some (.cells #[.int .i64 z, .bool cr1, .bool li1, .slice At m cm, .slice As1 sl e1] 76 (0, 0)) := by rw [ew5, egy]; exact heap_alloc_new _ _
        have HS5 := Lib.hid (HS.out.below b5)
        obtain ⟨p0, p1, p2, p3, p4⟩ : w5.cell? ⟨gy, 0, none⟩ = some (.int .i64 z) ∧ w5.cell? ⟨gy, 1, none⟩ = some (.bool cr1) ∧ w5.cell? ⟨gy, 2, none⟩ = some (.bool li1) ∧ w5.cell? ⟨gy, 3, none⟩ = some (.slice At m cm) ∧ w5.cell? ⟨gy, 4, none⟩ = some (.slice As1 sl e1) := by
          refine ⟨?_, ?_, ?_, ?_, ?_⟩ <;> (rw [heap_cell h5]; rfl)
        have EW5 := Lib.hid ew5
        have EGY := Lib.hid egy
        have Z5 : Hid (wr.heap.size < w5.heap.size) := Lib.hid (by rw [ew5]; simp)
        clear ew5 egy b5 h5 tt s1 r1 esl HK HSz HF R1 kb l1 l2
        go_upto_region 6 with (fail)
        rw [← EW5.out, ← EGY.out]
        clear c0 ca cb cc cd
        go_wp2_with (fail)
        refine (IH.out sub1.size HSs.out.1 sub1 rfl ok z cr1 li1 bs1 At m cm As1 sl e1 w5 (TT.out.frame (fun j _ hj => HS5.out.bel.block j hj) HS5.out.bel.size) ESL.out.symm (S1.out.below HS5.out.bel) HSs.out.2).mono ?_
        rintro _ w6 ⟨⟨dk, dc, dl, dA, dn, dcc, dAs, dns, dcs⟩, rfl, ho6, hb6⟩
        unfold ItV.val
        dsimp only
        have HS6 := Lib.hid (HS5.out.below hb6)
        have b67 : Below w6.heap.size w6 (w6.alloc (.cells #[.int .i64 dk, .bool dc, .bool dl, .slice dA dn dcc, .slice dAs dns dcs] 76)) := (Below.refl _ _).alloc (Nat.le_refl _) _
        have HS7 := Lib.hid (HS6.out.below b67)
        have lov := fun j e => (HS.out.out.lt j e)
        have HD7 : Hid (ItsO (fun j => gb ≤ j ∧ u3.ownBlock ≠ some j) (w6.alloc (.cells #[.int .i64 dk, .bool dc, .bool dl, .slice dA dn dcc, .slice dAs dns dcs] 76)) [⟨dk, dc, dl, dA, dn, dcc, dAs, dns, dcs⟩] (.cons z cr1 li1 bs1 sub1 .nil)) :=
          Lib.hid ((ho6.frame (fun j _ hj => b67.block j hj)).weak (fun j hj _ => by
            have h1 : w5.heap.size ≤ j := hj
            have h2 := HS.out.lo.2
            have h3 := Z5.out
            exact ⟨by omega, fun e => by have := lov j e; omega⟩))
        have HR7 := Lib.hid (Rd.lit w6 (cellsI [⟨dk, dc, dl, dA, dn, dcc, dAs, dns, dcs⟩]) 76)
        have hdl : ds.length ≤ 100000 := by rw [ItsO.len P ds HS7.out.out.its, HPl.out]; omega
        clear ho6 hb6 b67 lov p0 p1 p2 p3 p4 HS5
        go_wp2_with (at_builtin; refine wpList_appI _ rfl (.tmp 17) (.tmp 20) rfl 0 _ ds rfl HS7.out.out.row (some ⟨w6.heap.size, 0, none⟩) 1 1 [⟨dk, dc, dl, dA, dn, dcc, dAs, dns, dcs⟩] rfl rfl HR7.out (by omega) (Nat.zero_le _) ?_; intro v12 w12 ho12 hg12 hv12; have HS12 := Lib.hid (HS7.out.more HD7.out ho12 hg12 hv12); clear ho12 hg12 hv12)
        go_roundw
        case rel => exact ⟨q + 1, rest, _, _, by go_num, HKb, R1b, HSb, HFb, Lib.hid (by rw [Fo.len_app, HPl.out]; rfl), HS12⟩
        case measure => simp [intOf]; omega
end Go.Proofs.Ytcffinkkfdfcaaa

/- What tlv.Get and the reference's Get answer: the first item of a kind. Conditions: items that can be read; few items. -/
namespace Go.Proofs.Ytcffinkkfdfcaaa
open Go Go.RowKit

/-- The first item of a kind, as a list of one; else an empty one. -/
def getI (x : Int) : Fo → Fo
  | .nil => .cons 0 false false [] .nil .nil
  | .cons k cr li bs sub rest => if k = x then .cons k cr li bs sub .nil else getI x rest
def hasI (x : Int) : Fo → Bool
  | .nil => false
  | .cons k _ _ _ _ rest => if k = x then true else hasI x rest
theorem ItsR.one {ok : Nat → Prop} {w : World} {k : Int} {cr li : Bool} {bs : List UInt8} {sub : Fo} {A As : Option Addr} {n c ns cs : Nat} (ht : TxtR ok w A n c bs) (hn : ns = sub.len) (hs : FoR ok w As 0 sub) (hc : ns ≤ cs) (hm : cs ≤ maxLen) (hl : sub.len ≤ 2199023255488) :
    ItsR ok w [⟨k, cr, li, A, n, c, As, ns, cs⟩] (.cons k cr li bs sub .nil) :=
  ⟨_, [], rfl, rfl, rfl, rfl, ht, ⟨hn, hs, by rw [← hn]; exact hc, hm, hl⟩, rfl⟩
/-- The five stores of an item. -/
def set5 (w : World) (g : Nat) (d : ItV) : World := ((((w.setCell ⟨g, 0, none⟩ (.int .i64 d.k)).setCell ⟨g, 1, none⟩ (.bool d.cr)).setCell ⟨g, 2, none⟩ (.bool d.li)).setCell ⟨g, 3, none⟩ (.slice d.A d.n d.c)).setCell ⟨g, 4, none⟩ (.slice d.As d.ns d.cs)
theorem set5_heap {w : World} {g : Nat} {a0 a1 a2 a3 a4 : Value} {t : TypeId} (h : w.heap[g]? = some (.cells #[a0, a1, a2, a3, a4] t (0, 0))) (d : ItV) : (set5 w g d).heap[g]? = some (.cells d.cells.toArray t (0, 0)) := by
  unfold set5
  rw [heap_set (heap_set (heap_set (heap_set (heap_set h _ _) _ _) _ _) _ _) _ _]; rfl
theorem set5_keeps (w : World) (g : Nat) (d : ItV) : Keeps (fun j => j = g) w (set5 w g d) := by
  unfold set5
  exact ((((Keeps.set (fun j => j = g) _ ⟨g, 0, none⟩ _ rfl).trans (Keeps.set _ _ ⟨g, 1, none⟩ _ rfl)).trans (Keeps.set _ _ ⟨g, 2, none⟩ _ rfl)).trans (Keeps.set _ _ ⟨g, 3, none⟩ _ rfl)).trans (Keeps.set _ _ ⟨g, 4, none⟩ _ rfl)
theorem five_of {w : World} {g : Nat} {t : TypeId} {d : ItV} (h : w.heap[g]? = some (.cells d.cells.toArray t (0, 0))) :
    (w.cell? ⟨g, 0, none⟩ = some (.int .i64 d.k) ∧ w.cell? ⟨g, 1, none⟩ = some (.bool d.cr) ∧ w.cell? ⟨g, 2, none⟩ = some (.bool d.li) ∧ w.cell? ⟨g, 3, none⟩ = some (.slice d.A d.n d.c) ∧ w.cell? ⟨g, 4, none⟩ = some (.slice d.As d.ns d.cs)) ∧
    (w.frozen? ⟨g, 0, none⟩ = false ∧ w.frozen? ⟨g, 1, none⟩ = false ∧ w.frozen? ⟨g, 2, none⟩ = false ∧ w.frozen? ⟨g, 3, none⟩ = false ∧ w.frozen? ⟨g, 4, none⟩ = false) := by
  refine ⟨⟨?_, ?_, ?_, ?_, ?_⟩, heap_free h _, heap_free h _, heap_free h _, heap_free h _, heap_free h _⟩ <;> (rw [heap_cell h]; rfl)
def ItV.zer : ItV := ⟨0, false, false, none, 0, 0, none, 0, 0⟩
set_option maxRecDepth 100000 in
set_option maxHeartbeats 4000000 in
theorem Get_c (f : Fo) (ok : Nat → Prop) (A : Option Addr) (n c : Nat) (x : Int) (w : World) (hn : f.len = n) (h1 : FoR ok w A 0 f) (hs : f.size ≤ 100000) :
    Calls Try.prog 88 #[.slice A n c, .int .i64 x] w fun r w' => ∃ d : ItV, r = .returned (.tuple #[d.val, .bool (hasI x f)]) ∧ ItsO (w.heap.size ≤ ·) w' [d] (getI x f) ∧ Below w.heap.size w w' := by
  have HN := Lib.hid hn
  have H1 := Lib.hid h1; clear h1
  have hl : n ≤ 100000 := by have := Fo.len_le f; omega
  have HSF := Lib.hid hs
  clear hn hs
  obtain ⟨B, eB⟩ : ∃ B, B = hasI x f := ⟨_, rfl⟩
  obtain ⟨T, eT⟩ : ∃ T, T = getI x f := ⟨_, rfl⟩
  rw [← eT, ← eB]
  have ET := Lib.hid eT; clear eT
  have EB := Lib.hid eB; clear eB
  obtain ⟨w1, ew1⟩ : ∃ w1, w1 = w.alloc (.cells #[.int .i64 0, .bool false, .bool false, .slice none 0 0, .slice none 0 0] 76) := ⟨_, rfl⟩
  obtain ⟨gr, egr⟩ : ∃ gr, gr = w.heap.size := ⟨_, rfl⟩
  have b1 : Below w.heap.size w w1 := by rw [ew1]; exact (Below.refl _ _).alloc (Nat.le_refl _) _
  have g1 : w1.heap[gr]? = some (.cells ItV.zer.cells.toArray 76 (0, 0)) := by rw [ew1, egr]; exact heap_alloc_new _ _
  have EW1 := Lib.hid ew1
  have EGR := Lib.hid egr
  have B1 := Lib.hid b1
  have G1 := Lib.hid g1
  clear ew1 egr b1 g1
  go_enter Try.func88, Try.ntmps88
  go_upto_region 1 with (fail)
  rw [← EW1.out, ← EGR.out]
  go_wp2_with (fail)
  go_loopw [10] (fun i wr => ∃ (q : Nat) (r : Fo), i = .int .i64 q ∧ Hid (q + r.len = n) ∧ Hid (FoR ok w A q r) ∧ Hid (r.size ≤ f.size) ∧ Hid (B = hasI x r) ∧ Hid (T = getI x r) ∧ Hid (Below w.heap.size w wr) ∧ Hid (wr.heap[gr]? = some (.cells ItV.zer.cells.toArray 76 (0, 0)))) (fun i _ => n - (intOf i).toNat)
  case atStart => exact ⟨0, f, rfl, Lib.hid (by rw [HN.out]; omega), H1, Lib.hid (Nat.le_refl _), EB, ET, B1, G1⟩
  case round =>
    obtain ⟨q, r, rfl, HK, R1, HSz, HBr, HTr, HB, HG⟩ := hrel
    cases r with
    | nil =>
      have hk : q = n := HK.out
      have hk' : (n : Int) ≤ (q : Int) := by omega
      have eB2 : B = false := HBr.out
      obtain ⟨⟨s0, s1, s2, s3, s4⟩, f0, f1, f2, f3, f4⟩ := five_of HG.out
      obtain ⟨w8, ew8⟩ : ∃ w8, w8 = set5 wr gr ItV.zer := ⟨_, rfl⟩
      have h8 : w8.heap[gr]? = some (.cells ItV.zer.cells.toArray 76 (0, 0)) := by rw [ew8]; exact set5_heap HG.out _
      have b8 : Below w.heap.size w w8 := by rw [ew8]; exact HB.out.trans ((set5_keeps wr gr ItV.zer).below (fun j hj => ⟨Nat.lt_of_lt_of_le hj HB.out.size, by have := EGR.out; omega⟩))
      obtain ⟨⟨v0, v1, v2, v3, v4⟩, -⟩ := five_of h8
      have B8 := Lib.hid b8
      have EB2 := Lib.hid eB2
      unfold set5 at ew8
      unfold ItV.zer at s0 s1 s2 s3 s4 ew8 v0 v1 v2 v3 v4
      dsimp only at s0 s1 s2 s3 s4 ew8 v0 v1 v2 v3 v4
      have EW8 := Lib.hid ew8
      clear hk eB2 ew8 h8 b8
      go_wp2_with (fail)
      rw [← EW8.out]
      refine bodyPost_ret (v := .tuple #[.agg #[.int .i64 0, .bool false, .bool false, .slice none 0 0, .slice none 0 0], .bool false]) (by simp [results, Try.results88, go_sem, v0, v1, v2, v3, v4]) rfl ?_
      rw [EB2.out]
      exact ⟨ItV.zer, rfl, by rw [HTr.out]; exact ItsO.one (TxtO.nil_ _ _) (FoO.nil_ _ _) (by simp [Fo.len]), B8.out⟩
    | cons z cr li bs sub rest =>
      obtain ⟨⟨b1, o1, At, m, cm, As1, e1, eA, hb1, -, ⟨c0, ca, cb, cc, cd⟩, tt, s1, l1, l2, l3⟩, r1⟩ := R1.out.one
      subst eA
      have hlt : q < n := by have := HK.out; simp only [Fo.len] at this; omega
      have kb := HB.out
      have TT := Lib.hid tt
      have S1 := Lib.hid s1
      have R1b := Lib.hid r1
      rw [← kb.cell (p := ⟨b1, _, none⟩) hb1] at c0 ca cb cc cd
      have HSb : Hid (rest.size ≤ f.size) := Lib.hid (by have := HSz.out; simp only [Fo.size] at this; omega)
      have HSs : Hid (sub.size ≤ 100000) := Lib.hid (by have := HSz.out; have := HSF.out; simp only [Fo.size] at *; omega)
      have HKb : Hid (q + 1 + rest.len = n) := Lib.hid (by have := HK.out; simp only [Fo.len] at this; omega)
      obtain ⟨sl, esl⟩ : ∃ sl, sl = sub.len := ⟨_, rfl⟩
      rw [← esl] at cd l1 l3
      have ESL := Lib.hid esl
      have hlt' : (q : Int) < (n : Int) := by omega
      obtain ⟨w5, ew5⟩ : ∃ w5, w5 = wr.alloc (.cells #[.int .i64 z, .bool cr, .bool li, .slice At m cm, .slice As1 sl e1] 76) := ⟨_, rfl⟩
      obtain ⟨gy, egy⟩ : ∃ gy, gy = wr.heap.size := ⟨_, rfl⟩
      have b5 : Below wr.heap.size wr w5 := by rw [ew5]; exact (Below.refl _ _).alloc (Nat.le_refl _) _
      have h5 : w5.heap[gy]? = some (.cells #[.int .i64 z, .bool cr, .bool li, .slice At m cm, .slice As1 sl e1] 76 (0, 0)) := by rw [ew5, egy]; exact heap_alloc_new _ _
      have HB5 : Hid (Below w.heap.size w w5) := Lib.hid (HB.out.trans (b5.mono HB.out.size))
      have HG5 : Hid (w5.heap[gr]? = some (.cells ItV.zer.cells.toArray 76 (0, 0))) := Lib.hid ((b5.block gr (heap_lt HG.out)).trans HG.out)
      obtain ⟨p0, p1, p2, p3, p4⟩ : w5.cell? ⟨gy, 0, none⟩ = some (.int .i64 z) ∧ w5.cell? ⟨gy, 1, none⟩ = some (.bool cr) ∧ w5.cell? ⟨gy, 2, none⟩ = some (.bool li) ∧ w5.cell? ⟨gy, 3, none⟩ = some (.slice At m cm) ∧ w5.cell? ⟨gy, 4, none⟩ = some (.slice As1 sl e1) := by
        refine ⟨?_, ?_, ?_, ?_, ?_⟩ <;> (rw [heap_cell h5]; rfl)
      have EW5 := Lib.hid ew5
      have EGY := Lib.hid egy
      have Z5 : Hid (gr < w5.heap.size) := Lib.hid (heap_lt HG5.out)
      clear ew5 egy b5 h5 tt s1 r1 esl HK HSz R1 kb l1 l2 HG
      go_upto_region 4 with (fail)
      rw [← EW5.out, ← EGY.out]
      clear c0 ca cb cc cd
      by_cases hin : z = x
      · have d0 : (z == x) = true := by rw [hin]; exact beq_self_eq_true _
        have hB : B = true := HBr.out.trans (if_pos hin)
        have hT : T = .cons z cr li bs sub .nil := HTr.out.trans (if_pos hin)
        have HB' := Lib.hid hB
        have HT' := Lib.hid hT
        clear hin hB hT
        go_wp2_with (fail)
        refine (clone_it sub.size sub rfl ok z cr li bs At m cm As1 sl e1 w5 (TT.out.frame (fun j _ hj => HB5.out.block j hj) HB5.out.size) ESL.out.symm (S1.out.below HB5.out) HSs.out).mono ?_
        rintro _ w6 ⟨⟨dk, dc, dl, dA, dn, dcc, dAs, dns, dcs⟩, rfl, ho6, hb6⟩
        unfold ItV.val
        dsimp only
        have hg6 := (hb6.block gr (heap_lt HG5.out)).trans HG5.out
        obtain ⟨⟨s0, s1, s2, s3, s4⟩, f0, f1, f2, f3, f4⟩ := five_of hg6
        obtain ⟨d, ed⟩ : ∃ d : ItV, d = ⟨dk, dc, dl, dA, dn, dcc, dAs, dns, dcs⟩ := ⟨_, rfl⟩
        rw [← ed] at ho6
        obtain ⟨w8, ew8⟩ : ∃ w8, w8 = set5 w6 gr d := ⟨_, rfl⟩
        have h8 : w8.heap[gr]? = some (.cells d.cells.toArray 76 (0, 0)) := by rw [ew8]; exact set5_heap hg6 _
        have k8 : Keeps (fun j => j = gr) w6 w8 := by rw [ew8]; exact set5_keeps _ _ _
        have b8 : Below w.heap.size w w8 := by
          have b6 : Below w.heap.size w w6 := HB5.out.trans (hb6.mono HB5.out.size)
          exact b6.trans (k8.below (fun j hj => ⟨Nat.lt_of_lt_of_le hj b6.size, by have := EGR.out; omega⟩))
        have ho8 : ItsO (w.heap.size ≤ ·) w8 [d] (.cons z cr li bs sub .nil) := (ho6.frame (w' := w8) (fun j hj hl => k8.block j hl (by have : w5.heap.size ≤ j := hj; have := Z5.out; omega))).weak (fun j hj _ => by have : w5.heap.size ≤ j := hj; have := Z5.out; have := EGR.out; show w.heap.size ≤ j; omega)
        have HO8 := Lib.hid ho8
        obtain ⟨⟨v0, v1, v2, v3, v4⟩, -⟩ := five_of h8
        have B8 := Lib.hid b8
        have ED := Lib.hid ed
        rw [ed] at ew8 v0 v1 v2 v3 v4
        unfold set5 at ew8
        unfold ItV.zer at s0 s1 s2 s3 s4
        dsimp only at s0 s1 s2 s3 s4 ew8 v0 v1 v2 v3 v4
        have EW8 := Lib.hid ew8
        clear ew8 h8 b8 k8 ho8 hg6 ho6 hb6 ed p0 p1 p2 p3 p4
        go_wp2_with (fail)
        rw [← EW8.out]
        refine bodyPost_ret (v := .tuple #[.agg #[.int .i64 dk, .bool dc, .bool dl, .slice dA dn dcc, .slice dAs dns dcs], .bool true]) (by simp [results, Try.results88, go_sem, v0, v1, v2, v3, v4]) rfl ?_
        rw [HB'.out, HT'.out]
        exact ⟨d, by rw [ED.out]; rfl, HO8.out, B8.out⟩
      · have d0 : (z == x) = false := by rw [beq_eq_false_iff_ne]; exact hin
        have hB : B = hasI x rest := HBr.out.trans (if_neg hin)
        have hT : T = getI x rest := HTr.out.trans (if_neg hin)
        have HB' := Lib.hid hB
        have HT' := Lib.hid hT
        clear hin hB hT
        go_wp2_with (fail)
        go_roundw
        case rel => exact ⟨q + 1, rest, by go_num, HKb, R1b, HSb, HB', HT', HB5, HG5⟩
        case measure => simp [intOf]; omega
set_option maxRecDepth 100000 in
set_option maxHeartbeats 4000000 in
theorem refGet_c (f : Fo) (ok : Nat → Prop) (A : Option Addr) (n c : Nat) (x : Int) (w : World) (hn : f.len = n) (h1 : FoR ok w A 0 f) (hl : n ≤ 2199023255488) :
    Calls Try.prog 75 #[.slice A n c, .int .i64 x] w fun r w' => ∃ d : ItV, r = .returned (.tuple #[d.val, .bool (hasI x f)]) ∧ ItsR (fun _ => True) w' [d] (getI x f) ∧ Below w.heap.size w w' := by
  have HN := Lib.hid hn; clear hn
  have H1 := Lib.hid h1; clear h1
  obtain ⟨B, eB⟩ : ∃ B, B = hasI x f := ⟨_, rfl⟩
  obtain ⟨T, eT⟩ : ∃ T, T = getI x f := ⟨_, rfl⟩
  rw [← eT, ← eB]
  have ET := Lib.hid eT; clear eT
  have EB := Lib.hid eB; clear eB
  obtain ⟨w1, ew1⟩ : ∃ w1, w1 = w.alloc (.cells #[.int .i64 0, .bool false, .bool false, .slice none 0 0, .slice none 0 0] 76) := ⟨_, rfl⟩
  obtain ⟨gr, egr⟩ : ∃ gr, gr = w.heap.size := ⟨_, rfl⟩
  have b1 : Below w.heap.size w w1 := by rw [ew1]; exact (Below.refl _ _).alloc (Nat.le_refl _) _
  have g1 : w1.heap[gr]? = some (.cells ItV.zer.cells.toArray 76 (0, 0)) := by rw [ew1, egr]; exact heap_alloc_new _ _
  have EW1 := Lib.hid ew1
  have EGR := Lib.hid egr
  have B1 := Lib.hid b1
  have G1 := Lib.hid g1
  clear ew1 egr b1 g1
  go_enter Try.func75, Try.ntmps75
  go_upto_region 1 with (fail)
  rw [← EW1.out, ← EGR.out]
  go_wp2_with (fail)
  go_loopw [6] (fun i wr => ∃ (q : Nat) (r : Fo), i = .int .i64 q ∧ Hid (q + r.len = n) ∧ Hid (FoR ok w A q r) ∧ Hid (B = hasI x r) ∧ Hid (T = getI x r) ∧ wr = w1) (fun i _ => n - (intOf i).toNat)
  case atStart => exact ⟨0, f, rfl, Lib.hid (by rw [HN.out]; omega), H1, EB, ET, rfl⟩
  case round =>
    obtain ⟨q, r, rfl, HK, R1, HBr, HTr, ewr⟩ := hrel
    have HB : Hid (Below w.heap.size w wr) := by rw [ewr]; exact B1
    have HG : Hid (wr.heap[gr]? = some (.cells ItV.zer.cells.toArray 76 (0, 0))) := by rw [ewr]; exact G1
    have EWR := Lib.hid ewr
    clear ewr
    obtain ⟨⟨s0, s1, s2, s3, s4⟩, f0, f1, f2, f3, f4⟩ := five_of HG.out
    cases r with
    | nil =>
      have hk : q = n := HK.out
      have hk' : (n : Int) ≤ (q : Int) := by omega
      have eB2 : B = false := HBr.out
      obtain ⟨w8, ew8⟩ : ∃ w8, w8 = set5 wr gr ItV.zer := ⟨_, rfl⟩
      have h8 : w8.heap[gr]? = some (.cells ItV.zer.cells.toArray 76 (0, 0)) := by rw [ew8]; exact set5_heap HG.out _
      have b8 : Below w.heap.size w w8 := by rw [ew8]; exact HB.out.trans ((set5_keeps wr gr ItV.zer).below (fun j hj => ⟨Nat.lt_of_lt_of_le hj HB.out.size, by have := EGR.out; omega⟩))
      obtain ⟨⟨v0, v1, v2, v3, v4⟩, -⟩ := five_of h8
      have B8 := Lib.hid b8
      have EB2 := Lib.hid eB2
      unfold set5 at ew8
      unfold ItV.zer at s0 s1 s2 s3 s4 ew8 v0 v1 v2 v3 v4
      dsimp only at s0 s1 s2 s3 s4 ew8 v0 v1 v2 v3 v4
      have EW8 := Lib.hid ew8
      clear hk eB2 ew8 h8 b8
      go_wp2_with (fail)
      rw [← EW8.out]
      refine bodyPost_ret (v := .tuple #[.agg #[.int .i64 0, .bool false, .bool false, .slice none 0 0, .slice none 0 0], .bool false]) (by simp [results, Try.results75, go_sem, v0, v1, v2, v3, v4]) rfl ?_
      rw [EB2.out]
      exact ⟨ItV.zer, rfl, by rw [HTr.out]; exact ItsR.one (TxtO.nil_ _ _).r rfl trivial (Nat.le_refl _) (Nat.zero_le _) (by simp [Fo.len]), B8.out⟩
    | cons z cr li bs sub rest =>
      obtain ⟨⟨b1, o1, At, m, cm, As1, e1, eA, hb1, -, ⟨c0, ca, cb, cc, cd⟩, tt, ss1, l1, l2, l3⟩, r1⟩ := R1.out.one
      subst eA
      have hlt : q < n := by have := HK.out; simp only [Fo.len] at this; omega
      have kb := HB.out
      have TT := Lib.hid tt
      have S1 := Lib.hid ss1
      have R1b := Lib.hid r1
      rw [← kb.cell (p := ⟨b1, _, none⟩) hb1] at c0 ca cb cc cd
      have HKb : Hid (q + 1 + rest.len = n) := Lib.hid (by have := HK.out; simp only [Fo.len] at this; omega)
      obtain ⟨sl, esl⟩ : ∃ sl, sl = sub.len := ⟨_, rfl⟩
      rw [← esl] at cd l1 l3
      have ESL := Lib.hid esl
      have L1 := Lib.hid l1
      have L2 := Lib.hid l2
      have hlt' : (q : Int) < (n : Int) := by omega
      clear tt ss1 r1 esl HK R1 kb l1 l2
      by_cases hin : z = x
      · have d0 : (z == x) = true := by rw [hin]; exact beq_self_eq_true _
        have hB : B = true := HBr.out.trans (if_pos hin)
        have hT : T = .cons z cr li bs sub .nil := HTr.out.trans (if_pos hin)
        have HB' := Lib.hid hB
        have HT' := Lib.hid hT
        clear hin hB hT
        obtain ⟨w8, ew8⟩ : ∃ w8, w8 = set5 wr gr ⟨z, cr, li, At, m, cm, As1, sl, e1⟩ := ⟨_, rfl⟩
        have h8 : w8.heap[gr]? = some (.cells (ItV.cells ⟨z, cr, li, At, m, cm, As1, sl, e1⟩).toArray 76 (0, 0)) := by rw [ew8]; exact set5_heap HG.out _
        have k8 : Keeps (fun j => j = gr) wr w8 := by rw [ew8]; exact set5_keeps _ _ _
        have b8 : Below w.heap.size w w8 := HB.out.trans (k8.below (fun j hj => ⟨Nat.lt_of_lt_of_le hj HB.out.size, by have := EGR.out; omega⟩))
        have ho8 : ItsR (fun _ => True) w8 [⟨z, cr, li, At, m, cm, As1, sl, e1⟩] (.cons z cr li bs sub .nil) :=
          ItsR.one ((TT.out.frame (fun j _ hj => b8.block j hj) b8.size).weak (fun _ _ _ => trivial)) ESL.out ((S1.out.below b8).weak (fun _ _ _ => trivial)) L1.out L2.out (by rw [← ESL.out]; exact l3)
        have HO8 := Lib.hid ho8
        obtain ⟨⟨v0, v1, v2, v3, v4⟩, -⟩ := five_of h8
        have B8 := Lib.hid b8
        unfold set5 at ew8
        unfold ItV.zer at s0 s1 s2 s3 s4
        dsimp only at s0 s1 s2 s3 s4 ew8 v0 v1 v2 v3 v4
        have EW8 := Lib.hid ew8
        clear ew8 h8 b8 k8 ho8
        go_wp2_with (fail)
        rw [← EW8.out]
        refine bodyPost_ret (v := .tuple #[.agg #[.int .i64 z, .bool cr, .bool li, .slice At m cm, .slice As1 sl e1], .bool true]) (by simp [results, Try.results75, go_sem, v0, v1, v2, v3, v4]) rfl ?_
        rw [HB'.out, HT'.out]
        exact ⟨⟨z, cr, li, At, m, cm, As1, sl, e1⟩, rfl, HO8.out, B8.out⟩
      · have d0 : (z == x) = false := by rw [beq_eq_false_iff_ne]; exact hin
        have hB : B = hasI x rest := HBr.out.trans (if_neg hin)
        have hT : T = getI x rest := HTr.out.trans (if_neg hin)
        have HB' := Lib.hid hB
        have HT' := Lib.hid hT
        clear hin hB hT s0 s1 s2 s3 s4 f0 f1 f2 f3 f4
        go_wp2_with (fail)
        go_roundw
        case rel => exact ⟨q + 1, rest, by go_num, HKb, R1b, HB', HT', EWR.out⟩
        case measure => simp [intOf]; omega
end Go.Proofs.Ytcffinkkfdfcaaa

/- Bodies of datagrams as plain data: parts, data, what is laid of them. Conditions: none. -/
namespace Go.Proofs.Ytcffinkkfdfcaaa
open Go Go.RowKit

structure PartD where
  id : Nat
  ix : Int
  ct : Int
  bs : List UInt8
structure DataD where
  st : Nat
  ec : Nat
  ak : Nat
  th : Nat
  has : Bool
  p : PartD
/-- May a part be? -/
def partP (ix ct : Int) (n : Nat) : Prop := 1 ≤ ct ∧ ct ≤ 128 ∧ 0 ≤ ix ∧ ix < ct ∧ n ≤ 448 ∧ (n = 448 ∨ ix = ct - 1)
instance (ix ct : Int) (n : Nat) : Decidable (partP ix ct n) := by unfold partP; infer_instance
def partB (ix ct : Int) (n : Nat) : Bool := decide (partP ix ct n)
def noneP (id : Nat) (ix ct : Int) (n : Nat) : Prop := id = 0 ∧ ix = 0 ∧ ct = 0 ∧ n = 0
instance (id : Nat) (ix ct : Int) (n : Nat) : Decidable (noneP id ix ct n) := by unfold noneP; infer_instance
def noneB (id : Nat) (ix ct : Int) (n : Nat) : Bool := decide (noneP id ix ct n)
def dataB (has : Bool) (id : Nat) (ix ct : Int) (n : Nat) : Bool := if has = true then partB ix ct n else noneB id ix ct n
def DataD.may (d : DataD) : Bool := dataB d.has d.p.id d.p.ix d.p.ct d.p.bs.length
/-- An item of bytes, alone. -/
def oneF (k : Int) (cr : Bool) (bs : List UInt8) : Fo := .cons k cr false bs .nil .nil
def partF (p : PartD) : Fo := .cons 1 true false (varL p.id) .nil (.cons 2 true false (varL p.ix.toNat) .nil (.cons 3 true false (varL p.ct.toNat) .nil (.cons 4 true false p.bs .nil .nil)))
/-- The items of data. -/
def d1F (d : DataD) : Fo := oneF 1 true (numL d.st 2)
def d2F (d : DataD) : Fo := if d.ec = 65535 then d1F d else (d1F d).app (oneF 2 false (numL d.ec 2))
def d3F (d : DataD) : Fo := if d.ak = 0 then d2F d else (d2F d).app (oneF 3 true (varL d.ak))
def d4F (d : DataD) : Fo := if d.th = 0 then d3F d else (d3F d).app (oneF 4 true (varL d.th))
def d5F (d : DataD) : Fo := if d.has = true then (d4F d).app (.cons 5 true true [] (partF d.p) .nil) else d4F d
/-- The bytes of data in the first version. -/
def headD (d : DataD) : List UInt8 := numL d.st 2 ++ numL d.ec 2 ++ numL d.ak 8 ++ numL d.th 8
def firstL (d : DataD) : List UInt8 := if d.has = true then headD d ++ [1] ++ numL d.p.id 4 ++ [lo d.p.ix.toNat, lo d.p.ct.toNat] ++ d.p.bs else headD d ++ [0]
/-- What is put of data in a version: the fault's number; the bytes. -/
def putD (v : Int) (d : DataD) : Int × List UInt8 := if v < 1 ∨ 3 < v ∨ d.may = false then (1, []) else if v = 1 then (0, firstL d) else (checkF (d5F d), encF (d5F d))
theorem Fo.app_size (f g : Fo) : (f.app g).size = f.size + g.size := Fo.size_app g f
theorem d1_len (d : DataD) : (d1F d).len = 1 := rfl
theorem d2_len (d : DataD) : (d2F d).len ≤ 2 := by
  unfold d2F; split
  · rw [d1_len]; omega
  · rw [Fo.len_app, d1_len]; simp [oneF, Fo.len]
theorem d3_len (d : DataD) : (d3F d).len ≤ 3 := by
  have := d2_len d
  unfold d3F; split
  · omega
  · rw [Fo.len_app]; simp [oneF, Fo.len]; omega
theorem d4_len (d : DataD) : (d4F d).len ≤ 4 := by
  have := d3_len d
  unfold d4F; split
  · omega
  · rw [Fo.len_app]; simp [oneF, Fo.len]; omega
theorem d5_len (d : DataD) : (d5F d).len ≤ 5 := by
  have := d4_len d
  unfold d5F; split
  · rw [Fo.len_app]; simp [Fo.len]; omega
  · omega
end Go.Proofs.Ytcffinkkfdfcaaa

/- What bytes say as a list of items, in plain words. Conditions: none. -/
namespace Go.Proofs.Ytcffinkkfdfcaaa
open Go Go.RowKit

/-- The error; the items; how many items in all: of the bytes that are left to a reader, in a list of the depth d, the kind ahead ah, c items ahead in all. -/
def decG : Nat → RS → Int → Nat → Nat → Nat × Fo × Nat
  | 0, _, _, _, c => (0, .nil, c)
  | m + 1, s, d, ah, c =>
    if s.b.length ≤ s.at_ then (0, .nil, c)
    else if (varR s).2.err ≠ 0 then ((varR s).2.err, .nil, c)
    else if (varR s).1 / 4 ≤ ah ∨ 1000 < (varR s).1 / 4 then (3, .nil, c)
    else if 64 ≤ c then (4, .nil, c + 1)
    else if (varR s).1 % 2 = 1 ∧ d = 4 then (5, .nil, c + 1)
    else if (textR (varR s).2 4096).2.err ≠ 0 then ((textR (varR s).2 4096).2.err, .nil, c + 1)
    else if (varR s).1 % 2 = 1 then
      if (decG m ⟨(textR (varR s).2 4096).1, 0, 0, none⟩ (d + 1) 0 (c + 1)).1 ≠ 0 then ((decG m ⟨(textR (varR s).2 4096).1, 0, 0, none⟩ (d + 1) 0 (c + 1)).1, .nil, (decG m ⟨(textR (varR s).2 4096).1, 0, 0, none⟩ (d + 1) 0 (c + 1)).2.2)
      else ((decG m (textR (varR s).2 4096).2 d ((varR s).1 / 4) (decG m ⟨(textR (varR s).2 4096).1, 0, 0, none⟩ (d + 1) 0 (c + 1)).2.2).1,
        .cons ((varR s).1 / 4 : Nat) (decide (2 ≤ (varR s).1 % 4)) true [] (decG m ⟨(textR (varR s).2 4096).1, 0, 0, none⟩ (d + 1) 0 (c + 1)).2.1 (decG m (textR (varR s).2 4096).2 d ((varR s).1 / 4) (decG m ⟨(textR (varR s).2 4096).1, 0, 0, none⟩ (d + 1) 0 (c + 1)).2.2).2.1,
        (decG m (textR (varR s).2 4096).2 d ((varR s).1 / 4) (decG m ⟨(textR (varR s).2 4096).1, 0, 0, none⟩ (d + 1) 0 (c + 1)).2.2).2.2)
    else ((decG m (textR (varR s).2 4096).2 d ((varR s).1 / 4) (c + 1)).1,
      .cons ((varR s).1 / 4 : Nat) (decide (2 ≤ (varR s).1 % 4)) false (textR (varR s).2 4096).1 .nil (decG m (textR (varR s).2 4096).2 d ((varR s).1 / 4) (c + 1)).2.1,
      (decG m (textR (varR s).2 4096).2 d ((varR s).1 / 4) (c + 1)).2.2)
/-- Items ahead of what was read. -/
def cmb (P : Fo) (R : Nat × Fo × Nat) : Nat × Fo × Nat := (R.1, P.app R.2.1, R.2.2)
theorem cmb_nil (R : Nat × Fo × Nat) : cmb .nil R = R := rfl
theorem cmb_cmb (P Q : Fo) (R : Nat × Fo × Nat) : cmb P (cmb Q R) = cmb (P.app Q) R := by rw [cmb, cmb, cmb, Fo.app_assoc]

section
variable {m : Nat} {s s1 s2 : RS} {d : Int} {ah c n : Nat} {t : List UInt8}
theorem decG_end (h : s.b.length ≤ s.at_) : decG (m + 1) s d ah c = (0, .nil, c) := by rw [decG, if_pos h]
theorem decG_var (h : s.at_ < s.b.length) (hv : varR s = (n, s1)) (h1 : s1.err ≠ 0) : decG (m + 1) s d ah c = (s1.err, .nil, c) := by
  rw [decG, if_neg (by omega), hv]
  exact if_pos h1
theorem decG_form (h : s.at_ < s.b.length) (hv : varR s = (n, s1)) (h1 : s1.err = 0) (h2 : n / 4 ≤ ah ∨ 1000 < n / 4) : decG (m + 1) s d ah c = (3, .nil, c) := by
  rw [decG, if_neg (by omega), hv]
  exact (if_neg (by simpa using h1)).trans (if_pos h2)
theorem decG_many (h : s.at_ < s.b.length) (hv : varR s = (n, s1)) (h1 : s1.err = 0) (h2 : ¬ (n / 4 ≤ ah ∨ 1000 < n / 4)) (h3 : 64 ≤ c) : decG (m + 1) s d ah c = (4, .nil, c + 1) := by
  rw [decG, if_neg (by omega), hv]
  exact (if_neg (by simpa using h1)).trans ((if_neg h2).trans (if_pos h3))
theorem decG_deep (h : s.at_ < s.b.length) (hv : varR s = (n, s1)) (h1 : s1.err = 0) (h2 : ¬ (n / 4 ≤ ah ∨ 1000 < n / 4)) (h3 : ¬ 64 ≤ c) (h4 : n % 2 = 1 ∧ d = 4) : decG (m + 1) s d ah c = (5, .nil, c + 1) := by
  rw [decG, if_neg (by omega), hv]
  exact (if_neg (by simpa using h1)).trans ((if_neg h2).trans ((if_neg h3).trans (if_pos h4)))
theorem decG_text (h : s.at_ < s.b.length) (hv : varR s = (n, s1)) (h1 : s1.err = 0) (h2 : ¬ (n / 4 ≤ ah ∨ 1000 < n / 4)) (h3 : ¬ 64 ≤ c) (h4 : ¬ (n % 2 = 1 ∧ d = 4)) (ht : textR s1 4096 = (t, s2)) (h5 : s2.err ≠ 0) :
    decG (m + 1) s d ah c = (s2.err, .nil, c + 1) := by
  rw [decG, if_neg (by omega), hv]
  refine (if_neg (by simpa using h1)).trans ((if_neg h2).trans ((if_neg h3).trans ((if_neg h4).trans ?_)))
  simp only [ht]
  exact if_pos h5
theorem decG_item (h : s.at_ < s.b.length) (hv : varR s = (n, s1)) (h1 : s1.err = 0) (h2 : ¬ (n / 4 ≤ ah ∨ 1000 < n / 4)) (h3 : ¬ 64 ≤ c) (ht : textR s1 4096 = (t, s2)) (h5 : s2.err = 0) (h6 : n % 2 = 0) :
    decG (m + 1) s d ah c = cmb (.cons (n / 4 : Nat) (decide (2 ≤ n % 4)) false t .nil .nil) (decG m s2 d (n / 4) (c + 1)) := by
  rw [decG, if_neg (by omega), hv]
  refine (if_neg (by simpa using h1)).trans ((if_neg h2).trans ((if_neg h3).trans ((if_neg (by omega)).trans ?_)))
  simp only [ht]
  exact (if_neg (by simpa using h5)).trans ((if_neg (by omega)).trans rfl)
theorem decG_bad (h : s.at_ < s.b.length) (hv : varR s = (n, s1)) (h1 : s1.err = 0) (h2 : ¬ (n / 4 ≤ ah ∨ 1000 < n / 4)) (h3 : ¬ 64 ≤ c) (h4 : d ≠ 4) (ht : textR s1 4096 = (t, s2)) (h5 : s2.err = 0) (h6 : n % 2 = 1)
    (h7 : (decG m ⟨t, 0, 0, none⟩ (d + 1) 0 (c + 1)).1 ≠ 0) :
    decG (m + 1) s d ah c = ((decG m ⟨t, 0, 0, none⟩ (d + 1) 0 (c + 1)).1, .nil, (decG m ⟨t, 0, 0, none⟩ (d + 1) 0 (c + 1)).2.2) := by
  rw [decG, if_neg (by omega), hv]
  refine (if_neg (by simpa using h1)).trans ((if_neg h2).trans ((if_neg h3).trans ((if_neg (fun h => h4 h.2)).trans ?_)))
  simp only [ht]
  exact (if_neg (by simpa using h5)).trans ((if_pos h6).trans (if_pos h7))
theorem decG_list (h : s.at_ < s.b.length) (hv : varR s = (n, s1)) (h1 : s1.err = 0) (h2 : ¬ (n / 4 ≤ ah ∨ 1000 < n / 4)) (h3 : ¬ 64 ≤ c) (h4 : d ≠ 4) (ht : textR s1 4096 = (t, s2)) (h5 : s2.err = 0) (h6 : n % 2 = 1)
    {L : Fo} {c' : Nat} (h7 : decG m ⟨t, 0, 0, none⟩ (d + 1) 0 (c + 1) = (0, L, c')) :
    decG (m + 1) s d ah c = cmb (.cons (n / 4 : Nat) (decide (2 ≤ n % 4)) true [] L .nil) (decG m s2 d (n / 4) c') := by
  rw [decG, if_neg (by omega), hv]
  refine (if_neg (by simpa using h1)).trans ((if_neg h2).trans ((if_neg h3).trans ((if_neg (fun h => h4 h.2)).trans ?_)))
  simp only [ht]
  refine (if_neg (by simpa using h5)).trans ((if_pos h6).trans ?_)
  rw [h7]
  exact (if_neg (by simp)).trans rfl
end

/-! ### What a reader's step leaves -/
theorem varR_step {s s1 : RS} {n : Nat} (hv : varR s = (n, s1)) (h0 : s.err = 0) (ha : s.at_ ≤ s.b.length) : s1.b = s.b ∧ s1.gA = s.gA ∧ s.at_ ≤ s1.at_ ∧ s1.at_ ≤ s.b.length ∧ U64 n ∧ (s1.err = 0 → s.at_ < s1.at_) := by
  unfold varR at hv
  rw [if_neg (by simpa using h0)] at hv
  cases hg : varGo (s.b.drop s.at_) 0 with
  | bad e =>
    rw [hg] at hv
    injection hv with hn hs
    subst hs
    refine ⟨rfl, rfl, Nat.le_refl _, ha, by rw [← hn]; unfold U64; decide, fun h => ?_⟩
    rcases varGo_err hg with rfl | rfl <;> cases h
  | ok n' k =>
    rw [hg] at hv
    injection hv with hn hs
    subst hs
    obtain ⟨g1, g2, g3⟩ := varGo_u64 hg
    rw [List.length_drop] at g2
    exact ⟨rfl, rfl, Nat.le_add_right _ _, by show s.at_ + k ≤ _; omega, hn ▸ g1, fun _ => by show s.at_ < s.at_ + k; omega⟩
theorem textR_step {s s1 : RS} {t : List UInt8} (ht : textR s 4096 = (t, s1)) (h0 : s.err = 0) (ha : s.at_ ≤ s.b.length) : s1.b = s.b ∧ s1.gA = s.gA ∧ s.at_ ≤ s1.at_ ∧ s1.at_ ≤ s.b.length ∧ t.length ≤ 4096 ∧ s.at_ + t.length ≤ s.b.length ∧ (s1.err = 0 → s.at_ + t.length < s1.at_) := by
  unfold textR at ht
  rw [if_neg (by simpa using h0)] at ht
  cases hg : varGo (s.b.drop s.at_) 0 with
  | bad e =>
    rw [hg] at ht
    injection ht with hn hs
    subst hs hn
    refine ⟨rfl, rfl, Nat.le_refl _, ha, by simp, by simpa using ha, fun h => ?_⟩
    rcases varGo_err hg with rfl | rfl <;> cases h
  | ok n k =>
    rw [hg] at ht
    obtain ⟨g1, g2, g3⟩ := varGo_u64 hg
    rw [List.length_drop] at g2
    simp only at ht
    by_cases h1 : (4096 : Int) < 0 ∨ (4096 : Int) < (n : Int)
    · rw [if_pos h1] at ht
      injection ht with hn hs
      subst hs hn
      exact ⟨rfl, rfl, Nat.le_refl _, ha, by simp, by simpa using ha, fun h => by cases h⟩
    · rw [if_neg h1] at ht
      by_cases h2 : s.b.length < s.at_ + k + n
      · rw [if_pos h2] at ht
        injection ht with hn hs
        subst hs hn
        exact ⟨rfl, rfl, Nat.le_refl _, ha, by simp, by simpa using ha, fun h => by cases h⟩
      · rw [if_neg h2] at ht
        injection ht with hn hs
        subst hs hn
        have hl : ((s.b.drop (s.at_ + k)).take n).length = n := by rw [List.length_take, List.length_drop]; omega
        rw [hl]
        exact ⟨rfl, rfl, by show s.at_ ≤ s.at_ + k + n; omega, by show s.at_ + k + n ≤ _; omega, by omega, by omega, fun _ => by show s.at_ + n < s.at_ + k + n; omega⟩
/-- Where the bytes lie plays no part. -/
theorem textR_g (s : RS) (g : Option Addr) (z : Int) : textR { s with gA := g } z = ((textR s z).1, { (textR s z).2 with gA := g }) := by
  unfold textR
  simp only
  split
  · rfl
  · split
    · rfl
    · split
      · rfl
      · split <;> rfl
theorem varR_g2 (s : RS) (g : Option Addr) : varR { s with gA := g } = ((varR s).1, { (varR s).2 with gA := g }) := by
  unfold varR
  simp only
  split
  · rfl
  · split <;> rfl
theorem decG_g (g : Option Addr) : ∀ (m : Nat) (s : RS) (d : Int) (ah c : Nat), decG m { s with gA := g } d ah c = decG m s d ah c
  | 0, _, _, _, _ => rfl
  | m + 1, s, d, ah, c => by
    rw [decG, decG, varR_g2]
    simp only
    rw [textR_g]
    simp only
    rw [decG_g g m, decG_g g m]
/-- How many items there are behind. -/
theorem decG_count : ∀ (m : Nat) (s : RS) (d : Int) (ah c : Nat), c ≤ 64 → (decG m s d ah c).1 = 0 → (decG m s d ah c).2.2 = c + (decG m s d ah c).2.1.size ∧ (decG m s d ah c).2.2 ≤ 64
  | 0, _, _, _, c, hc, _ => ⟨rfl, hc⟩
  | m + 1, s, d, ah, c, hc, h => by
    obtain ⟨n, s1, hv⟩ : ∃ n s1, varR s = (n, s1) := ⟨_, _, rfl⟩
    obtain ⟨t, s2, ht⟩ : ∃ t s2, textR s1 4096 = (t, s2) := ⟨_, _, rfl⟩
    by_cases h0 : s.b.length ≤ s.at_
    · rw [decG_end h0]; exact ⟨rfl, hc⟩
    have h0' : s.at_ < s.b.length := by omega
    by_cases h1 : s1.err = 0
    · by_cases h2 : n / 4 ≤ ah ∨ 1000 < n / 4
      · rw [decG_form h0' hv h1 h2] at h; cases h
      by_cases h3 : 64 ≤ c
      · rw [decG_many h0' hv h1 h2 h3] at h; cases h
      by_cases h4 : n % 2 = 1 ∧ d = 4
      · rw [decG_deep h0' hv h1 h2 h3 h4] at h; cases h
      by_cases h5 : s2.err = 0
      · by_cases h6 : n % 2 = 1
        · have hd : d ≠ 4 := fun e => h4 ⟨h6, e⟩
          by_cases h7 : (decG m ⟨t, 0, 0, none⟩ (d + 1) 0 (c + 1)).1 = 0
          · obtain ⟨L, c', e7⟩ : ∃ L c', decG m ⟨t, 0, 0, none⟩ (d + 1) 0 (c + 1) = (0, L, c') := ⟨_, _, Prod.ext h7 rfl⟩
            obtain ⟨q1, q2⟩ := decG_count m ⟨t, 0, 0, none⟩ (d + 1) 0 (c + 1) (by omega) h7
            rw [e7] at q1 q2
            rw [decG_list h0' hv h1 h2 h3 hd ht h5 h6 e7] at h ⊢
            obtain ⟨r1, r2⟩ := decG_count m s2 d (n / 4) c' q2 h
            refine ⟨?_, r2⟩
            show _ = c + (Fo.app _ _).size
            rw [Fo.size_app]
            simp only [Fo.size]
            show (decG m s2 d (n / 4) c').2.2 = _
            rw [r1]
            simp only at q1
            omega
          · rw [decG_bad h0' hv h1 h2 h3 hd ht h5 h6 h7] at h; exact absurd h h7
        · rw [decG_item h0' hv h1 h2 h3 ht h5 (by omega)] at h ⊢
          obtain ⟨r1, r2⟩ := decG_count m s2 d (n / 4) (c + 1) (by omega) h
          refine ⟨?_, r2⟩
          show _ = c + (Fo.app _ _).size
          rw [Fo.size_app]
          simp only [Fo.size]
          show (decG m s2 d (n / 4) (c + 1)).2.2 = _
          rw [r1]
          omega
      · rw [decG_text h0' hv h1 h2 h3 h4 ht h5] at h; exact absurd h h5
    · rw [decG_var h0' hv h1] at h; exact absurd h h1
end Go.Proofs.Ytcffinkkfdfcaaa

/- tlv.must: an error is thrown. Conditions: none. -/
namespace Go.Proofs.Ytcffinkkfdfcaaa
open Go Go.RowKit

/-- An error that was thrown. -/
def thrown (e : Nat) : Ending := .panicked [{ v := .iface 32 (.int .i64 (e : Int)), recovered := false }]
set_option maxRecDepth 100000 in
theorem must_ok (e : Nat) (he : e = 0) (w : World) : Calls Try.prog 84 #[.int .i64 (e : Int)] w fun r w' => r = .returned (.tuple #[]) ∧ w' = w := by
  subst he
  go_enter Try.func84, Try.ntmps84
  go_wp2
  go_end0
  exact ⟨rfl, rfl⟩
set_option maxRecDepth 100000 in
theorem must_no (e : Nat) (he : e ≠ 0) (w : World) : Calls Try.prog 84 #[.int .i64 (e : Int)] w fun r w' => r = thrown e ∧ w' = w := by
  have h0 : ((e : Int) != 0) = true := by rw [bne_iff_ne]; omega
  unfold thrown
  go_enter Try.func84, Try.ntmps84
  clear he
  go_wp2
  exact ⟨rfl, rfl, rfl⟩
end Go.Proofs.Ytcffinkkfdfcaaa

/- The world within tlv's reading of a list of items. Conditions: none. -/
namespace Go.Proofs.Ytcffinkkfdfcaaa
open Go Go.RowKit

theorem and_two (n : Nat) : (n &&& 2 ≠ 0) = (2 ≤ n % 4) := by
  have h1 : n &&& 2 ≤ 2 := Nat.and_le_right
  have h2 : (n &&& 2) % 2 ^ 2 = (n % 2 ^ 2) &&& (2 % 2 ^ 2) := Nat.and_mod_two_pow
  have h3 : n &&& 2 = (n % 4) &&& 2 := by
    have : (n &&& 2) % 2 ^ 2 = n &&& 2 := Nat.mod_eq_of_lt (by omega)
    rw [this] at h2
    exact h2
  rw [h3]
  have h4 : n % 4 < 4 := Nat.mod_lt _ (by decide)
  generalize n % 4 = q at h4
  match q, h4 with
  | 0, _ => decide
  | 1, _ => decide
  | 2, _ => decide
  | 3, _ => decide
theorem and_one (n : Nat) : (n &&& 1 ≠ 0) = (n % 2 = 1) := by
  rw [Nat.and_one_is_mod]
  exact propext ⟨fun h => by omega, fun h => by omega⟩
theorem band2 {n : Nat} (h : U64 n) : (bits BinOp.and .u64 (n : Int) 2 != 0) = decide (2 ≤ n % 4) := by
  rw [show (2 : Int) = ((2 : Nat) : Int) from rfl, u64_and_nat n 2 h.out (by decide)]
  have := and_two n
  by_cases h0 : n &&& 2 = 0
  · rw [h0]
    have h1 : ¬ 2 ≤ n % 4 := fun hh => by rw [← this] at hh; exact hh h0
    rw [decide_eq_false h1]; rfl
  · have h1 : 2 ≤ n % 4 := by rw [← this]; exact h0
    rw [decide_eq_true h1, bne_iff_ne]
    omega
theorem band1 {n : Nat} (h : U64 n) : (bits BinOp.and .u64 (n : Int) 1 != 0) = decide (n % 2 = 1) := by
  rw [show (1 : Int) = ((1 : Nat) : Int) from rfl, u64_and_nat n 1 h.out (by decide)]
  have := and_one n
  by_cases h0 : n &&& 1 = 0
  · rw [h0]
    have h1 : ¬ n % 2 = 1 := fun hh => by rw [← this] at hh; exact hh h0
    rw [decide_eq_false h1]; rfl
  · have h1 : n % 2 = 1 := by rw [← this]; exact h0
    rw [decide_eq_true h1, bne_iff_ne]
    omega
theorem Rdr.frame {w w' : World} {r : Nat} {s : RS} (h : Rdr w r s) (h1 : w'.heap[r]? = w.heap[r]?) (h2 : ∀ a, s.gA = some a → a.block < w.heap.size → w'.heap[a.block]? = w.heap[a.block]?) (hs : w.heap.size ≤ w'.heap.size) : Rdr w' r s := by
  obtain ⟨A, c, g1, g2, g3, g4⟩ := h
  refine ⟨A, c, h1.trans g1, g2.of_blocks (fun b hb ⟨off, e⟩ => ?_) hs, g3, g4⟩
  exact h2 ⟨b, off, none⟩ (by rw [← g3.1]; exact e) hb
/-- The count of items. -/
def CntB (w : World) (bx c : Nat) : Prop := w.heap[bx]? = some (.cells #[.int .i64 (c : Int)] 117 (0, 0))
theorem CntB.set {w : World} {bx c : Nat} (h : CntB w bx c) (c' : Nat) : CntB (w.setCell ⟨bx, 0, none⟩ (.int .i64 (c' : Int))) bx c' := by
  unfold CntB at *
  rw [heap_set h]; rfl
def okD (w0 : World) (gr : Nat) (g : Option Addr) (j : Nat) : Prop := w0.heap.size ≤ j ∧ j ≠ gr ∧ ∀ a, g = some a → j ≠ a.block
structure DlS (w0 : World) (bx gr : Nat) (s : RS) (v : Value) (ds : List ItV) (P : Fo) (c0 : Nat) (w : World) : Prop where
  rd : Rdr w gr s
  out : FoP (okD w0 gr s.gA) w v ds P
  cnt : CntB w bx c0
  g : w0.grownBy w (some bx)
  lo : w0.heap.size ≤ gr
  bx : bx < w0.heap.size
  gA : ∀ a, s.gA = some a → w0.heap.size ≤ a.block ∧ a.block < w.heap.size
section
variable {w0 w w' : World} {bx gr c0 : Nat} {s s' : RS} {v v' : Value} {ds : List ItV} {P : Fo}
/-- What turns no old block but the count's. -/
theorem DlS.step (h : DlS w0 bx gr s v ds P c0 w) (hg : w.grownBy w' (some bx)) {c1 : Nat} (hc : CntB w' bx c1) : DlS w0 bx gr s v ds P c1 w' := by
  have hb := h.bx
  have hne : ∀ j, w0.heap.size ≤ j → j < w.heap.size → w'.heap[j]? = w.heap[j]? := fun j hj hl => hg.block j hl (fun e => by injection e with e; omega)
  exact ⟨h.rd.frame (hne gr h.lo h.rd.lt) (fun a e hl => hne _ (h.gA a e).1 hl) hg.size, h.out.frame (fun j hj hl => hne j hj.1 hl), hc, only_trans h.g hg, h.lo, h.bx, fun a e => ⟨(h.gA a e).1, Nat.lt_of_lt_of_le (h.gA a e).2 hg.size⟩⟩
theorem DlS.below (h : DlS w0 bx gr s v ds P c0 w) (hb : Below w.heap.size w w') : DlS w0 bx gr s v ds P c0 w' :=
  h.step (grownBy_of_below hb _) ((hb.block bx (heap_lt h.cnt)).trans h.cnt)
theorem DlS.drewN (h : DlS w0 bx gr s v ds P c0 w) (q : Nat) : DlS w0 bx gr s v ds P c0 (w.drewN q) := h.below (below_drewN (Below.refl _ _) q)
/-- The reader reads on. -/
theorem DlS.read (h : DlS w0 bx gr s v ds P c0 w) (hr : Rdr w' gr s') (hA : s'.gA = s.gA) (hg : w.grownBy w' (some gr)) : DlS w0 bx gr s' v ds P c0 w' := by
  have hb := h.bx
  have hl := h.lo
  refine ⟨hr, ?_, (hg.block bx (heap_lt h.cnt) (fun e => by injection e with e; omega)).trans h.cnt, ?_, h.lo, h.bx, fun a e => ?_⟩
  · rw [hA]
    exact h.out.frame (fun j hj hl => hg.block j hl (fun e => by injection e with e; exact hj.2.1 e))
  · refine ⟨hg.os.trans h.g.os, hg.tape.trans h.g.tape, hg.output.trans h.g.output, Nat.le_trans h.g.size hg.size, fun k hk hne => ?_⟩
    exact (hg.block k (Nat.lt_of_lt_of_le hk h.g.size) (fun e => by injection e with e; omega)).trans (h.g.block k hk hne)
  · rw [hA] at e
    exact ⟨(h.gA a e).1, Nat.lt_of_lt_of_le (h.gA a e).2 hg.size⟩
theorem DlS.more (h : DlS w0 bx gr s v ds P c0 w) {d : ItV} {R : Fo} (hd : ItsO (fun j => okD w0 gr s.gA j ∧ v.ownBlock ≠ some j) w [d] R) (ho : OwnI w' 0 v' (ds ++ [d])) (hg : w.grownBy w' v.ownBlock) (hv : v'.ownBlock = v.ownBlock ∨ v'.ownBlock = some w.heap.size) :
    DlS w0 bx gr s v' (ds ++ [d]) (P.app R) c0 w' := by
  have hb := h.bx
  have hz := h.g.size
  have hlt := h.rd.lt
  have hne : ∀ j, j < w.heap.size → ¬ okD w0 gr s.gA j → w'.heap[j]? = w.heap[j]? := fun j hl hn => hg.block j hl (fun e => hn (h.out.ok_ j e.symm))
  refine ⟨h.rd.frame (hne gr hlt (fun hh => hh.2.1 rfl)) (fun a e hl => hne _ hl (fun hh => hh.2.2 a e rfl)) hg.size, h.out.more hd ho hg hv ⟨hz, by omega, fun a e => ?_⟩, ?_, ?_, h.lo, h.bx, fun a e => ⟨(h.gA a e).1, Nat.lt_of_lt_of_le (h.gA a e).2 hg.size⟩⟩
  · have := (h.gA a e).2; omega
  · exact (hne bx (heap_lt h.cnt) (fun hh => by have := hh.1; omega)).trans h.cnt
  · refine ⟨hg.os.trans h.g.os, hg.tape.trans h.g.tape, hg.output.trans h.g.output, Nat.le_trans h.g.size hg.size, fun k hk hne' => ?_⟩
    exact (hne k (Nat.lt_of_lt_of_le hk h.g.size) (fun hh => by have := hh.1; omega)).trans (h.g.block k hk hne')
end
/-- From a world behind, where only the reader, the count and newer blocks have turned. -/
theorem DlS.jump {w0 w w' : World} {bx gr c0 c1 : Nat} {s s' : RS} {v : Value} {ds : List ItV} {P : Fo} (h : DlS w0 bx gr s v ds P c0 w) (hk : Keeps (fun j => j = gr ∨ j = bx ∨ w.heap.size ≤ j) w w') (hr : Rdr w' gr s') (hA : s'.gA = s.gA) (hc : CntB w' bx c1) : DlS w0 bx gr s' v ds P c1 w' := by
  have hb := h.bx
  have hl := h.lo
  have hz := h.g.size
  refine ⟨hr, ?_, hc, ⟨hk.os.trans h.g.os, hk.tape.trans h.g.tape, hk.output.trans h.g.output, Nat.le_trans hz hk.size, fun k hk' hne => ?_⟩, h.lo, h.bx, fun a e => ?_⟩
  · rw [hA]
    exact h.out.frame (fun j hj hl => hk.block j hl (fun e => by
      have h1 := hj.1
      have h2 := hj.2.1
      omega))
  · exact (hk.block k (Nat.lt_of_lt_of_le hk' hz) (fun e => by
      have : k ≠ bx := fun e => hne (by rw [e])
      omega)).trans (h.g.block k hk' hne)
  · rw [hA] at e
    exact ⟨(h.gA a e).1, Nat.lt_of_lt_of_le (h.gA a e).2 hk.size⟩
/-- What the reading of a list ends with. -/
def DlP (w : World) (bx : Nat) (R : Nat × Fo × Nat) (r : Ending) (w' : World) : Prop :=
  (R.1 = 0 → ∃ v, r = .returned v ∧ FoO (w.heap.size ≤ ·) w' v R.2.1 ∧ CntB w' bx R.2.2) ∧ (R.1 ≠ 0 → r = thrown R.1) ∧ w.grownBy w' (some bx)
theorem DlP.bad {w w' : World} {bx : Nat} {R : Nat × Fo × Nat} {e : Nat} (hR : R.1 = e) (he : e ≠ 0) (hg : w.grownBy w' (some bx)) : DlP w bx R (thrown e) w' :=
  ⟨fun h => absurd (hR.symm.trans h) he, fun _ => by rw [hR], hg⟩
end Go.Proofs.Ytcffinkkfdfcaaa
