/- Parts one behind the other: What the reader of the layer wire does: Num and Take; What the reader of the layer wire does: Take and Text; The bytes that a reader has ahead, and what numbers it reads; what stays outside two blocks; What law 17's fixed answers; What the methods of a reading (runs) do: an error is thrown; a number that is at most so great; a colour; What read does: the rows that stand there are put into a screen; Tools for the walk of rows.Apply: the state behind the first numbers; the title's part; bits; texts out of bytes. Conditions: as told at each. -/
import Derived.Test.YtndjggabdajbfaaGreatDoorPG20
import Derived.StillTailTactics
import Derived.Test.YtndjggabdajbfaaGreatDoorPG15
import Derived.Test.YtndjggabdajbfaaGreatDoorPG18
import Derived.BigRegion
import Derived.Test.YtndjggabdajbfaaGreatDoorPG3
import Derived.Recover
import Derived.Test.YtndjggabdajbfaaGreatDoorPG16
import Derived.Test.YtndjggabdajbfaaGreatDoorPG12
import Derived.Laws.BytesArg

set_option linter.unusedVariables false
set_option linter.unusedSimpArgs false
/- What the reader of the layer wire does: Num and Take. Conditions: a reader that lies in a block of its own. -/
namespace Go.Proofs.YtndjggabdajbfaaGreatDoor
open Go Go.RowKit

def numR (s : RS) (size : Int) : Nat × RS :=
  if s.err ≠ 0 then (0, s) else if size < 1 ∨ 8 < size then (0, { s with err := 1 })
  else if (s.b.length : Int) - (s.at_ : Int) < size then (0, { s with err := 2 })
  else (beN ((s.b.drop s.at_).take size.toNat), { s with at_ := s.at_ + size.toNat })

theorem setErr_only {w : World} {r : Nat} {s : RS} (h : Rdr w r s) (q e : Nat) : Rdr ((w.drewN q).setCell ⟨r, 2, none⟩ (.int .i64 (e : Int))) r { s with err := e } ∧ w.grownBy ((w.drewN q).setCell ⟨r, 2, none⟩ (.int .i64 (e : Int))) (some r) :=
  ⟨(h.drewN q).setErr e, only_setD q r 2 _⟩

set_option maxRecDepth 100000 in
set_option maxHeartbeats 400000 in
theorem Rnum_c (r : Nat) (s : RS) (size : Int) (w : World) (h : Rdr w r s) (hs : (Lit.int .i64 size).wf = true) :
    Calls Tryz.prog 19 #[.pointer (some ⟨r, 0, none⟩), .int .i64 size] w fun e w' => e = .returned (.int .u64 ((numR s size).1 : Int)) ∧ Rdr w' r (numR s size).2 ∧ w.grownBy w' (some r) := by
  obtain ⟨A, c, ⟨c0, c1, c2⟩, ⟨f0, f1, f2⟩, hrd, hlc, hcm, hk, hl⟩ := h.open_
  by_cases h0 : s.err = 0
  · have hb : (((s.err : Nat) : Int) != 0) = false := by rw [bne_eq_false_iff_eq]; omega
    by_cases hsz : size < 1 ∨ 8 < size
    · have e1 : numR s size = (0, { s with err := 1 }) := by rw [numR, if_neg (by omega), if_pos hsz]
      rw [e1]
      clear e1
      have H0 := Lib.hid h0; clear h0
      rcases hsz with h1 | h1
      · go_enter Tryz.func19, Tryz.ntmps19
        go_wp2
        go_ret
        exact ⟨rfl, setErr_only h 0 1⟩
      · go_enter Tryz.func19, Tryz.ntmps19
        go_wp2
        go_ret
        exact ⟨rfl, setErr_only h 0 1⟩
    · obtain ⟨n, rfl⟩ := Int.eq_ofNat_of_zero_le (show 0 ≤ size by omega)
      have hn1 : 1 ≤ (n : Int) := by omega
      have hn8 : (n : Int) ≤ 8 := by omega
      by_cases hsh : (s.b.length : Int) - (s.at_ : Int) < (n : Int)
      · have e1 : numR s n = (0, { s with err := 2 }) := by rw [numR, if_neg (by omega), if_neg (by omega), if_pos hsh]
        rw [e1]
        clear e1
        have H0 := Lib.hid h0; clear h0
        have HS := Lib.hid hsz; clear hsz
        go_enter Tryz.func19, Tryz.ntmps19
        go_wp2
        go_quiet (fail)
        go_wp2
        go_ret
        exact ⟨rfl, setErr_only h _ 2⟩
      · obtain ⟨l, el⟩ : ∃ l, l = s.b.drop s.at_ := ⟨_, rfl⟩
        have e1 : numR s n = (beN (l.take n), { s with at_ := s.at_ + n }) := by rw [numR, if_neg (by omega), if_neg (by omega), if_neg hsh, el]; rfl
        have hll : l.length + s.at_ = s.b.length := by rw [el, List.length_drop]; omega
        have hsh' : (n : Int) ≤ (s.b.length : Int) - (s.at_ : Int) := by omega
        have H1 := Lib.hid e1; clear e1
        have H0 := Lib.hid h0; clear h0
        have HS := Lib.hid hsz; clear hsz
        have EL := Lib.hid el; clear el
        clear hsh
        go_enter Tryz.func19, Tryz.ntmps19
        go_wp2
        go_quiet (fail)
        go_wp2
        go_loopw [5, 43] (fun x i wr => ∃ k : Nat, k ≤ n ∧ i = .int .i64 k ∧ x = .int .u64 ((beN (l.take k) : Nat) : Int) ∧ Rdr wr r { s with at_ := s.at_ + k } ∧ w.grownBy wr (some r)) (fun x i _ => n - (intOf i).toNat)
        case atStart => exact ⟨0, Nat.zero_le _, rfl, rfl, h, ⟨rfl, rfl, rfl, Nat.le_refl _, fun _ _ _ => rfl⟩⟩
        case round =>
          obtain ⟨k, hkn, rfl, rfl, hw, hg⟩ := hrel
          rcases Nat.lt_or_ge k n with hlt | hge
          · have hkl : k < l.length := by omega
            obtain ⟨A', c', ⟨d0, d1, d2⟩, ⟨g0, g1, g2⟩, hrd', hlc', _, _, _⟩ := hw.open_
            simp only [] at d0 d1 d2 hrd' hlc'
            obtain ⟨b, off, rfl, _, hc⟩ := hrd'.addrB (by omega)
            obtain ⟨d, ed⟩ : ∃ d, d = (l[k]).toNat := ⟨_, rfl⟩
            have hcell : wr.cell? ⟨b, off + (s.at_ + k), none⟩ = some (.int .u8 (d : Int)) := by
              rw [hc (s.at_ + k) (by omega), ed]
              have := EL.out
              subst this
              simp [bv]
            have hd : d < 256 := by rw [ed]; exact UInt8.toNat_lt _
            obtain ⟨x, hx⟩ : ∃ x, x = beN (l.take k) := ⟨_, rfl⟩
            have hx1 : beN (l.take (k + 1)) = x * 256 + d := by
              rw [List.take_succ_eq_append_getElem hkl, beN_snoc, hx, ed]
            have hx2 : x < 256 ^ 7 := by
              rw [hx]
              exact Nat.lt_of_lt_of_le (beN_lt _) (Nat.pow_le_pow_right (by decide) (by rw [List.length_take]; omega))
            rw [← hx]
            have hxm : x * 256 < 18446744073709551616 := by omega
            have hor := or_walk8 hxm hd
            have HX1 := Lib.hid hx1; clear hx1
            have HX2 := Lib.hid hx2; clear hx2
            have hwx : IntKind.u64.wrap ((x : Int) * 256) = (x : Int) * 256 := IntWalk.u64_in _ ⟨by omega, by omega⟩
            rw [← hwx] at hor
            have fin : ∀ q' : Nat, ∃ y : Nat, Value.int .i64 ((s.at_ : Int) + (k : Int) + 1) = .int .i64 (y : Int) ∧ Rdr ((wr.drewN q').setCell ⟨r, 1, none⟩ (.int .i64 (y : Int))) r { s with at_ := s.at_ + (k + 1) } ∧ w.grownBy ((wr.drewN q').setCell ⟨r, 1, none⟩ (.int .i64 (y : Int))) (some r) := fun q' =>
              ⟨s.at_ + (k + 1), by congr 1, (hw.drewN q').setAt _ (by show _ ≤ s.b.length; omega), only_trans hg (only_setD q' r 1 _)⟩
            have FIN := Lib.hid fin; clear fin
            have HOR := Lib.hid hor; clear hor
            clear hwx
            have HXM := Lib.hid hxm; clear hxm
            have HX := Lib.hid hx; clear hx
            have ED := Lib.hid ed; clear ed
            have hsk : (s.at_ : Int) + (k : Int) < (s.b.length : Int) := by omega
            clear hc c0 c1 c2 f0 f1 f2
            go_wp2
            go_quiet (fail)
            go_wp2
            go_roundw
            case rel =>
              obtain ⟨y, e1, e2, e3⟩ := FIN.out nq
              refine ⟨k + 1, by omega, by go_num, by rw [HOR.out, HX1.out], ?_, ?_⟩
              · rw [← e1] at e2; exact e2
              · rw [← e1] at e3; exact e3
            case measure => simp [intOf]; omega
          · obtain rfl : k = n := by omega
            go_wp2
            go_ret
            rw [H1.out]
            exact ⟨rfl, hw, hg⟩
  · have hb : (((s.err : Nat) : Int) != 0) = true := by rw [bne_iff_ne]; omega
    have e1 : numR s size = (0, s) := if_pos h0
    rw [e1]
    clear e1
    have H0 := Lib.hid h0; clear h0
    go_enter Tryz.func19, Tryz.ntmps19
    go_wp2
    go_ret
    exact ⟨rfl, h, World.grownBy.refl _ _⟩
end Go.Proofs.YtndjggabdajbfaaGreatDoor



/- What the reader of the layer wire does: Take and Text. Conditions: a reader that lies in a block of its own. -/
namespace Go.Proofs.YtndjggabdajbfaaGreatDoor
open Go Go.RowKit

def takeR (s : RS) (n : Int) : List UInt8 × RS :=
  if s.err ≠ 0 then ([], s) else if n < 0 then ([], { s with err := 1 })
  else if (s.b.length : Int) - (s.at_ : Int) < n then ([], { s with err := 2 })
  else ((s.b.drop s.at_).take n.toNat, { s with at_ := s.at_ + n.toNat })

set_option maxRecDepth 100000 in
set_option maxHeartbeats 400000 in
theorem Rtake_c (r : Nat) (s : RS) (n : Int) (w : World) (h : Rdr w r s) (hs : (Lit.int .i64 n).wf = true) :
    Calls Tryz.prog 60 #[.pointer (some ⟨r, 0, none⟩), .int .i64 n] w fun e w' => ∃ v, e = .returned v ∧ OwnB w' w.heap.size v (takeR s n).1 ∧ Rdr w' r (takeR s n).2 ∧ w.grownBy w' (some r) := by
  obtain ⟨A, c, ⟨c0, c1, c2⟩, ⟨f0, f1, f2⟩, hrd, hlc, hcm, hk, hl⟩ := h.open_
  by_cases h0 : s.err = 0
  · have hb : (((s.err : Nat) : Int) != 0) = false := by rw [bne_eq_false_iff_eq]; omega
    rcases Int.lt_or_le n 0 with h1 | h1
    · have e1 : takeR s n = ([], { s with err := 1 }) := by rw [takeR, if_neg (by omega), if_pos h1]
      rw [e1]
      clear e1
      have H0 := Lib.hid h0; clear h0
      go_enter Tryz.func60, Tryz.ntmps60
      go_wp2
      go_ret
      exact ⟨_, rfl, Own.nil_ _ _ _, setErr_only h 0 1⟩
    · obtain ⟨m, rfl⟩ := Int.eq_ofNat_of_zero_le h1
      by_cases hsh : (s.b.length : Int) - (s.at_ : Int) < (m : Int)
      · have e1 : takeR s m = ([], { s with err := 2 }) := by rw [takeR, if_neg (by omega), if_neg (by omega), if_pos hsh]
        rw [e1]
        clear e1
        have H0 := Lib.hid h0; clear h0
        go_enter Tryz.func60, Tryz.ntmps60
        go_wp2
        go_quiet (fail)
        go_wp2
        go_ret
        exact ⟨_, rfl, Own.nil_ _ _ _, setErr_only h _ 2⟩
      · have e1 : takeR s m = ((s.b.drop s.at_).take m, { s with at_ := s.at_ + m }) := by rw [takeR, if_neg (by omega), if_neg (by omega), if_neg hsh]; rfl
        have hsh' : (m : Int) ≤ (s.b.length : Int) - (s.at_ : Int) := by omega
        have H1 := Lib.hid e1; clear e1
        have H0 := Lib.hid h0; clear h0
        clear hsh
        go_enter Tryz.func60, Tryz.ntmps60
        go_wp2
        go_quiet (fail)
        go_wp2
        have hw1 : IntKind.i64.wrap ((s.at_ : Int) + (m : Int)) = (s.at_ : Int) + (m : Int) := IntWalk.i64_in _ ⟨by omega, by omega⟩
        have hw2 : (s.at_ : Int) + (m : Int) ≤ (c : Int) := by omega
        have hw3 : (s.at_ : Int) ≤ (s.at_ : Int) + (m : Int) := by omega
        have hw4 : (0 : Int) ≤ (s.at_ : Int) := by omega
        refine wp_region_still_tail 15 (by kernel_rfl) (by kernel_rfl) ?_
        simp only [List.take_succ_cons, List.take_zero, List.drop_succ_cons, List.drop_zero]
        change wpStill _ _ (w.drewN (nq + 1)) _ _ _
        repeat still_step
        refine wpStill_nil ?_
        change wpList _ _ _ _ _ (w.drewN (nq + 1))
        refine wpList_cloneB _ rfl (.tmp 52) rfl _ _ _ ((s.b.drop s.at_).take m) rfl ?_ ?_ ?_ ?_
        · rw [List.length_take, List.length_drop]; omega
        · rw [List.map_take, List.map_drop]
          exact ((hrd.drewN (nq + 1)).cut (by rw [List.length_map]) hk hlc).take m
        · omega
        · intro A' c' w2 g1 g2 g3 g4 g5 g6
          have hr2 : Rdr w2 r s := (h.drewN (nq + 1)).below g2
          have hg2 : w.grownBy w2 (some r) := grownBy_of_below (a := w) (w := w2) ⟨g2.os, g2.tape, g2.output, g2.size, g2.block⟩ _
          obtain ⟨A2, c2', ⟨d0, d1, d2⟩, ⟨e0, e1, e2⟩, _, _, _, _, _⟩ := hr2.open_
          have G1 := Lib.hid g1; clear g1
          have G2 := Lib.hid g2; clear g2
          have G5 := Lib.hid g5; clear g5
          have G6 := Lib.hid g6; clear g6
          clear c0 c1 c2 f0 f1 f2
          generalize (if c = s.at_ then A else Option.map (fun x => x.add s.at_) A) = A9
          have em : ((s.at_ : Int) + (m : Int)).toNat - s.at_ = m := by omega
          have G1' := G1.out
          rw [em] at G1'
          rw [em]
          have G3 := Lib.hid G1'; clear G1'
          clear G1 em g3 g4
          go_wp2
          go_ret
          rw [H1.out]
          refine ⟨_, rfl, ?_, ?_, ?_⟩
          · exact Own.setBelow (p := ⟨r, 1, none⟩) (show OwnB w2 w.heap.size _ _ from G3.out) h.lt _
          · have := hr2.setAt (s.at_ + m) (by omega)
            rw [show ((s.at_ + m : Nat) : Int) = (s.at_ : Int) + (m : Int) by omega] at this
            exact this
          · exact only_trans hg2 (only_set r 1 _)
  · have hb : (((s.err : Nat) : Int) != 0) = true := by rw [bne_iff_ne]; omega
    have e1 : takeR s n = ([], s) := if_pos h0
    rw [e1]
    clear e1
    have H0 := Lib.hid h0; clear h0
    go_enter Tryz.func60, Tryz.ntmps60
    go_wp2
    go_ret
    exact ⟨_, rfl, Own.nil_ _ _ _, h, World.grownBy.refl _ _⟩

def textR (s : RS) (most : Int) : List UInt8 × RS :=
  if s.err ≠ 0 then ([], s) else match varGo (s.b.drop s.at_) 0 with
    | .bad e => ([], { s with err := e })
    | .ok n k => if most < 0 ∨ most < (n : Int) then ([], { s with err := 4 })
      else if s.b.length < s.at_ + k + n then ([], { s with err := 2 })
      else ((s.b.drop (s.at_ + k)).take n, { s with at_ := s.at_ + k + n })


set_option maxRecDepth 100000 in
set_option maxHeartbeats 400000 in
theorem Rtext_bad (r : Nat) (s s1 : RS) (n : Nat) (most : Int) (w : World) (h : Rdr w r s) (hv : varR s = (n, s1)) (he : s1.err ≠ 0) :
    Calls Tryz.prog 39 #[.pointer (some ⟨r, 0, none⟩), .int .i64 most] w fun e w' => e = .returned (.slice none 0 0) ∧ Rdr w' r { s1 with at_ := s.at_ } ∧ w.grownBy w' (some r) := by
  have hV := Rvar_c r s w h
  rw [hv] at hV
  have HV := Lib.hid hV; clear hV
  have hsb : s1.b = s.b := by
    have := congrArg (fun x => x.2.b) hv
    simp only [varR] at this
    rw [← this]
    split
    · rfl
    · split <;> rfl
  obtain ⟨A, c, ⟨c0, c1, c2⟩, ⟨f0, f1, f2⟩, hrd, hlc, hcm, hk, hl⟩ := h.open_
  have hb : (((s1.err : Nat) : Int) != 0) = true := by rw [bne_iff_ne]; omega
  have HS := Lib.hid hsb; clear hsb
  clear he hv
  go_enter Tryz.func39, Tryz.ntmps39
  go_wp2_with (first | (go_at_call 35; refine HV.out.mono ?_; rintro e w1 ⟨rfl, hr1, hg1⟩; obtain ⟨A1, c1', ⟨d0, d1, d2⟩, ⟨e0, e1, e2⟩, _, _, _, _, _⟩ := hr1.open_; clear c0 c1 c2 f0 f1 f2))
  go_ret
  exact ⟨rfl, hr1.setAt s.at_ (by rw [HS.out]; exact hk), only_trans hg1 (only_set r 1 _)⟩

set_option maxRecDepth 100000 in
set_option maxHeartbeats 400000 in
theorem Rtext_long (r : Nat) (s s1 : RS) (n : Nat) (most : Int) (w : World) (h : Rdr w r s) (hv : varR s = (n, s1)) (he : s1.err = 0) (hm : (Lit.int .i64 most).wf = true) (hlong : most < 0 ∨ most < (n : Int)) :
    Calls Tryz.prog 39 #[.pointer (some ⟨r, 0, none⟩), .int .i64 most] w fun e w' => e = .returned (.slice none 0 0) ∧ Rdr w' r { s1 with at_ := s.at_, err := 4 } ∧ w.grownBy w' (some r) := by
  have hV := Rvar_c r s w h
  rw [hv] at hV
  have HV := Lib.hid hV; clear hV
  have hsb : s1.b = s.b := by
    have := congrArg (fun x => x.2.b) hv
    simp only [varR] at this
    rw [← this]
    split
    · rfl
    · split <;> rfl
  obtain ⟨A, c, ⟨c0, c1, c2⟩, ⟨f0, f1, f2⟩, hrd, hlc, hcm, hk, hl⟩ := h.open_
  have hb : (((s1.err : Nat) : Int) != 0) = false := by rw [bne_eq_false_iff_eq]; omega
  have HS := Lib.hid hsb; clear hsb
  obtain ⟨hm1, hm2⟩ := bounds_i64 hm
  clear he hv
  have fin : ∀ w1, Rdr w1 r s1 → w.grownBy w1 (some r) → Rdr ((w1.setCell ⟨r, 2, none⟩ (.int .i64 4)).setCell ⟨r, 1, none⟩ (.int .i64 (s.at_ : Int))) r { s1 with at_ := s.at_, err := 4 } ∧ w.grownBy ((w1.setCell ⟨r, 2, none⟩ (.int .i64 4)).setCell ⟨r, 1, none⟩ (.int .i64 (s.at_ : Int))) (some r) := fun w1 h1 h2 =>
    ⟨(h1.setErr 4).setAt s.at_ (by show _ ≤ s1.b.length; rw [HS.out]; exact hk), only_trans h2 (only_trans (only_set r 2 _) (only_set r 1 _))⟩
  have FIN := Lib.hid fin; clear fin
  rcases Int.lt_or_le most 0 with h0 | h0
  · clear hlong
    go_enter Tryz.func39, Tryz.ntmps39
    go_wp2_with (first | (go_at_call 35; refine HV.out.mono ?_; rintro e w1 ⟨rfl, hr1, hg1⟩; obtain ⟨A1, c1', ⟨d0, d1, d2⟩, ⟨e0, e1, e2⟩, _, _, _, _, _⟩ := hr1.open_; clear c0 c1 c2 f0 f1 f2))
    go_ret
    exact ⟨rfl, FIN.out _ hr1 hg1⟩
  · have h1 : most < (n : Int) := by omega
    clear hlong
    go_enter Tryz.func39, Tryz.ntmps39
    go_wp2_with (first | (go_at_call 35; refine HV.out.mono ?_; rintro e w1 ⟨rfl, hr1, hg1⟩; obtain ⟨A1, c1', ⟨d0, d1, d2⟩, ⟨e0, e1, e2⟩, _, _, _, _, _⟩ := hr1.open_; clear c0 c1 c2 f0 f1 f2))
    go_ret
    exact ⟨rfl, FIN.out _ hr1 hg1⟩

set_option maxRecDepth 100000 in
set_option maxHeartbeats 400000 in
theorem Rtext_short (r : Nat) (s s1 : RS) (n : Nat) (most : Int) (w : World) (h : Rdr w r s) (hv : varR s = (n, s1)) (he : s1.err = 0) (hm : (Lit.int .i64 most).wf = true) (h0 : 0 ≤ most) (h1 : (n : Int) ≤ most) (hs : s1.b.length < s1.at_ + n) :
    Calls Tryz.prog 39 #[.pointer (some ⟨r, 0, none⟩), .int .i64 most] w fun e w' => e = .returned (.slice none 0 0) ∧ Rdr w' r { s1 with at_ := s.at_, err := 2 } ∧ w.grownBy w' (some r) := by
  have hV := Rvar_c r s w h
  rw [hv] at hV
  have HV := Lib.hid hV; clear hV
  have hsb : s1.b = s.b := by
    have := congrArg (fun x => x.2.b) hv
    simp only [varR] at this
    rw [← this]
    split
    · rfl
    · split <;> rfl
  obtain ⟨A, c, ⟨c0, c1, c2⟩, ⟨f0, f1, f2⟩, hrd, hlc, hcm, hk, hl⟩ := h.open_
  have hb : (((s1.err : Nat) : Int) != 0) = false := by rw [bne_eq_false_iff_eq]; omega
  have HS := Lib.hid hsb; clear hsb
  obtain ⟨hm1, hm2⟩ := bounds_i64 hm
  clear he hv
  have fin : ∀ w1 q, Rdr w1 r s1 → w.grownBy w1 (some r) → Rdr (((w1.drewN q).setCell ⟨r, 2, none⟩ (.int .i64 2)).setCell ⟨r, 1, none⟩ (.int .i64 (s.at_ : Int))) r { s1 with at_ := s.at_, err := 2 } ∧ w.grownBy (((w1.drewN q).setCell ⟨r, 2, none⟩ (.int .i64 2)).setCell ⟨r, 1, none⟩ (.int .i64 (s.at_ : Int))) (some r) := fun w1 q h1 h2 =>
    ⟨((h1.drewN q).setErr 2).setAt s.at_ (by show _ ≤ s1.b.length; rw [HS.out]; exact hk), only_trans h2 (only_trans (only_setD q r 2 _) (only_set r 1 _))⟩
  have FIN := Lib.hid fin; clear fin
  go_enter Tryz.func39, Tryz.ntmps39
  go_wp2_with (first | (go_at_call 35; refine HV.out.mono ?_; rintro e w1 ⟨rfl, hr1, hg1⟩; obtain ⟨A1, c1', ⟨d0, d1, d2⟩, ⟨e0, e1, e2⟩, _, _, _, hk1, hl1⟩ := hr1.open_; have hw := IntWalk.u64_in ((s1.b.length : Int) - (s1.at_ : Int)) ⟨by omega, by omega⟩; clear c0 c1 c2 f0 f1 f2))
  go_quiet (fail)
  go_wp2
  go_ret
  exact ⟨rfl, FIN.out _ _ hr1 hg1⟩

set_option maxRecDepth 100000 in
set_option maxHeartbeats 400000 in
theorem Rtext_take (r : Nat) (s s1 : RS) (n : Nat) (most : Int) (w : World) (h : Rdr w r s) (hv : varR s = (n, s1)) (he : s1.err = 0) (hm : (Lit.int .i64 most).wf = true) (h0 : 0 ≤ most) (h1 : (n : Int) ≤ most) (hs : s1.at_ + n ≤ s1.b.length) :
    Calls Tryz.prog 39 #[.pointer (some ⟨r, 0, none⟩), .int .i64 most] w fun e w' => ∃ v, e = .returned v ∧ OwnB w' w.heap.size v ((s1.b.drop s1.at_).take n) ∧ Rdr w' r { s1 with at_ := s1.at_ + n } ∧ w.grownBy w' (some r) := by
  have hV := Rvar_c r s w h
  rw [hv] at hV
  have HV := Lib.hid hV; clear hV
  obtain ⟨A, c, ⟨c0, c1, c2⟩, ⟨f0, f1, f2⟩, hrd, hlc, hcm, hk, hl⟩ := h.open_
  have hb : (((s1.err : Nat) : Int) != 0) = false := by rw [bne_eq_false_iff_eq]; omega
  obtain ⟨hm1, hm2⟩ := bounds_i64 hm
  have ht : takeR s1 (n : Int) = ((s1.b.drop s1.at_).take n, { s1 with at_ := s1.at_ + n }) := by
    rw [takeR, if_neg (by omega), if_neg (by omega), if_neg (by omega)]; rfl
  have HT := Lib.hid ht; clear ht
  clear he hv
  go_enter Tryz.func39, Tryz.ntmps39
  go_wp2_with (first | (go_at_call 35; refine HV.out.mono ?_; rintro e w1 ⟨rfl, hr1, hg1⟩; obtain ⟨A1, c1', ⟨d0, d1, d2⟩, ⟨e0, e1, e2⟩, _, _, _, hk1, hl1⟩ := hr1.open_; have hw := IntWalk.u64_in ((s1.b.length : Int) - (s1.at_ : Int)) ⟨by omega, by omega⟩; clear c0 c1 c2 f0 f1 f2))
  go_quiet (fail)
  go_wp2_with (fail)
  refine (Rtake_c r s1 (n : Int) _ (hr1.drewN _) (WalkArith.wf_i64 (by omega))).mono ?_
  rintro e w2 ⟨v, rfl, ho, hr2, hg2⟩
  rw [HT.out] at ho hr2
  have HO := Lib.hid ho; clear ho
  have HR2 := Lib.hid hr2; clear hr2
  go_wp2
  go_ret
  exact ⟨_, rfl, Own.low HO.out hg1.size, HR2.out, only_trans hg1 (only_of_drewN hg2)⟩

theorem Rtext_c (r : Nat) (s : RS) (most : Int) (w : World) (h : Rdr w r s) (hm : (Lit.int .i64 most).wf = true) :
    Calls Tryz.prog 39 #[.pointer (some ⟨r, 0, none⟩), .int .i64 most] w fun e w' => ∃ v, e = .returned v ∧ OwnB w' w.heap.size v (textR s most).1 ∧ Rdr w' r (textR s most).2 ∧ w.grownBy w' (some r) := by
  by_cases h0 : s.err = 0
  · cases hg : varGo (s.b.drop s.at_) 0 with
    | bad e =>
      have hv : varR s = (0, { s with err := e }) := by rw [varR, if_neg (by omega), hg]
      have ht : textR s most = ([], { s with err := e }) := by rw [textR, if_neg (by omega), hg]
      rw [ht]
      refine (Rtext_bad r s _ 0 most w h hv (by rcases varGo_err hg with rfl | rfl <;> simp)).mono ?_
      rintro e w' ⟨rfl, h1, h2⟩
      exact ⟨_, rfl, Own.nil_ _ _ _, h1, h2⟩
    | ok n k =>
      have hv : varR s = (n, { s with at_ := s.at_ + k }) := by rw [varR, if_neg (by omega), hg]
      by_cases hl : most < 0 ∨ most < (n : Int)
      · have ht : textR s most = ([], { s with err := 4 }) := by rw [textR, if_neg (by omega), hg]; exact if_pos hl
        rw [ht]
        refine (Rtext_long r s _ n most w h hv h0 hm hl).mono ?_
        rintro e w' ⟨rfl, h1, h2⟩
        exact ⟨_, rfl, Own.nil_ _ _ _, h1, h2⟩
      · by_cases hs : s.b.length < s.at_ + k + n
        · have ht : textR s most = ([], { s with err := 2 }) := by rw [textR, if_neg (by omega), hg]; exact (if_neg hl).trans (if_pos hs)
          rw [ht]
          refine (Rtext_short r s _ n most w h hv h0 hm (by omega) (by omega) hs).mono ?_
          rintro e w' ⟨rfl, h1, h2⟩
          exact ⟨_, rfl, Own.nil_ _ _ _, h1, h2⟩
        · have ht : textR s most = ((s.b.drop (s.at_ + k)).take n, { s with at_ := s.at_ + k + n }) := by rw [textR, if_neg (by omega), hg]; exact (if_neg hl).trans (if_neg hs)
          rw [ht]
          exact Rtext_take r s _ n most w h hv h0 hm (by omega) (by omega) (by show s.at_ + k + n ≤ s.b.length; omega)
  · have hv : varR s = (0, s) := if_pos h0
    have ht : textR s most = ([], s) := if_pos h0
    rw [ht]
    refine (Rtext_bad r s s 0 most w h hv h0).mono ?_
    rintro e w' ⟨rfl, h1, h2⟩
    exact ⟨_, rfl, Own.nil_ _ _ _, h1, h2⟩

end Go.Proofs.YtndjggabdajbfaaGreatDoor



/- The bytes that a reader has ahead, and what numbers it reads; what stays outside two blocks. Conditions: none. -/
namespace Go.Proofs.YtndjggabdajbfaaGreatDoor
open Go Go.RowKit Go.Lib

/-- The bytes ahead. -/
def RS.rest (s : RS) : List UInt8 := s.b.drop s.at_
theorem rest_len (s : RS) : s.rest.length = s.b.length - s.at_ := by rw [RS.rest, List.length_drop]
theorem num_ok {s : RS} {k : Int} (h : s.err = 0) (h1 : 1 ≤ k) (h8 : k ≤ 8) (hl : k ≤ (s.rest.length : Int)) : numR s k = (beN (s.rest.take k.toNat), { s with at_ := s.at_ + k.toNat }) := by
  rw [rest_len] at hl
  rw [numR, if_neg (by omega), if_neg (by omega), if_neg (by omega)]
  rfl
theorem rest_step (s : RS) (k : Nat) : RS.rest { s with at_ := s.at_ + k } = s.rest.drop k := by
  unfold RS.rest
  rw [List.drop_drop]
theorem beN_one (y : UInt8) : beN [y] = y.toNat := by
  show 0 * 256 + y.toNat = y.toNat
  omega
theorem num1_cons {s : RS} {y : UInt8} {l : List UInt8} (h : s.err = 0) (hl : s.rest = y :: l) : ∃ s', numR s 1 = (y.toNat, s') ∧ s'.err = 0 ∧ s'.rest = l ∧ s'.gA = s.gA ∧ s'.b = s.b := by
  refine ⟨{ s with at_ := s.at_ + 1 }, ?_, h, ?_, rfl, rfl⟩
  · rw [num_ok h (by decide) (by decide) (by rw [hl, List.length_cons]; omega), hl]
    show (beN [y], _) = _
    rw [beN_one]
    rfl
  · rw [rest_step, hl]
    rfl
/-! ### What stays outside some blocks -/
structure Stays (S : Nat → Prop) (w w' : World) : Prop where
  os : w'.os = w.os
  tape : w'.tape = w.tape
  output : w'.output = w.output
  size : w.heap.size ≤ w'.heap.size
  block : ∀ k, k < w.heap.size → ¬ S k → w'.heap[k]? = w.heap[k]?
theorem Stays.refl (S : Nat → Prop) (w : World) : Stays S w w := ⟨rfl, rfl, rfl, Nat.le_refl _, fun _ _ _ => rfl⟩
theorem Stays.trans {S : Nat → Prop} {a b c : World} (h : Stays S a b) (k : Stays S b c) : Stays S a c :=
  ⟨k.os.trans h.os, k.tape.trans h.tape, k.output.trans h.output, Nat.le_trans h.size k.size, fun i hi hs => (k.block i (Nat.lt_of_lt_of_le hi h.size) hs).trans (h.block i hi hs)⟩
theorem Stays.of_below {w w' : World} (h : Below w.heap.size w w') (S : Nat → Prop) : Stays S w w' :=
  ⟨h.os, h.tape, h.output, h.size, fun k hk _ => h.block k hk⟩
theorem Stays.below {B : Nat} {S : Nat → Prop} {w w' : World} (h : Stays S w w') (hB : B ≤ w.heap.size) (hS : ∀ k, k < B → ¬ S k) : Below B w w' :=
  ⟨h.os, h.tape, h.output, h.size, fun k hk => h.block k (Nat.lt_of_lt_of_le hk hB) (hS k hk)⟩
theorem Stays.of_grown {r : Nat} {w w' : World} (h : w.grownBy w' (some r)) (S : Nat → Prop) (hS : S r) : Stays S w w' :=
  ⟨h.os, h.tape, h.output, h.size, fun k hk hs => h.block k hk (fun e => hs (by injection e with e; rw [e]; exact hS))⟩
theorem Stays.set (S : Nat → Prop) (w : World) (p : Addr) (u : Value) (h : S p.block) : Stays S w (w.setCell p u) :=
  ⟨rfl, rfl, rfl, by simp [World.setCell], fun k _ hs => heap_far u (fun e => hs (e ▸ h))⟩
theorem Stays.drewN {S : Nat → Prop} {w w' : World} (h : Stays S w w') (n : Nat) : Stays S w (w'.drewN n) := ⟨h.os, h.tape, h.output, h.size, h.block⟩
theorem six_stays (S : Nat → Prop) (w : World) (b a0 a1 a2 a3 a4 a5 : Nat) (u0 u1 u2 u3 u4 u5 : Value) (h : S b) :
    Stays S w ((((((w.setCell ⟨b, a0, none⟩ u0).setCell ⟨b, a1, none⟩ u1).setCell ⟨b, a2, none⟩ u2).setCell ⟨b, a3, none⟩ u3).setCell ⟨b, a4, none⟩ u4).setCell ⟨b, a5, none⟩ u5) :=
  (((((Stays.set S w ⟨b, a0, none⟩ u0 h).trans (Stays.set S _ ⟨b, a1, none⟩ u1 h)).trans (Stays.set S _ ⟨b, a2, none⟩ u2 h)).trans (Stays.set S _ ⟨b, a3, none⟩ u3 h)).trans (Stays.set S _ ⟨b, a4, none⟩ u4 h)).trans (Stays.set S _ ⟨b, a5, none⟩ u5 h)
theorem Stays.keepC {S : Nat → Prop} {w w' : World} {B : Nat} {v : Value} {ds : List CeD} (h : Stays S w w') (ho : OwnC w B v ds) (hS : ∀ g, v.ownBlock = some g → ¬ S g) : OwnC w' B v ds :=
  ho.keep (fun g e => h.block g (ho.lt g e).2 (hS g e))
theorem Stays.scB {S : Nat → Prop} {w w' : World} {g : Nat} {s : ScD} {A : Option Addr} {n c : Nat} {L : Option Addr} {m cm : Nat} (h : Stays S w w') (hs : ScB w g s A n c L m cm) (hg : ¬ S g) : ScB w' g s A n c L m cm :=
  (h.block g (heap_lt hs) hg).trans hs
theorem OwnC.grown {w w' : World} {B g n c r : Nat} {ds : List CeD} (ho : OwnC w B (.slice (some ⟨g, 0, none⟩) n c) ds) (hg : w.grownBy w' (some r)) (h : r ≠ g) : OwnC w' B (.slice (some ⟨g, 0, none⟩) n c) ds :=
  ho.keep (fun j ej => hg.block j (ho.lt j ej).2 (fun e => h (by injection e with e; injection ej with ej; exact (ej.trans e).symm)))
theorem Stays.rdr {S : Nat → Prop} {w w' : World} {r : Nat} {s : RS} (h : Stays S w w') (hr : Rdr w r s) (h1 : ¬ S r) (h2 : ∀ a, s.gA = some a → ¬ S a.block) : Rdr w' r s := by
  obtain ⟨A, c, g1, g2, ⟨g3, g5⟩, g4⟩ := hr
  exact ⟨A, c, (h.block r (heap_lt g1) h1).trans g1, g2.of_blocks (fun b hb ⟨off, e⟩ => h.block b hb (h2 _ (g3.symm.trans e))) h.size, ⟨g3, g5⟩, g4⟩
theorem Stays.rd {S : Nat → Prop} {w w' : World} {A : Option Addr} {vs : List Value} (h : Stays S w w') (hr : Rd w A vs) (h2 : ∀ a, A = some a → ¬ S a.block) : Rd w' A vs :=
  hr.of_blocks (fun b hb ⟨off, e⟩ => h.block b hb (h2 _ e)) h.size
end Go.Proofs.YtndjggabdajbfaaGreatDoor



/- What law 17's fixed answers. Conditions: the tables lie where they were laid. -/
namespace Go.Proofs.YtndjggabdajbfaaGreatDoor
open Go Go.RowKit Go.Lib

def fxCs17 : List CeD := [blankD, ⟨97, 0, 0, 0, 0, 0⟩, ⟨98, 0, 0, 0, 0, 0⟩]
def fxS17 : ScD := ⟨3, 1, fxCs17, 0, 0, false, 0, ⟨#[]⟩, []⟩
set_option maxRecDepth 100000 in
theorem fx17_fit : fit17 (blankS 3 1) = true ∧ fit17 fxS17 = true := by constructor <;> kernel_rfl
theorem fx17_runs : runsD (blankS 3 1).cells fxCs17 = (1, [1, 2, 0, 0, 0, 97, 98]) := by
  rw [show (blankS 3 1).cells = [blankD, blankD, blankD] from rfl]
  simp [runsD, fxCs17, runsG, runEnd, cellEq, penEq, runB, runesB, varL_lo, blankD]
  decide
theorem fx17_enc : enc17 (blankS 3 1) fxS17 = ([5, 1, 1, 2, 0, 0, 0, 97, 98], 0) := by
  have e1 : celB (blankS 3 1) fxS17 = [5, 1, 1, 2, 0, 0, 0, 97, 98] := by
    unfold celB
    rw [show fxS17.cells = fxCs17 from rfl, fx17_runs]
    simp [varL_lo]
    decide
  unfold enc17 lay17
  have e2 : curB (blankS 3 1) fxS17 = [] := by kernel_rfl
  have e3 : titB17 (blankS 3 1) fxS17 = [] := by kernel_rfl
  have e4 : mouB (blankS 3 1) fxS17 = [] := by kernel_rfl
  have e5 : ((blankS 3 1).cols == fxS17.cols && (blankS 3 1).rows == fxS17.rows) = true := by kernel_rfl
  rw [fx17_fit.1, fx17_fit.2, e1, e2, e3, e4, e5]
  rfl
theorem refBlank31 (w : World) : Calls Tryz.prog 12 #[.int .i64 3, .int .i64 1] w fun e w' => ∃ b c', e = .returned (.tuple #[.agg (scC (blankS 3 1) (some ⟨b, 0, none⟩) 3 c' none 0 0), .int .i64 0]) ∧ OwnC w' w.heap.size (.slice (some ⟨b, 0, none⟩) 3 c') [blankD, blankD, blankD] ∧ Below w.heap.size w w' := by
  refine (refBlank15_c 3 1 3 w (by kernel_rfl) rfl).mono ?_
  rintro e w' ⟨A', c', he, ho, hb⟩
  obtain ⟨b, rfl⟩ := own_at ho (by simp)
  exact ⟨b, c', he, ho, hb⟩
theorem fx17_ok : (∀ d ∈ (blankS 3 1).cells, CeOk d) ∧ (∀ d ∈ fxS17.cells, CeOk d) := by
  have h1 : CeOk blankD := by unfold CeOk blankD; decide
  have h2 : CeOk ⟨97, 0, 0, 0, 0, 0⟩ := by unfold CeOk; decide
  have h3 : CeOk ⟨98, 0, 0, 0, 0, 0⟩ := by unfold CeOk; decide
  constructor
  · intro d hd
    rw [List.eq_of_mem_replicate hd]; exact h1
  · intro d hd
    rcases List.mem_cons.1 hd with rfl | hd
    · exact h1
    · rcases List.mem_cons.1 hd with rfl | hd
      · exact h2
      · rw [List.mem_singleton] at hd; subst hd; exact h3
theorem fx17_sound : Sound fxS17 := ⟨by decide, Nat.zero_le _, fun u hu => (by cases hu), fun d hd => by have := (fx17_ok.2 d hd).2.2.2.2.2; exact ⟨this.1, by omega⟩, Nat.zero_le _, fun d hd => ⟨(fx17_ok.2 d hd).2.2.1.1, (fx17_ok.2 d hd).2.2.2.1.1⟩⟩
set_option maxRecDepth 100000 in
set_option maxHeartbeats 16000000 in
theorem fixed17_c (w : World) (hU : TabU w) : Calls Tryz.prog 5 #[] w fun e w' => e = .returned (.bool true) ∧ Below w.heap.size w w' := by
  have HU := Lib.hid hU
  clear hU
  go_enter Tryz.func5, Tryz.ntmps5
  go_upto_region 2 with (first
    | (go_at_call 12; (refine (refBlank31 w).mono ?_); rintro _ w1 ⟨b, c1, rfl, ho1, hb1⟩; have HO1 := Lib.hid ho1; have HB1 := Lib.hid hb1; clear ho1 hb1)
    | (refine wpList_store_rowTo rfl 25 (.tmp 1) (.tmp 9) rfl rfl w1.heap.size (scC (blankS 3 1) (some ⟨b, 0, none⟩) 3 c1 none 0 0) rfl rfl 25 _ (heap_alloc_new w1 _) (info_sc.trans rfl) rfl (sc_one _ _ _ _ _ _ _) ?_))
  generalize eX : World.alloc w1 _ = X
  have hx : Below w1.heap.size w1 X := by rw [← eX]; exact (Below.refl _ _).alloc (Nat.le_refl _) _
  obtain ⟨old, hq2⟩ : ∃ old, X.heap[w1.heap.size]? = some (.cells old 25 (0, 0)) := ⟨_, by rw [← eX]; exact heap_alloc_new _ _⟩
  obtain ⟨g, eg⟩ : ∃ g, g = w1.heap.size := ⟨_, rfl⟩
  obtain ⟨W2, eW⟩ : ∃ W2, W2 = X.setRow w1.heap.size (scC (blankS 3 1) (some ⟨b, 0, none⟩) 3 c1 none 0 0) := ⟨_, rfl⟩
  rw [← eW, ← eg]
  have hg : ScB W2 g (blankS 3 1) (some ⟨b, 0, none⟩) 3 c1 none 0 0 := by rw [eW, eg]; exact setRow_heap _ _ _ _ _ _ hq2
  have hb : Below w1.heap.size w1 W2 := by rw [eW]; exact below_setRow hx (Nat.le_refl _) _
  have HGW2 := Lib.hid hg
  have HKW2 := Lib.hid hb
  have HLW2 : Hid (g = w1.heap.size) := Lib.hid eg
  clear eX hx hq2 eg eW hg hb
  have HO2 := Lib.hid (OwnC.below HO1.out HKW2.out)
  have HB2 := Lib.hid (HB1.out.trans (HKW2.out.mono HB1.out.size))
  go_upto_region 3 with (first
    | (go_at_call 12; (refine (refBlank31 W2).mono ?_); rintro _ w3 ⟨d, c3, rfl, ho3, hb3⟩; have HO3 := Lib.hid ho3; have HQ3 := Lib.hid hb3; clear ho3 hb3)
    | (refine wpList_store_rowTo rfl 25 (.tmp 3) (.tmp 13) rfl rfl w3.heap.size (scC (blankS 3 1) (some ⟨d, 0, none⟩) 3 c3 none 0 0) rfl rfl 25 _ (heap_alloc_new w3 _) (info_sc.trans rfl) rfl (sc_one _ _ _ _ _ _ _) ?_))
  generalize eX : World.alloc w3 _ = X
  have hx : Below w3.heap.size w3 X := by rw [← eX]; exact (Below.refl _ _).alloc (Nat.le_refl _) _
  obtain ⟨old, hq2⟩ : ∃ old, X.heap[w3.heap.size]? = some (.cells old 25 (0, 0)) := ⟨_, by rw [← eX]; exact heap_alloc_new _ _⟩
  obtain ⟨q, eg⟩ : ∃ g, g = w3.heap.size := ⟨_, rfl⟩
  obtain ⟨W4, eW⟩ : ∃ W2, W2 = X.setRow w3.heap.size (scC (blankS 3 1) (some ⟨d, 0, none⟩) 3 c3 none 0 0) := ⟨_, rfl⟩
  rw [← eW, ← eg]
  have hg : ScB W4 q (blankS 3 1) (some ⟨d, 0, none⟩) 3 c3 none 0 0 := by rw [eW, eg]; exact setRow_heap _ _ _ _ _ _ hq2
  have hb : Below w3.heap.size w3 W4 := by rw [eW]; exact below_setRow hx (Nat.le_refl _) _
  have HGW4 := Lib.hid hg
  have HKW4 := Lib.hid hb
  have HLW4 : Hid (q = w3.heap.size) := Lib.hid eg
  clear eX hx hq2 eg eW hg hb
  have HO4 := Lib.hid (OwnC.below HO3.out HKW4.out)
  have HK4 := Lib.hid (HQ3.out.trans (HKW4.out.mono HQ3.out.size))
  have HB4 := Lib.hid (HB2.out.trans (HK4.out.mono HB2.out.size))
  have HG4 := Lib.hid (HGW2.out.below HK4.out)
  have HOB4 := Lib.hid (OwnC.below HO2.out HK4.out)
  have HD : Hid (g < d ∧ d < q ∧ b < d ∧ w.heap.size ≤ d) := Lib.hid ⟨by have h1 := heap_lt HGW2.out; have h2 := (OwnC.lt HO3.out d rfl).1; omega, by rw [HLW4.out]; exact (OwnC.lt HO3.out d rfl).2, by have h1 := (OwnC.lt HO2.out b rfl).2; have h2 := (OwnC.lt HO3.out d rfl).1; omega, by have h1 := HB2.out.size; have h2 := (OwnC.lt HO3.out d rfl).1; omega⟩
  have x2 : W4.cell? ⟨q, 2, none⟩ = some (.slice (some ⟨d, 0, none⟩) 3 c3) := HGW4.out.nine.2.2.1
  obtain ⟨y6, -, -, -, -, -⟩ := HO4.out.six 1 (by decide)
  obtain ⟨y12, -, -, -, -, -⟩ := HO4.out.six 2 (by decide)
  have f6 := HO4.out.free 6
  have f12 := HO4.out.free 12
  simp only [Nat.one_mul, Nat.zero_add, Nat.reduceMul, Nat.reduceAdd] at y6 y12
  go_upto_region 3 with (fail)
  go_region
  clear f6 f12 y6 y12 x2
  obtain ⟨W5, eW5⟩ : ∃ W, W = ((W4.setCell ⟨d, 6, none⟩ (.int .i32 97)).setCell ⟨d, 12, none⟩ (.int .i32 98)).drew := ⟨_, rfl⟩
  rw [← eW5]
  have HK5 : Hid (Stays (fun k => k = d) W4 W5) := Lib.hid (by
    rw [eW5]
    exact ((Stays.set (fun k => k = d) W4 ⟨d, 6, none⟩ (.int .i32 97) rfl).trans (Stays.set (fun k => k = d) _ ⟨d, 12, none⟩ (.int .i32 98) rfl)).drewN 1)
  have HO5 : Hid (OwnC W5 W2.heap.size (.slice (some ⟨d, 0, none⟩) 3 c3) fxCs17) := Lib.hid (by
    rw [eW5]
    have h := (HO4.out.rune 1 (by decide) 97).rune 2 (by decide) 98
    exact OwnC.below h (below_drewN (Below.refl _ _) 1))
  have HG5 : Hid (ScB W5 g (blankS 3 1) (some ⟨b, 0, none⟩) 3 c1 none 0 0) := Lib.hid (HK5.out.scB HG4.out (by have := HD.out; omega))
  have HQ5 : Hid (ScB W5 q fxS17 (some ⟨d, 0, none⟩) 3 c3 none 0 0) := Lib.hid (HK5.out.scB HGW4.out (by have := HD.out; omega))
  have HOB5 : Hid (OwnC W5 w.heap.size (.slice (some ⟨b, 0, none⟩) 3 c1) [blankD, blankD, blankD]) := Lib.hid (HK5.out.keepC HOB4.out (fun j ej => by injection ej with ej; have := HD.out; have : b = j := ej; omega))
  have HB5 : Hid (Below w.heap.size w W5) := Lib.hid (HB4.out.trans (HK5.out.below HB4.out.size (fun k hk e => by have := HD.out; omega)))
  have HR5 : Hid (ScR W5 (blankS 3 1) (some ⟨b, 0, none⟩) 3 c1 none 0 0) := Lib.hid ((blank_sound16 (C := 3) (R := 1) (by kernel_rfl)).read HOB5.out (World.ownsRow_nil _ 0 _ _))
  have HS5 : Hid (ScR W5 fxS17 (some ⟨d, 0, none⟩) 3 c3 none 0 0) := Lib.hid (fx17_sound.read HO5.out (World.ownsRow_nil _ 0 _ _))
  have HU5 := Lib.hid (HU.out.next HB5.out)
  clear eW5
  go_upto_region 5 with (first
    | (refine wpList_load_row rfl 25 (.tmp 1) rfl g rfl 25 _ (0, 0) _ HG5.out Tryz.underlying25 rfl (info_sc.trans rfl) ?_)
    | (refine wpList_load_row rfl 25 (.tmp 3) rfl q rfl 25 _ (0, 0) _ HQ5.out Tryz.underlying25 rfl (info_sc.trans rfl) ?_)
    | (go_at_call 13; (refine (enc17_c (blankS 3 1) fxS17 (some ⟨b, 0, none⟩) 3 c1 none 0 0 (some ⟨d, 0, none⟩) 3 c3 none 0 0 W5 HR5.out HS5.out fx17_ok.2 (by decide) HU5.out).mono ?_); rintro _ w6 ⟨v6, rfl, ho6, hb6⟩; rw [fx17_enc] at ho6 ⊢; obtain ⟨A6, k6, rfl, _, _, hr6, _⟩ := OwnB.form ho6; have HR6 := Lib.hid hr6; have HB6 := Lib.hid (HB5.out.trans (hb6.mono HB5.out.size)); clear ho6 hb6 hr6))
  go_wp2_with (first
    | (go_at_call 11; (refine (Same_t A6 (some ⟨w6.heap.size, 0, none⟩) 9 9 k6 9 [5, 1, 1, 2, 0, 0, 0, 97, 98] _ rfl rfl (HR6.out.below ((Below.refl _ _).alloc (Nat.le_refl _) _)) (rd_lit _ _ _ (by kernel_rfl) (by decide)) (by decide)).mono ?_); rintro _ w7 ⟨rfl, q7, rfl⟩))
  go_ret
  exact ⟨rfl, below_drewN (HB6.out.alloc HB6.out.size _) _⟩
end Go.Proofs.YtndjggabdajbfaaGreatDoor



/- What the methods of a reading (runs) do: an error is thrown; a number that is at most so great; a colour. Conditions: the reading and its reader lie in blocks of their own. -/
namespace Go.Proofs.YtndjggabdajbfaaGreatDoor
open Go Go.RowKit Go.Lib

theorem varR_bad {s : RS} {e : Nat} (h0 : s.err = 0) (h : varGo s.rest 0 = .bad e) : varR s = (0, { s with err := e }) := by
  unfold varR
  rw [if_neg (by omega), show s.b.drop s.at_ = s.rest from rfl, h]
theorem varR_ok {s : RS} {n k : Nat} (h0 : s.err = 0) (h : varGo s.rest 0 = .ok n k) : varR s = (n, { s with at_ := s.at_ + k }) := by
  unfold varR
  rw [if_neg (by omega), show s.b.drop s.at_ = s.rest from rfl, h]
theorem rest_at (s : RS) (k : Nat) : RS.rest { s with at_ := s.at_ + k } = s.rest.drop k := rest_step s k
/-- An error that was thrown. -/
def thrownE (e : Nat) : Ending := .panicked [{ v := .iface 31 (.int .i64 (e : Int)), recovered := false }]
set_option maxRecDepth 100000 in
set_option maxHeartbeats 2000000 in
theorem must17_c (p r : Nat) (st : RS) (w : World) (hp : w.cell? ⟨p, 0, none⟩ = some (.pointer (some ⟨r, 0, none⟩))) (hr : Rdr w r st) (h0 : st.err = 0) :
    Calls Tryz.prog 36 #[.pointer (some ⟨p, 0, none⟩)] w fun e w' => e = .returned (.tuple #[]) ∧ w = w' := by
  have HR := Lib.hid hr
  have HE := Lib.hid h0
  clear hr h0
  go_enter Tryz.func36, Tryz.ntmps36
  go_wp2_with (first
    | (go_at_call 57; (refine (Rerr_c r st w HR.out).mono ?_); rintro _ _ ⟨rfl, rfl⟩; rw [HE.out]))
  go_end0
  exact ⟨rfl, rfl⟩
set_option maxRecDepth 100000 in
set_option maxHeartbeats 2000000 in
theorem must17_t (p r : Nat) (st : RS) (w : World) (hp : w.cell? ⟨p, 0, none⟩ = some (.pointer (some ⟨r, 0, none⟩))) (hr : Rdr w r st) (h0 : st.err ≠ 0) :
    Calls Tryz.prog 36 #[.pointer (some ⟨p, 0, none⟩)] w fun e w' => e = thrownE st.err ∧ w = w' := by
  have HR := Lib.hid hr
  have z0 : (((st.err : Nat) : Int) != 0) = true := by rw [bne_iff_ne]; omega
  unfold thrownE
  clear hr h0
  go_enter Tryz.func36, Tryz.ntmps36
  go_wp2_with (first
    | (go_at_call 57; (refine (Rerr_c r st w HR.out).mono ?_); rintro _ _ ⟨rfl, rfl⟩))
  exact ⟨rfl, rfl, rfl⟩
/-- A block whose first cell points to the reader. -/
def PtB (w : World) (p r : Nat) : Prop := ∃ cs t, w.heap[p]? = some (.cells cs t (0, 0)) ∧ cs[0]? = some (.pointer (some ⟨r, 0, none⟩))
theorem PtB.cell {w : World} {p r : Nat} (h : PtB w p r) : w.cell? ⟨p, 0, none⟩ = some (.pointer (some ⟨r, 0, none⟩)) := by
  obtain ⟨cs, t, h1, h2⟩ := h
  rw [heap_cell h1, h2]
theorem PtB.lt {w : World} {p r : Nat} (h : PtB w p r) : p < w.heap.size := by
  obtain ⟨cs, t, h1, h2⟩ := h
  exact heap_lt h1
theorem PtB.of {w w' : World} {p r : Nat} (h : PtB w p r) (e : w'.heap[p]? = w.heap[p]?) : PtB w' p r := by
  obtain ⟨cs, t, h1, h2⟩ := h
  exact ⟨cs, t, e.trans h1, h2⟩
theorem PtB.grown {w w' : World} {p r : Nat} (h : PtB w p r) (hg : w.grownBy w' (some r)) (hpr : p ≠ r) : PtB w' p r :=
  h.of (hg.block p h.lt (fun e => hpr (by injection e)))
/-- What a number read ends with. -/
def UpP (w : World) (r : Nat) (st : RS) (R : Nat × Nat × List UInt8) (e : Ending) (w' : World) : Prop :=
  (R.1 = 0 → e = .returned (.int .i64 (R.2.1 : Int)) ∧ ∃ st', Rdr w' r st' ∧ st'.err = 0 ∧ st'.rest = R.2.2 ∧ st'.gA = st.gA) ∧ (R.1 ≠ 0 → e = thrownE R.1) ∧ w.grownBy w' (some r)
theorem UpP.ok {w w' : World} {r : Nat} {st st' : RS} {R : Nat × Nat × List UInt8} {n : Nat} {l : List UInt8} (h : R = (0, n, l)) (hr : Rdr w' r st') (h0 : st'.err = 0) (h1 : st'.rest = l) (h2 : st'.gA = st.gA) (hg : w.grownBy w' (some r)) :
    UpP w r st R (.returned (.int .i64 (n : Int))) w' := by
  subst h
  exact ⟨fun _ => ⟨rfl, st', hr, h0, h1, h2⟩, fun h => absurd rfl h, hg⟩
theorem UpP.no {w w' : World} {r : Nat} {st : RS} {R : Nat × Nat × List UInt8} {e : Nat} (h : R.1 = e) (h0 : e ≠ 0) (hg : w.grownBy w' (some r)) : UpP w r st R (thrownE e) w' :=
  ⟨fun h2 => absurd (h.symm.trans h2) h0, fun _ => by rw [h], hg⟩
set_option maxRecDepth 100000 in
set_option maxHeartbeats 2000000 in
theorem upTo_bad (p r : Nat) (st : RS) (most : Int) (e : Nat) (w : World) (hp : PtB w p r) (hr : Rdr w r st) (hpr : p ≠ r) (h0 : st.err = 0) (hv : varGo st.rest 0 = .bad e) :
    Calls Tryz.prog 38 #[.pointer (some ⟨p, 0, none⟩), .int .i64 most] w fun e w' => UpP w r st (num17 most st.rest) e w' := by
  have HR := Lib.hid hr
  have HV := Lib.hid (varR_bad h0 hv)
  have HE : Hid (e ≠ 0) := Lib.hid (by have := varGo_err hv; omega)
  have HN : Hid ((num17 most st.rest).1 = e) := Lib.hid (by unfold num17; rw [hv])
  have HPR := Lib.hid hpr
  have HP := Lib.hid hp
  obtain ⟨R, eR⟩ : ∃ R, num17 most st.rest = R := ⟨_, rfl⟩
  rw [eR] at HN ⊢
  have hc := hp.cell
  clear hr h0 hv hpr eR hp
  go_enter Tryz.func38, Tryz.ntmps38
  go_wp2_with (first
    | (go_at_call 35; (refine (Rvar_c r st w HR.out).mono ?_); rintro _ w1 ⟨rfl, hr1, hg⟩; rw [HV.out] at hr1 ⊢; have HR1 := Lib.hid hr1; have HG := Lib.hid hg; have HP1 := Lib.hid (HP.out.grown hg HPR.out); clear hr1 hg))
  refine (must17_t p r { st with err := e } w1 HP1.out.cell HR1.out HE.out).mono ?_
  rintro _ wx ⟨rfl, hx⟩
  rw [← hx]
  clear hx wx
  unfold thrownE
  go_wp2_with (fail)
  exact ⟨rfl, UpP.no HN.out HE.out HG.out⟩
set_option maxRecDepth 100000 in
set_option maxHeartbeats 2000000 in
theorem upTo_ok (p r : Nat) (st : RS) (most : Int) (n k : Nat) (w : World) (hp : PtB w p r) (hr : Rdr w r st) (hpr : p ≠ r) (h0 : st.err = 0) (hv : varGo st.rest 0 = .ok n k) (hm : -1 ≤ most ∧ most ≤ 4294967295) :
    Calls Tryz.prog 38 #[.pointer (some ⟨p, 0, none⟩), .int .i64 most] w fun e w' => UpP w r st (num17 most st.rest) e w' := by
  have HR := Lib.hid hr
  have HV := Lib.hid (varR_ok h0 hv)
  have HS : Hid (({ st with at_ := st.at_ + k } : RS).err = 0 ∧ ({ st with at_ := st.at_ + k } : RS).rest = st.rest.drop k ∧ ({ st with at_ := st.at_ + k } : RS).gA = st.gA) := Lib.hid ⟨h0, rest_at st k, rfl⟩
  obtain ⟨s1, es1⟩ : ∃ s1 : RS, s1 = { st with at_ := st.at_ + k } := ⟨_, rfl⟩
  rw [← es1] at HV HS
  have HN : Hid (num17 most st.rest = if most < 0 ∨ most < (n : Int) then (3, 0, st.rest.drop k) else (0, n, st.rest.drop k)) := Lib.hid (by unfold num17; rw [hv])
  have HPR := Lib.hid hpr
  have HP := Lib.hid hp
  have hc := hp.cell
  obtain ⟨R, eR⟩ : ∃ R, num17 most st.rest = R := ⟨_, rfl⟩
  rw [eR] at HN ⊢
  have HM := Lib.hid hm
  obtain ⟨b1, d1⟩ : ∃ b, decide (most < 0) = b := ⟨_, rfl⟩
  have D1 := Lib.hid d1
  clear hr h0 hv hpr hp eR es1 hm
  cases b1
  rotate_left
  · have HZ : Hid (R.1 = 3) := Lib.hid (by rw [HN.out, if_pos (Or.inl (of_decide_eq_true D1.out))])
    go_enter Tryz.func38, Tryz.ntmps38
    go_wp2_with (first
      | (go_at_call 35; (refine (Rvar_c r st w HR.out).mono ?_); rintro _ w1 ⟨rfl, hr1, hg⟩; rw [HV.out] at hr1 ⊢; have HR1 := Lib.hid hr1; have HG := Lib.hid hg; have HP1 := Lib.hid (HP.out.grown hg HPR.out); clear hr1 hg)
      | (go_at_call 36; (refine (must17_c p r s1 w1 HP1.out.cell HR1.out HS.out.1).mono ?_); rintro _ _ ⟨rfl, rfl⟩))
    exact ⟨rfl, UpP.no HZ.out (by decide) HG.out⟩
  · have hwm : IntKind.u64.wrap most = most := IntWalk.u64_in _ ⟨by have := of_decide_eq_false D1.out; omega, by have := HM.out; omega⟩
    obtain ⟨b2, d2⟩ : ∃ b, decide (most < (n : Int)) = b := ⟨_, rfl⟩
    have D2 := Lib.hid d2
    cases b2
    · have HZ : Hid (R = (0, n, st.rest.drop k)) := Lib.hid (by rw [HN.out, if_neg (fun h => h.elim (of_decide_eq_false D1.out) (of_decide_eq_false D2.out))])
      have hwn : IntKind.i64.wrap (n : Int) = (n : Int) := IntWalk.i64_in _ ⟨by omega, by have := of_decide_eq_false D2.out; have := HM.out; omega⟩
      go_enter Tryz.func38, Tryz.ntmps38
      go_wp2_with (first
        | (go_at_call 35; (refine (Rvar_c r st w HR.out).mono ?_); rintro _ w1 ⟨rfl, hr1, hg⟩; rw [HV.out] at hr1 ⊢; have HR1 := Lib.hid hr1; have HG := Lib.hid hg; have HP1 := Lib.hid (HP.out.grown hg HPR.out); clear hr1 hg)
        | (go_at_call 36; (refine (must17_c p r s1 w1 HP1.out.cell HR1.out HS.out.1).mono ?_); rintro _ _ ⟨rfl, rfl⟩))
      go_ret
      exact UpP.ok HZ.out HR1.out HS.out.1 HS.out.2.1 HS.out.2.2 HG.out
    · have HZ : Hid (R.1 = 3) := Lib.hid (by rw [HN.out, if_pos (Or.inr (of_decide_eq_true D2.out))])
      go_enter Tryz.func38, Tryz.ntmps38
      go_wp2_with (first
        | (go_at_call 35; (refine (Rvar_c r st w HR.out).mono ?_); rintro _ w1 ⟨rfl, hr1, hg⟩; rw [HV.out] at hr1 ⊢; have HR1 := Lib.hid hr1; have HG := Lib.hid hg; have HP1 := Lib.hid (HP.out.grown hg HPR.out); clear hr1 hg)
        | (go_at_call 36; (refine (must17_c p r s1 w1 HP1.out.cell HR1.out HS.out.1).mono ?_); rintro _ _ ⟨rfl, rfl⟩))
      exact ⟨rfl, UpP.no HZ.out (by decide) HG.out⟩
theorem upTo_c (p r : Nat) (st : RS) (most : Int) (w : World) (hp : PtB w p r) (hr : Rdr w r st) (hpr : p ≠ r) (h0 : st.err = 0) (hm : -1 ≤ most ∧ most ≤ 4294967295) :
    Calls Tryz.prog 38 #[.pointer (some ⟨p, 0, none⟩), .int .i64 most] w fun e w' => UpP w r st (num17 most st.rest) e w' := by
  cases hv : varGo st.rest 0 with
  | bad e => exact upTo_bad p r st most e w hp hr hpr h0 hv
  | ok n k => exact upTo_ok p r st most n k w hp hr hpr h0 hv hm
/-- What a colour read ends with. -/
def colR (l : List UInt8) : Nat × Nat × List UInt8 :=
  if (num17 4294967295 l).1 ≠ 0 then ((num17 4294967295 l).1, 0, l) else if colMay ((num17 4294967295 l).2.1 : Int) = false then (3, 0, l) else (0, (num17 4294967295 l).2.1, (num17 4294967295 l).2.2)
def CoP (w : World) (r : Nat) (st : RS) (R : Nat × Nat × List UInt8) (e : Ending) (w' : World) : Prop :=
  (R.1 = 0 → e = .returned (.int .u32 (R.2.1 : Int)) ∧ R.2.1 ≤ 4294967295 ∧ ∃ st', Rdr w' r st' ∧ st'.err = 0 ∧ st'.rest = R.2.2 ∧ st'.gA = st.gA) ∧ (R.1 ≠ 0 → e = thrownE R.1) ∧ w.grownBy w' (some r)
theorem CoP.no {w w' : World} {r : Nat} {st : RS} {R : Nat × Nat × List UInt8} {e : Nat} (h : R.1 = e) (h0 : e ≠ 0) (hg : w.grownBy w' (some r)) : CoP w r st R (thrownE e) w' :=
  ⟨fun h2 => absurd (h.symm.trans h2) h0, fun _ => by rw [h], hg⟩
theorem num17_le {most : Int} {l : List UInt8} (h : (num17 most l).1 = 0) : ((num17 most l).2.1 : Int) ≤ most := by
  unfold num17 at h ⊢
  cases hv : varGo l 0 with
  | bad e => rw [hv] at h; simp only at h; have := varGo_err hv; omega
  | ok n k =>
    rw [hv] at h
    simp only at h ⊢
    split at h
    · cases h
    · rename_i hn
      rw [if_neg hn]
      simp only
      omega
set_option maxRecDepth 100000 in
set_option maxHeartbeats 2000000 in
theorem color_c (p r : Nat) (st : RS) (w : World) (hp : PtB w p r) (hr : Rdr w r st) (hpr : p ≠ r) (h0 : st.err = 0) :
    Calls Tryz.prog 61 #[.pointer (some ⟨p, 0, none⟩)] w fun e w' => CoP w r st (colR st.rest) e w' := by
  have HU := Lib.hid (upTo_c p r st 4294967295 w hp hr hpr h0 ⟨by decide, by decide⟩)
  obtain ⟨Q, eQ⟩ : ∃ Q, num17 4294967295 st.rest = Q := ⟨_, rfl⟩
  rw [eQ] at HU
  have HQ := Lib.hid eQ
  obtain ⟨R, eR⟩ : ∃ R, colR st.rest = R := ⟨_, rfl⟩
  rw [eR]
  have HR : Hid (R = if Q.1 ≠ 0 then (Q.1, 0, st.rest) else if colMay (Q.2.1 : Int) = false then (3, 0, st.rest) else (0, Q.2.1, Q.2.2)) := Lib.hid (by rw [← eR, colR, eQ])
  clear hr h0 hpr hp eR eQ
  by_cases hq : Q.1 = 0
  · have HQ0 := Lib.hid hq
    have HLE : Hid (Q.2.1 ≤ 4294967295) := Lib.hid (by have h := num17_le (most := 4294967295) (l := st.rest) (by rw [HQ.out]; exact hq); rw [HQ.out] at h; omega)
    obtain ⟨q, eq⟩ : ∃ q, q = Q.2.1 := ⟨_, rfl⟩
    rw [← eq] at HLE
    have hwq : IntKind.u32.wrap (q : Int) = (q : Int) := IntWalk.u32_in _ ⟨by omega, by have := HLE.out; omega⟩
    obtain ⟨b, eb⟩ : ∃ b, colMay (q : Int) = b := ⟨_, rfl⟩
    have EB := Lib.hid eb
    have EQQ := Lib.hid eq
    clear eq eb hq
    cases b
    · have HZ : Hid (R.1 = 3) := Lib.hid (by rw [HR.out, if_neg (by rw [HQ0.out]; decide), ← EQQ.out, if_pos EB.out])
      go_enter Tryz.func61, Tryz.ntmps61
      go_wp2_with (first
        | (go_at_call 38; (refine HU.out.mono ?_); rintro _ w1 ⟨k1, _, k3⟩; obtain ⟨rfl, st1, k4⟩ := k1 HQ0.out; rw [← EQQ.out]; have HG := Lib.hid k3; have HK := Lib.hid k4; clear k1 k3 k4)
        | (go_at_call 81; (refine (ColorMay_c (q : Int) w1).mono ?_); rintro _ _ ⟨rfl, rfl⟩; rw [EB.out]))
      exact ⟨rfl, CoP.no HZ.out (by decide) HG.out⟩
    · have HZ : Hid (R = (0, q, Q.2.2)) := Lib.hid (by rw [HR.out, if_neg (by rw [HQ0.out]; decide), ← EQQ.out, if_neg (by rw [EB.out]; decide)])
      go_enter Tryz.func61, Tryz.ntmps61
      go_wp2_with (first
        | (go_at_call 38; (refine HU.out.mono ?_); rintro _ w1 ⟨k1, _, k3⟩; obtain ⟨rfl, st1, k4⟩ := k1 HQ0.out; rw [← EQQ.out]; have HG := Lib.hid k3; have HK := Lib.hid k4; clear k1 k3 k4)
        | (go_at_call 81; (refine (ColorMay_c (q : Int) w1).mono ?_); rintro _ _ ⟨rfl, rfl⟩; rw [EB.out]))
      go_ret
      exact ⟨fun _ => ⟨by rw [HZ.out]; rfl, by rw [HZ.out]; exact HLE.out, st1, by rw [HZ.out]; exact HK.out⟩, fun h => absurd (by rw [HZ.out]) h, HG.out⟩
  · have HQ0 := Lib.hid hq
    have HZ : Hid (R.1 = Q.1) := Lib.hid (by rw [HR.out, if_pos hq])
    clear hq
    go_enter Tryz.func61, Tryz.ntmps61
    go_wp2_with (fail)
    refine HU.out.mono ?_
    rintro _ w1 ⟨_, k2, k3⟩
    obtain rfl := k2 HQ0.out
    have HG := Lib.hid k3
    clear k2 k3
    unfold thrownE
    go_wp2_with (fail)
    exact ⟨rfl, CoP.no HZ.out HQ0.out HG.out⟩
end Go.Proofs.YtndjggabdajbfaaGreatDoor



/- What read does: the rows that stand there are put into a screen. Conditions: the reader and the screen's cells lie in blocks of their own; the tables lie where they were laid. -/
namespace Go.Proofs.YtndjggabdajbfaaGreatDoor
open Go Go.RowKit Go.Lib

theorem info_ce6 : (Tryz.prog.info? 43).map (·.size) = some 6 := by kernel_rfl

end Go.Proofs.YtndjggabdajbfaaGreatDoor



/- Tools for the walk of rows.Apply: the state behind the first numbers; the title's part; bits; texts out of bytes. Conditions: none. -/
namespace Go.Proofs.YtndjggabdajbfaaGreatDoor
open Go Go.RowKit Go.Lib

theorem Stays.setRow (S : Nat → Prop) (w : World) (g : Nat) (vs : Array Value) (h : S g) : Stays S w (w.setRow g vs) := by
  have hb := below_setRow (B := 0) (Below.refl 0 w) (Nat.zero_le g) vs
  exact ⟨hb.os, hb.tape, hb.output, hb.size, fun k _ hs => setRow_other w g k vs (fun e => hs (e ▸ h))⟩
theorem own_at2 {w : World} {B n c : Nat} {A : Option Addr} {ds : List CeD} (h : OwnC w B (.slice A n c) ds) (h0 : 0 < ds.length) : ∃ b, A = some ⟨b, 0, none⟩ := by
  obtain ⟨h1, _, h2, h3, h4⟩ := h.parts
  cases hA : A with
  | none =>
    have := h4 hA
    omega
  | some a =>
    obtain ⟨_, _, g1, g2⟩ := h3 a hA
    obtain ⟨bb, oo, ss⟩ := a
    cases g1; cases g2
    exact ⟨bb, rfl⟩
theorem strOf_bytes (bs : List UInt8) : strOfNums (bs.map fun x => (x.toNat : Int)) = ⟨bs.toArray⟩ := by
  unfold strOfNums
  rw [List.map_map]
  have e : ((fun n : Int => UInt8.ofNat n.toNat) ∘ fun x : UInt8 => (x.toNat : Int)) = id := by
    funext x
    simp
  rw [e, List.map_id]
/-- Bytes as a text. -/
theorem conv_text (w : World) (A : Option Addr) (c n : Nat) (bs : List UInt8) (hn : bs.length = n) (hr : Rd w A (bs.map bv)) (hA : ∀ a, A = some a → a.off = 0 ∧ a.spot = none) : (convert 26 9 (.slice A n c)).run Tryz.prog w = .ok (.string ⟨bs.toArray⟩) w := by
  subst hn
  cases A with
  | none =>
    have h0 : bs = [] := by
      rcases hr with h | ⟨b, off, h, _⟩
      · exact List.map_eq_nil_iff.1 h
      · cases h
    subst h0
    exact run_convert_bytes_nil w 26 5 Tryz.underlying26 Tryz.underlying5 0 c 9 Tryz.underlying9
  | some a =>
    obtain ⟨b, off, spot⟩ := a
    obtain ⟨h1, h2⟩ := hA _ rfl
    simp only at h1 h2
    subst h1 h2
    have e := run_convert_bytes_arg (P := Tryz.prog) w 26 5 Tryz.underlying26 Tryz.underlying5 b 0 bs.length c (bs.map fun x => (x.toNat : Int)) (by rw [List.length_map]) (fun i hi => by
      rcases hr with h | ⟨b', off, e, hb, h⟩
      · rw [List.map_eq_nil_iff.1 h] at hi; exact absurd hi (Nat.not_lt_zero _)
      · injection e with e
        injection e with e1 e2
        subst e1 e2
        rw [h i (by rw [List.length_map]; exact hi), List.getElem_map]
        congr 1
        unfold bv List.getD
        rw [List.getElem?_map, List.getElem?_eq_getElem hi]
        rfl) 9 Tryz.underlying9
    rw [e, strOf_bytes]
section
variable {w wx : World} {q b6 r g gs : Nat} {gA : Option Addr} {C R : Nat} {s : ScD} {n c : Nat} {L : Option Addr} {d : Nat} {st : RS}
end
end Go.Proofs.YtndjggabdajbfaaGreatDoor


