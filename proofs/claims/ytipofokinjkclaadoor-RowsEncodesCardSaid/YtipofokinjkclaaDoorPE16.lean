/- Parts one behind the other: What the reader of the layer wire does: Num and Take; What the reader of the layer wire does: Take and Text; The bytes that a reader has ahead, and what numbers it reads; what stays outside two blocks; What rows.Fits and the reference's Fits (16) answer; slices.Equal on cells; What slices.Equal on cells answers; What the reference's cellBytes answers: nine bytes of a cell. Conditions: as told at each. -/
import Derived.Test.YtipofokinjkclaaDoorPE15
import Derived.StillTailTactics

set_option linter.unusedVariables false
set_option linter.unusedSimpArgs false
/- What the reader of the layer wire does: Num and Take. Conditions: a reader that lies in a block of its own. -/
namespace Go.Proofs.YtipofokinjkclaaDoor
open Go Go.RowKit

def numR (s : RS) (size : Int) : Nat × RS :=
  if s.err ≠ 0 then (0, s) else if size < 1 ∨ 8 < size then (0, { s with err := 1 })
  else if (s.b.length : Int) - (s.at_ : Int) < size then (0, { s with err := 2 })
  else (beN ((s.b.drop s.at_).take size.toNat), { s with at_ := s.at_ + size.toNat })

theorem setErr_only {w : World} {r : Nat} {s : RS} (h : Rdr w r s) (q e : Nat) : Rdr ((w.drewN q).setCell ⟨r, 2, none⟩ (.int .i64 (e : Int))) r { s with err := e } ∧ w.grownBy ((w.drewN q).setCell ⟨r, 2, none⟩ (.int .i64 (e : Int))) (some r) :=
  ⟨(h.drewN q).setErr e, only_setD q r 2 _⟩

set_option maxRecDepth 100000 in
set_option maxHeartbeats 400000 in
theorem Rnum_c (r : Nat) (s : RS) (size : Int) (w : World) (h : Rdr w r s) (hs : (Lit.int .i64 size).wf = true) :
    Calls Tryd.prog 78 #[.pointer (some ⟨r, 0, none⟩), .int .i64 size] w fun e w' => e = .returned (.int .u64 ((numR s size).1 : Int)) ∧ Rdr w' r (numR s size).2 ∧ w.grownBy w' (some r) := by
  obtain ⟨A, c, ⟨c0, c1, c2⟩, ⟨f0, f1, f2⟩, hrd, hlc, hcm, hk, hl⟩ := h.open_
  by_cases h0 : s.err = 0
  · have hb : (((s.err : Nat) : Int) != 0) = false := by rw [bne_eq_false_iff_eq]; omega
    by_cases hsz : size < 1 ∨ 8 < size
    · have e1 : numR s size = (0, { s with err := 1 }) := by rw [numR, if_neg (by omega), if_pos hsz]
      rw [e1]
      clear e1
      have H0 := Lib.hid h0; clear h0
      rcases hsz with h1 | h1
      · go_enter Tryd.func78, Tryd.ntmps78
        go_wp2
        go_ret
        exact ⟨rfl, setErr_only h 0 1⟩
      · go_enter Tryd.func78, Tryd.ntmps78
        go_wp2
        go_ret
        exact ⟨rfl, setErr_only h 0 1⟩
    · obtain ⟨n, rfl⟩ := Int.eq_ofNat_of_zero_le (show 0 ≤ size by omega)
      have hn1 : 1 ≤ (n : Int) := by omega
      have hn8 : (n : Int) ≤ 8 := by omega
      by_cases hsh : (s.b.length : Int) - (s.at_ : Int) < (n : Int)
      · have e1 : numR s n = (0, { s with err := 2 }) := by rw [numR, if_neg (by omega), if_neg (by omega), if_pos hsh]
        rw [e1]
        clear e1
        have H0 := Lib.hid h0; clear h0
        have HS := Lib.hid hsz; clear hsz
        go_enter Tryd.func78, Tryd.ntmps78
        go_wp2
        go_quiet (fail)
        go_wp2
        go_ret
        exact ⟨rfl, setErr_only h _ 2⟩
      · obtain ⟨l, el⟩ : ∃ l, l = s.b.drop s.at_ := ⟨_, rfl⟩
        have e1 : numR s n = (beN (l.take n), { s with at_ := s.at_ + n }) := by rw [numR, if_neg (by omega), if_neg (by omega), if_neg hsh, el]; rfl
        have hll : l.length + s.at_ = s.b.length := by rw [el, List.length_drop]; omega
        have hsh' : (n : Int) ≤ (s.b.length : Int) - (s.at_ : Int) := by omega
        have H1 := Lib.hid e1; clear e1
        have H0 := Lib.hid h0; clear h0
        have HS := Lib.hid hsz; clear hsz
        have EL := Lib.hid el; clear el
        clear hsh
        go_enter Tryd.func78, Tryd.ntmps78
        go_wp2
        go_quiet (fail)
        go_wp2
        go_loopw [5, 43] (fun x i wr => ∃ k : Nat, k ≤ n ∧ i = .int .i64 k ∧ x = .int .u64 ((beN (l.take k) : Nat) : Int) ∧ Rdr wr r { s with at_ := s.at_ + k } ∧ w.grownBy wr (some r)) (fun x i _ => n - (intOf i).toNat)
        case atStart => exact ⟨0, Nat.zero_le _, rfl, rfl, h, ⟨rfl, rfl, rfl, Nat.le_refl _, fun _ _ _ => rfl⟩⟩
        case round =>
          obtain ⟨k, hkn, rfl, rfl, hw, hg⟩ := hrel
          rcases Nat.lt_or_ge k n with hlt | hge
          · have hkl : k < l.length := by omega
            obtain ⟨A', c', ⟨d0, d1, d2⟩, ⟨g0, g1, g2⟩, hrd', hlc', _, _, _⟩ := hw.open_
            simp only [] at d0 d1 d2 hrd' hlc'
            obtain ⟨b, off, rfl, _, hc⟩ := hrd'.addrB (by omega)
            obtain ⟨d, ed⟩ : ∃ d, d = (l[k]).toNat := ⟨_, rfl⟩
            have hcell : wr.cell? ⟨b, off + (s.at_ + k), none⟩ = some (.int .u8 (d : Int)) := by
              rw [hc (s.at_ + k) (by omega), ed]
              have := EL.out
              subst this
              simp [bv]
            have hd : d < 256 := by rw [ed]; exact UInt8.toNat_lt _
            obtain ⟨x, hx⟩ : ∃ x, x = beN (l.take k) := ⟨_, rfl⟩
            have hx1 : beN (l.take (k + 1)) = x * 256 + d := by
              rw [List.take_succ_eq_append_getElem hkl, beN_snoc, hx, ed]
            have hx2 : x < 256 ^ 7 := by
              rw [hx]
              exact Nat.lt_of_lt_of_le (beN_lt _) (Nat.pow_le_pow_right (by decide) (by rw [List.length_take]; omega))
            rw [← hx]
            have hxm : x * 256 < 18446744073709551616 := by omega
            have hor := or_walk8 hxm hd
            have HX1 := Lib.hid hx1; clear hx1
            have HX2 := Lib.hid hx2; clear hx2
            have hwx : IntKind.u64.wrap ((x : Int) * 256) = (x : Int) * 256 := IntWalk.u64_in _ ⟨by omega, by omega⟩
            rw [← hwx] at hor
            have fin : ∀ q' : Nat, ∃ y : Nat, Value.int .i64 ((s.at_ : Int) + (k : Int) + 1) = .int .i64 (y : Int) ∧ Rdr ((wr.drewN q').setCell ⟨r, 1, none⟩ (.int .i64 (y : Int))) r { s with at_ := s.at_ + (k + 1) } ∧ w.grownBy ((wr.drewN q').setCell ⟨r, 1, none⟩ (.int .i64 (y : Int))) (some r) := fun q' =>
              ⟨s.at_ + (k + 1), by congr 1, (hw.drewN q').setAt _ (by show _ ≤ s.b.length; omega), only_trans hg (only_setD q' r 1 _)⟩
            have FIN := Lib.hid fin; clear fin
            have HOR := Lib.hid hor; clear hor
            clear hwx
            have HXM := Lib.hid hxm; clear hxm
            have HX := Lib.hid hx; clear hx
            have ED := Lib.hid ed; clear ed
            have hsk : (s.at_ : Int) + (k : Int) < (s.b.length : Int) := by omega
            clear hc c0 c1 c2 f0 f1 f2
            go_wp2
            go_quiet (fail)
            go_wp2
            go_roundw
            case rel =>
              obtain ⟨y, e1, e2, e3⟩ := FIN.out nq
              refine ⟨k + 1, by omega, by go_num, by rw [HOR.out, HX1.out], ?_, ?_⟩
              · rw [← e1] at e2; exact e2
              · rw [← e1] at e3; exact e3
            case measure => simp [intOf]; omega
          · obtain rfl : k = n := by omega
            go_wp2
            go_ret
            rw [H1.out]
            exact ⟨rfl, hw, hg⟩
  · have hb : (((s.err : Nat) : Int) != 0) = true := by rw [bne_iff_ne]; omega
    have e1 : numR s size = (0, s) := if_pos h0
    rw [e1]
    clear e1
    have H0 := Lib.hid h0; clear h0
    go_enter Tryd.func78, Tryd.ntmps78
    go_wp2
    go_ret
    exact ⟨rfl, h, World.grownBy.refl _ _⟩
end Go.Proofs.YtipofokinjkclaaDoor


/- What the reader of the layer wire does: Take and Text. Conditions: a reader that lies in a block of its own. -/
namespace Go.Proofs.YtipofokinjkclaaDoor
open Go Go.RowKit

def takeR (s : RS) (n : Int) : List UInt8 × RS :=
  if s.err ≠ 0 then ([], s) else if n < 0 then ([], { s with err := 1 })
  else if (s.b.length : Int) - (s.at_ : Int) < n then ([], { s with err := 2 })
  else ((s.b.drop s.at_).take n.toNat, { s with at_ := s.at_ + n.toNat })

set_option maxRecDepth 100000 in
set_option maxHeartbeats 400000 in
theorem Rtake_c (r : Nat) (s : RS) (n : Int) (w : World) (h : Rdr w r s) (hs : (Lit.int .i64 n).wf = true) :
    Calls Tryd.prog 80 #[.pointer (some ⟨r, 0, none⟩), .int .i64 n] w fun e w' => ∃ v, e = .returned v ∧ OwnB w' w.heap.size v (takeR s n).1 ∧ Rdr w' r (takeR s n).2 ∧ w.grownBy w' (some r) := by
  obtain ⟨A, c, ⟨c0, c1, c2⟩, ⟨f0, f1, f2⟩, hrd, hlc, hcm, hk, hl⟩ := h.open_
  by_cases h0 : s.err = 0
  · have hb : (((s.err : Nat) : Int) != 0) = false := by rw [bne_eq_false_iff_eq]; omega
    rcases Int.lt_or_le n 0 with h1 | h1
    · have e1 : takeR s n = ([], { s with err := 1 }) := by rw [takeR, if_neg (by omega), if_pos h1]
      rw [e1]
      clear e1
      have H0 := Lib.hid h0; clear h0
      go_enter Tryd.func80, Tryd.ntmps80
      go_wp2
      go_ret
      exact ⟨_, rfl, Own.nil_ _ _ _, setErr_only h 0 1⟩
    · obtain ⟨m, rfl⟩ := Int.eq_ofNat_of_zero_le h1
      by_cases hsh : (s.b.length : Int) - (s.at_ : Int) < (m : Int)
      · have e1 : takeR s m = ([], { s with err := 2 }) := by rw [takeR, if_neg (by omega), if_neg (by omega), if_pos hsh]
        rw [e1]
        clear e1
        have H0 := Lib.hid h0; clear h0
        go_enter Tryd.func80, Tryd.ntmps80
        go_wp2
        go_quiet (fail)
        go_wp2
        go_ret
        exact ⟨_, rfl, Own.nil_ _ _ _, setErr_only h _ 2⟩
      · have e1 : takeR s m = ((s.b.drop s.at_).take m, { s with at_ := s.at_ + m }) := by rw [takeR, if_neg (by omega), if_neg (by omega), if_neg hsh]; rfl
        have hsh' : (m : Int) ≤ (s.b.length : Int) - (s.at_ : Int) := by omega
        have H1 := Lib.hid e1; clear e1
        have H0 := Lib.hid h0; clear h0
        clear hsh
        go_enter Tryd.func80, Tryd.ntmps80
        go_wp2
        go_quiet (fail)
        go_wp2
        have hw1 : IntKind.i64.wrap ((s.at_ : Int) + (m : Int)) = (s.at_ : Int) + (m : Int) := IntWalk.i64_in _ ⟨by omega, by omega⟩
        have hw2 : (s.at_ : Int) + (m : Int) ≤ (c : Int) := by omega
        have hw3 : (s.at_ : Int) ≤ (s.at_ : Int) + (m : Int) := by omega
        have hw4 : (0 : Int) ≤ (s.at_ : Int) := by omega
        refine wp_region_still_tail 15 (by kernel_rfl) (by kernel_rfl) ?_
        simp only [List.take_succ_cons, List.take_zero, List.drop_succ_cons, List.drop_zero]
        change wpStill _ _ (w.drewN (nq + 1)) _ _ _
        repeat still_step
        refine wpStill_nil ?_
        change wpList _ _ _ _ _ (w.drewN (nq + 1))
        refine wpList_cloneB _ rfl (.tmp 52) rfl _ _ _ ((s.b.drop s.at_).take m) rfl ?_ ?_ ?_ ?_
        · rw [List.length_take, List.length_drop]; omega
        · rw [List.map_take, List.map_drop]
          exact ((hrd.drewN (nq + 1)).cut (by rw [List.length_map]) hk hlc).take m
        · omega
        · intro A' c' w2 g1 g2 g3 g4 g5 g6
          have hr2 : Rdr w2 r s := (h.drewN (nq + 1)).below g2
          have hg2 : w.grownBy w2 (some r) := grownBy_of_below (a := w) (w := w2) ⟨g2.os, g2.tape, g2.output, g2.size, g2.block⟩ _
          obtain ⟨A2, c2', ⟨d0, d1, d2⟩, ⟨e0, e1, e2⟩, _, _, _, _, _⟩ := hr2.open_
          have G1 := Lib.hid g1; clear g1
          have G2 := Lib.hid g2; clear g2
          have G5 := Lib.hid g5; clear g5
          have G6 := Lib.hid g6; clear g6
          clear c0 c1 c2 f0 f1 f2
          generalize (if c = s.at_ then A else Option.map (fun x => x.add s.at_) A) = A9
          have em : ((s.at_ : Int) + (m : Int)).toNat - s.at_ = m := by omega
          have G1' := G1.out
          rw [em] at G1'
          rw [em]
          have G3 := Lib.hid G1'; clear G1'
          clear G1 em g3 g4
          go_wp2
          go_ret
          rw [H1.out]
          refine ⟨_, rfl, ?_, ?_, ?_⟩
          · exact Own.setBelow (p := ⟨r, 1, none⟩) (show OwnB w2 w.heap.size _ _ from G3.out) h.lt _
          · have := hr2.setAt (s.at_ + m) (by omega)
            rw [show ((s.at_ + m : Nat) : Int) = (s.at_ : Int) + (m : Int) by omega] at this
            exact this
          · exact only_trans hg2 (only_set r 1 _)
  · have hb : (((s.err : Nat) : Int) != 0) = true := by rw [bne_iff_ne]; omega
    have e1 : takeR s n = ([], s) := if_pos h0
    rw [e1]
    clear e1
    have H0 := Lib.hid h0; clear h0
    go_enter Tryd.func80, Tryd.ntmps80
    go_wp2
    go_ret
    exact ⟨_, rfl, Own.nil_ _ _ _, h, World.grownBy.refl _ _⟩

end Go.Proofs.YtipofokinjkclaaDoor


/- The bytes that a reader has ahead, and what numbers it reads; what stays outside two blocks. Conditions: none. -/
namespace Go.Proofs.YtipofokinjkclaaDoor
open Go Go.RowKit Go.Lib

/-- The bytes ahead. -/
def RS.rest (s : RS) : List UInt8 := s.b.drop s.at_
theorem rest_len (s : RS) : s.rest.length = s.b.length - s.at_ := by rw [RS.rest, List.length_drop]
theorem num_err {s : RS} {k : Int} (h : s.err ≠ 0) : numR s k = (0, s) := by rw [numR, if_pos h]
theorem num_short {s : RS} {k : Int} (h : s.err = 0) (h1 : 1 ≤ k) (h8 : k ≤ 8) (hl : (s.rest.length : Int) < k) : numR s k = (0, { s with err := 2 }) := by
  rw [rest_len] at hl
  rw [numR, if_neg (by omega), if_neg (by omega), if_pos (by omega)]
theorem num_ok {s : RS} {k : Int} (h : s.err = 0) (h1 : 1 ≤ k) (h8 : k ≤ 8) (hl : k ≤ (s.rest.length : Int)) : numR s k = (beN (s.rest.take k.toNat), { s with at_ := s.at_ + k.toNat }) := by
  rw [rest_len] at hl
  rw [numR, if_neg (by omega), if_neg (by omega), if_neg (by omega)]
  rfl
theorem rest_step (s : RS) (k : Nat) : RS.rest { s with at_ := s.at_ + k } = s.rest.drop k := by
  unfold RS.rest
  rw [List.drop_drop]
theorem num_lt (s : RS) (k : Int) : (numR s k).1 < 256 ^ k.toNat := by
  have h0 : 0 < 256 ^ k.toNat := Nat.pos_of_ne_zero (by simp)
  unfold numR
  split
  · exact h0
  · split
    · exact h0
    · split
      · exact h0
      · refine Nat.lt_of_lt_of_le (beN_lt _) (Nat.pow_le_pow_right (by decide) ?_)
        rw [List.length_take]; exact Nat.min_le_left _ _
theorem num_gA (s : RS) (k : Int) : (numR s k).2.gA = s.gA ∧ (numR s k).2.b = s.b := by
  unfold numR
  split
  · exact ⟨rfl, rfl⟩
  · split
    · exact ⟨rfl, rfl⟩
    · split <;> exact ⟨rfl, rfl⟩
theorem beN_one (y : UInt8) : beN [y] = y.toNat := by
  show 0 * 256 + y.toNat = y.toNat
  omega
/-- One byte. -/
theorem num1_nil {s : RS} (h : s.err = 0) (hl : s.rest = []) : numR s 1 = (0, { s with err := 2 }) := num_short h (by decide) (by decide) (by rw [hl]; decide)
theorem num1_cons {s : RS} {y : UInt8} {l : List UInt8} (h : s.err = 0) (hl : s.rest = y :: l) : ∃ s', numR s 1 = (y.toNat, s') ∧ s'.err = 0 ∧ s'.rest = l ∧ s'.gA = s.gA ∧ s'.b = s.b := by
  refine ⟨{ s with at_ := s.at_ + 1 }, ?_, h, ?_, rfl, rfl⟩
  · rw [num_ok h (by decide) (by decide) (by rw [hl, List.length_cons]; omega), hl]
    show (beN [y], _) = _
    rw [beN_one]
    rfl
  · rw [rest_step, hl]
    rfl
/-- A cell's four numbers: the reader behind them. -/
def fourR (s : RS) : RS := (numR (numR (numR (numR s 4).2 2).2 2).2 1).2
theorem four_gA (s : RS) : (fourR s).gA = s.gA ∧ (fourR s).b = s.b := by
  unfold fourR
  exact ⟨by rw [(num_gA _ _).1, (num_gA _ _).1, (num_gA _ _).1, (num_gA _ _).1], by rw [(num_gA _ _).2, (num_gA _ _).2, (num_gA _ _).2, (num_gA _ _).2]⟩
def fourC (s : RS) : CeD := ⟨IntKind.i32.wrap ((numR s 4).1 : Int), 0, ((numR (numR s 4).2 2).1 : Int), ((numR (numR (numR s 4).2 2).2 2).1 : Int), ((numR (numR (numR (numR s 4).2 2).2 2).2 1).1 : Int), 0⟩
theorem four_ok {s : RS} (h : s.err = 0) (hl : 9 ≤ s.rest.length) : (fourR s).err = 0 ∧ (fourR s).rest = s.rest.drop 9 ∧ fourC s = cellAt s.rest := by
  have e1 := num_ok (s := s) (k := 4) h (by decide) (by decide) (by omega)
  obtain ⟨s1, hs1⟩ : ∃ x : RS, x = { s with at_ := s.at_ + (4 : Int).toNat } := ⟨_, rfl⟩
  have r1 : s1.rest = s.rest.drop 4 := by rw [hs1]; exact rest_step s 4
  have x1 : s1.err = 0 := by rw [hs1]; exact h
  rw [← hs1] at e1
  have e2 := num_ok (s := s1) (k := 2) x1 (by decide) (by decide) (by rw [r1, List.length_drop]; omega)
  obtain ⟨s2, hs2⟩ : ∃ x : RS, x = { s1 with at_ := s1.at_ + (2 : Int).toNat } := ⟨_, rfl⟩
  have r2 : s2.rest = s.rest.drop 6 := by rw [hs2]; refine (rest_step s1 2).trans ?_; rw [r1, List.drop_drop]
  have x2 : s2.err = 0 := by rw [hs2]; exact x1
  rw [← hs2] at e2
  have e3 := num_ok (s := s2) (k := 2) x2 (by decide) (by decide) (by rw [r2, List.length_drop]; omega)
  obtain ⟨s3, hs3⟩ : ∃ x : RS, x = { s2 with at_ := s2.at_ + (2 : Int).toNat } := ⟨_, rfl⟩
  have r3 : s3.rest = s.rest.drop 8 := by rw [hs3]; refine (rest_step s2 2).trans ?_; rw [r2, List.drop_drop]
  have x3 : s3.err = 0 := by rw [hs3]; exact x2
  rw [← hs3] at e3
  have e4 := num_ok (s := s3) (k := 1) x3 (by decide) (by decide) (by rw [r3, List.length_drop]; omega)
  obtain ⟨s4, hs4⟩ : ∃ x : RS, x = { s3 with at_ := s3.at_ + (1 : Int).toNat } := ⟨_, rfl⟩
  have r4 : s4.rest = s.rest.drop 9 := by rw [hs4]; refine (rest_step s3 1).trans ?_; rw [r3, List.drop_drop]
  have x4 : s4.err = 0 := by rw [hs4]; exact x3
  rw [← hs4] at e4
  unfold fourR fourC cellAt
  rw [e1]
  simp only []
  rw [e2]
  simp only []
  rw [e3]
  simp only []
  rw [e4]
  simp only []
  rw [r1, r2, r3]
  exact ⟨x4, r4, rfl⟩
theorem four_short {s : RS} (h : s.err = 0) (hl : s.rest.length < 9) : (fourR s).err = 2 := by
  unfold fourR
  by_cases h1 : s.rest.length < 4
  · rw [num_short (s := s) (k := 4) h (by decide) (by decide) (by omega)]
    simp only []
    rw [num_err (s := { s with err := 2 }) (by simp)]
    simp only []
    rw [num_err (s := { s with err := 2 }) (by simp)]
    simp only []
    rw [num_err (s := { s with err := 2 }) (by simp)]
  · have e1 := num_ok (s := s) (k := 4) h (by decide) (by decide) (by omega)
    obtain ⟨s1, hs1⟩ : ∃ x : RS, x = { s with at_ := s.at_ + (4 : Int).toNat } := ⟨_, rfl⟩
    have r1 : s1.rest = s.rest.drop 4 := by rw [hs1]; exact rest_step s 4
    have x1 : s1.err = 0 := by rw [hs1]; exact h
    rw [← hs1] at e1
    rw [e1]
    simp only []
    by_cases h2 : s1.rest.length < 2
    · rw [num_short (s := s1) (k := 2) x1 (by decide) (by decide) (by omega)]
      simp only []
      rw [num_err (s := { s1 with err := 2 }) (by simp)]
      simp only []
      rw [num_err (s := { s1 with err := 2 }) (by simp)]
    · have e2 := num_ok (s := s1) (k := 2) x1 (by decide) (by decide) (by omega)
      obtain ⟨s2, hs2⟩ : ∃ x : RS, x = { s1 with at_ := s1.at_ + (2 : Int).toNat } := ⟨_, rfl⟩
      have r2 : s2.rest = s.rest.drop 6 := by rw [hs2]; refine (rest_step s1 2).trans ?_; rw [r1, List.drop_drop]
      have x2 : s2.err = 0 := by rw [hs2]; exact x1
      rw [← hs2] at e2
      rw [e2]
      simp only []
      by_cases h3 : s2.rest.length < 2
      · rw [num_short (s := s2) (k := 2) x2 (by decide) (by decide) (by omega)]
        simp only []
        rw [num_err (s := { s2 with err := 2 }) (by simp)]
      · have e3 := num_ok (s := s2) (k := 2) x2 (by decide) (by decide) (by omega)
        obtain ⟨s3, hs3⟩ : ∃ x : RS, x = { s2 with at_ := s2.at_ + (2 : Int).toNat } := ⟨_, rfl⟩
        have r3 : s3.rest = s.rest.drop 8 := by rw [hs3]; refine (rest_step s2 2).trans ?_; rw [r2, List.drop_drop]
        have x3 : s3.err = 0 := by rw [hs3]; exact x2
        rw [← hs3] at e3
        rw [e3]
        simp only []
        rw [r2, List.length_drop] at h3
        rw [num_short (s := s3) (k := 1) x3 (by decide) (by decide) (by rw [r3, List.length_drop]; omega)]

/-! ### What stays outside some blocks -/
structure Stays (S : Nat → Prop) (w w' : World) : Prop where
  os : w'.os = w.os
  tape : w'.tape = w.tape
  output : w'.output = w.output
  size : w.heap.size ≤ w'.heap.size
  block : ∀ k, k < w.heap.size → ¬ S k → w'.heap[k]? = w.heap[k]?
theorem Stays.refl (S : Nat → Prop) (w : World) : Stays S w w := ⟨rfl, rfl, rfl, Nat.le_refl _, fun _ _ _ => rfl⟩
theorem Stays.trans {S : Nat → Prop} {a b c : World} (h : Stays S a b) (k : Stays S b c) : Stays S a c :=
  ⟨k.os.trans h.os, k.tape.trans h.tape, k.output.trans h.output, Nat.le_trans h.size k.size, fun i hi hs => (k.block i (Nat.lt_of_lt_of_le hi h.size) hs).trans (h.block i hi hs)⟩
theorem Stays.of_below {w w' : World} (h : Below w.heap.size w w') (S : Nat → Prop) : Stays S w w' :=
  ⟨h.os, h.tape, h.output, h.size, fun k hk _ => h.block k hk⟩
theorem Stays.below {B : Nat} {S : Nat → Prop} {w w' : World} (h : Stays S w w') (hB : B ≤ w.heap.size) (hS : ∀ k, k < B → ¬ S k) : Below B w w' :=
  ⟨h.os, h.tape, h.output, h.size, fun k hk => h.block k (Nat.lt_of_lt_of_le hk hB) (hS k hk)⟩
theorem Stays.of_grown {r : Nat} {w w' : World} (h : w.grownBy w' (some r)) (S : Nat → Prop) (hS : S r) : Stays S w w' :=
  ⟨h.os, h.tape, h.output, h.size, fun k hk hs => h.block k hk (fun e => hs (by injection e with e; rw [e]; exact hS))⟩
theorem Stays.set (S : Nat → Prop) (w : World) (p : Addr) (u : Value) (h : S p.block) : Stays S w (w.setCell p u) :=
  ⟨rfl, rfl, rfl, by simp [World.setCell], fun k _ hs => heap_far u (fun e => hs (e ▸ h))⟩
theorem Stays.drewN {S : Nat → Prop} {w w' : World} (h : Stays S w w') (n : Nat) : Stays S w (w'.drewN n) := ⟨h.os, h.tape, h.output, h.size, h.block⟩
theorem Stays.alloc {S : Nat → Prop} {w w' : World} (h : Stays S w w') (o : Obj) : Stays S w (w'.alloc o) :=
  ⟨h.os, h.tape, h.output, Nat.le_trans h.size (by simp), fun k hk hs => (Below.heap_alloc w' o k (Nat.lt_of_lt_of_le hk h.size)).trans (h.block k hk hs)⟩
theorem six_stays (S : Nat → Prop) (w : World) (b a0 a1 a2 a3 a4 a5 : Nat) (u0 u1 u2 u3 u4 u5 : Value) (h : S b) :
    Stays S w ((((((w.setCell ⟨b, a0, none⟩ u0).setCell ⟨b, a1, none⟩ u1).setCell ⟨b, a2, none⟩ u2).setCell ⟨b, a3, none⟩ u3).setCell ⟨b, a4, none⟩ u4).setCell ⟨b, a5, none⟩ u5) :=
  (((((Stays.set S w ⟨b, a0, none⟩ u0 h).trans (Stays.set S _ ⟨b, a1, none⟩ u1 h)).trans (Stays.set S _ ⟨b, a2, none⟩ u2 h)).trans (Stays.set S _ ⟨b, a3, none⟩ u3 h)).trans (Stays.set S _ ⟨b, a4, none⟩ u4 h)).trans (Stays.set S _ ⟨b, a5, none⟩ u5 h)
theorem Stays.keepC {S : Nat → Prop} {w w' : World} {B : Nat} {v : Value} {ds : List CeD} (h : Stays S w w') (ho : OwnC w B v ds) (hS : ∀ g, v.ownBlock = some g → ¬ S g) : OwnC w' B v ds :=
  ho.keep (fun g e => h.block g (ho.lt g e).2 (hS g e))
theorem Stays.scB {S : Nat → Prop} {w w' : World} {g : Nat} {s : ScD} {A : Option Addr} {n c : Nat} {L : Option Addr} {m cm : Nat} (h : Stays S w w') (hs : ScB w g s A n c L m cm) (hg : ¬ S g) : ScB w' g s A n c L m cm :=
  (h.block g (heap_lt hs) hg).trans hs
theorem OwnC.grown {w w' : World} {B g n c r : Nat} {ds : List CeD} (ho : OwnC w B (.slice (some ⟨g, 0, none⟩) n c) ds) (hg : w.grownBy w' (some r)) (h : r ≠ g) : OwnC w' B (.slice (some ⟨g, 0, none⟩) n c) ds :=
  ho.keep (fun j ej => hg.block j (ho.lt j ej).2 (fun e => h (by injection e with e; injection ej with ej; exact (ej.trans e).symm)))
theorem ScB.grown {w w' : World} {p r : Nat} {s : ScD} {A : Option Addr} {n c : Nat} {L : Option Addr} {m cm : Nat} (hs : ScB w p s A n c L m cm) (hg : w.grownBy w' (some r)) (h : p ≠ r) : ScB w' p s A n c L m cm :=
  (hg.block p (heap_lt hs) (fun e => h (by injection e))).trans hs
theorem Stays.rdr {S : Nat → Prop} {w w' : World} {r : Nat} {s : RS} (h : Stays S w w') (hr : Rdr w r s) (h1 : ¬ S r) (h2 : ∀ a, s.gA = some a → ¬ S a.block) : Rdr w' r s := by
  obtain ⟨A, c, g1, g2, ⟨g3, g5⟩, g4⟩ := hr
  exact ⟨A, c, (h.block r (heap_lt g1) h1).trans g1, g2.of_blocks (fun b hb ⟨off, e⟩ => h.block b hb (h2 _ (g3.symm.trans e))) h.size, ⟨g3, g5⟩, g4⟩
theorem Stays.rd {S : Nat → Prop} {w w' : World} {A : Option Addr} {vs : List Value} (h : Stays S w w') (hr : Rd w A vs) (h2 : ∀ a, A = some a → ¬ S a.block) : Rd w' A vs :=
  hr.of_blocks (fun b hb ⟨off, e⟩ => h.block b hb (h2 _ e)) h.size
end Go.Proofs.YtipofokinjkclaaDoor


/- What rows.Fits and the reference's Fits (16) answer; slices.Equal on cells. Conditions: parts that can be read; the tables of widths lie where they were laid. -/
namespace Go.Proofs.YtipofokinjkclaaDoor
open Go Go.RowKit Go.Lib

set_option maxRecDepth 100000 in
set_option maxHeartbeats 8000000 in
theorem fits1_c (d : CeD) (w : World) : Calls Tryd.prog 51 #[d.val] w fun e w' => e = .returned (.bool (bad16 d)) ∧ Below w.heap.size w w' := by
  obtain ⟨W0, eW0⟩ : ∃ W0, W0 = w.alloc (.cells d.arr 47) := ⟨_, rfl⟩
  obtain ⟨p, ep⟩ : ∃ p, p = w.heap.size := ⟨_, rfl⟩
  have hp0 : W0.heap[p]? = some (.cells d.arr 47 (0, 0)) := by rw [eW0, ep]; exact heap_alloc_new _ _
  have v1 : W0.cell? ⟨p, 1, none⟩ = some (.int .u8 d.w) := heap_cell hp0 1
  have v2 : W0.cell? ⟨p, 2, none⟩ = some (.int .u32 d.fg) := heap_cell hp0 2
  have v3 : W0.cell? ⟨p, 3, none⟩ = some (.int .u32 d.bg) := heap_cell hp0 3
  have HB0 : Hid (Below w.heap.size w W0) := Lib.hid (by rw [eW0]; exact (Below.refl _ _).alloc (Nat.le_refl _) _)
  have EW0 : Hid (w.alloc (.cells #[.int .i32 d.r, .int .u8 d.w, .int .u32 d.fg, .int .u32 d.bg, .int .u8 d.at_, .int .u16 d.ln] 47) = W0) := Lib.hid eW0.symm
  have EP := Lib.hid ep
  clear eW0 ep hp0
  unfold bad16
  obtain ⟨b1, e1⟩ : ∃ b, (d.w == 0) = b := ⟨_, rfl⟩
  have e1n : (d.w != 0) = !b1 := by rw [bne, e1]
  obtain ⟨b2, e2⟩ : ∃ b, decide (256 < d.fg) = b := ⟨_, rfl⟩
  obtain ⟨b3, e3⟩ : ∃ b, decide (256 < d.bg) = b := ⟨_, rfl⟩
  rw [e1, e2, e3]
  show Calls _ _ #[.agg #[.int .i32 d.r, .int .u8 d.w, .int .u32 d.fg, .int .u32 d.bg, .int .u8 d.at_, .int .u16 d.ln]] w _
  cases b1 <;> cases b2 <;> cases b3 <;>
  · go_enter Tryd.func51, Tryd.ntmps51
    go_upto_region 1 with (fail)
    rw [EW0.out, ← EP.out]
    go_wp2_with (fail)
    go_ret
    exact ⟨rfl, HB0.out⟩
/-- Where the first bad one stands. -/
def badAt : List CeD → Int → Int
  | [], _ => -1
  | d :: l, i => if bad16 d then i else badAt l (i + 1)
theorem badAt_any : ∀ (l : List CeD) (i : Int), 0 ≤ i → decide (0 ≤ badAt l i) = l.any bad16
  | [], _, _ => rfl
  | d :: l, i, h => by
    rw [badAt, List.any_cons]
    cases hb : bad16 d
    · rw [Bool.false_or, if_neg (by decide)]; exact badAt_any l (i + 1) (by omega)
    · rw [if_pos rfl, Bool.true_or]; exact decide_eq_true h
set_option maxRecDepth 100000 in
set_option maxHeartbeats 16000000 in
theorem indexBad_c (A : Option Addr) (n c : Nat) (ds : List CeD) (w : World) (hn : ds.length = n) (hr : RdC w A ds) (hl : n ≤ 60000) :
    Calls Tryd.prog 91 #[.slice A n c, .func (.func 51) #[] #[]] w fun e w' => e = .returned (.int .i64 (badAt ds 0)) ∧ Below w.heap.size w w' := by
  have HN := Lib.hid hn
  have HR := Lib.hid hr
  obtain ⟨Z, eZ⟩ : ∃ Z, badAt ds 0 = Z := ⟨_, rfl⟩
  rw [eZ]
  have EZ := Lib.hid eZ
  clear hn hr eZ
  go_enter Tryd.func91, Tryd.ntmps91
  go_wp2_with (fail)
  go_loopw [8] (fun i wr => ∃ k : Nat, k ≤ n ∧ i = .int .i64 k ∧ Hid (badAt (ds.drop k) (k : Int) = Z) ∧ Hid (Below w.heap.size w wr)) (fun i _ => n - (intOf i).toNat)
  case atStart => exact ⟨0, Nat.zero_le _, rfl, Lib.hid EZ.out, Lib.hid (Below.refl _ _)⟩
  case round =>
    obtain ⟨k, hk, rfl, HG, HB⟩ := hrel
    rcases Nat.lt_or_ge k n with hlt | hge
    · have hlt' : (k : Int) < (n : Int) := by omega
      have hkl : k < ds.length := by rw [HN.out]; exact hlt
      have hrw := RdC.below HR.out HB.out
      obtain ⟨b, off, rfl, hbl, hcd⟩ := RdC.cellsAt hrw k hkl
      obtain ⟨d, ed⟩ : ∃ d, d = ds[k] := ⟨_, rfl⟩
      rw [← ed] at hcd
      have HCD := Lib.hid hcd
      have HST : Hid ((if bad16 d then (k : Int) else badAt (ds.drop (k + 1)) ((k + 1 : Nat) : Int)) = Z) := Lib.hid (by
        have h := HG.out
        rw [List.drop_eq_getElem_cons hkl, badAt, ← ed] at h
        rw [← h]
        split
        · rfl
        · congr 1)
      obtain ⟨bb, eb⟩ : ∃ b, bad16 d = b := ⟨_, rfl⟩
      have HBB := Lib.hid eb
      rw [eb] at HST
      clear hrw hcd ed eb hkl HG
      cases bb
      · go_wp2_with (first
          | (refine wpList_load_cells rfl 47 (.tmp 14) rfl ⟨b, off + k * 6, none⟩ rfl d.cells d.val rfl _ (cells_load HCD.out) Tryd.underlying47 rfl (info_cell.trans rfl) ?_)
          | (go_at_call 51; (refine (fits1_c d wr).mono ?_); rintro _ w1 ⟨rfl, hb1⟩; rw [HBB.out]; have HB1 := Lib.hid (HB.out.trans (hb1.mono HB.out.size)); clear hb1))
        go_roundw
        case rel => exact ⟨k + 1, by omega, by go_num, Lib.hid HST.out, HB1⟩
        case measure => simp [intOf]; omega
      · have HKZ : Hid (Z = (k : Int)) := Lib.hid HST.out.symm
        go_wp2_with (first
          | (refine wpList_load_cells rfl 47 (.tmp 14) rfl ⟨b, off + k * 6, none⟩ rfl d.cells d.val rfl _ (cells_load HCD.out) Tryd.underlying47 rfl (info_cell.trans rfl) ?_)
          | (go_at_call 51; (refine (fits1_c d wr).mono ?_); rintro _ w1 ⟨rfl, hb1⟩; rw [HBB.out]; have HB1 := Lib.hid (HB.out.trans (hb1.mono HB.out.size)); clear hb1))
        go_ret
        exact ⟨by rw [HKZ.out] <;> rfl, HB1.out⟩
    · obtain rfl : n = k := by omega
      have hge' : ¬ ((n : Int) < (n : Int)) := by omega
      have HKZ : Hid (Z = -1) := Lib.hid (by rw [← HG.out, List.drop_of_length_le (by rw [HN.out]; exact Nat.le_refl _)]; rfl)
      clear hge hk
      go_wp2_with (fail)
      go_ret
      exact ⟨by rw [HKZ.out] <;> rfl, HB.out⟩
set_option maxRecDepth 100000 in
set_option maxHeartbeats 4000000 in
theorem containsBad_c (A : Option Addr) (n c : Nat) (ds : List CeD) (w : World) (hn : ds.length = n) (hr : RdC w A ds) (hl : n ≤ 60000) :
    Calls Tryd.prog 50 #[.slice A n c, .func (.func 51) #[] #[]] w fun e w' => e = .returned (.bool (ds.any bad16)) ∧ Below w.heap.size w w' := by
  obtain ⟨Z, eZ⟩ : ∃ Z, ds.any bad16 = Z := ⟨_, rfl⟩
  have EZ := Lib.hid ((badAt_any ds 0 (Int.le_refl 0)).trans eZ)
  rw [eZ]
  obtain ⟨I, eI⟩ : ∃ I, badAt ds 0 = I := ⟨_, rfl⟩
  have EI := Lib.hid eI
  rw [eI] at EZ
  have e2 := EZ.out
  clear eZ eI
  go_enter Tryd.func50, Tryd.ntmps50
  go_wp2_with (go_at_call 91; (refine (indexBad_c A n c ds w hn hr hl).mono ?_); rintro _ w1 ⟨rfl, hb1⟩; rw [EI.out]; have HB1 := Lib.hid hb1; clear hb1)
  go_ret
  exact ⟨by first | rfl | rw [EZ.out], HB1.out⟩
set_option maxRecDepth 100000 in
set_option maxHeartbeats 8000000 in
theorem fits16_c (s : ScD) (A : Option Addr) (n c : Nat) (L : Option Addr) (m cm : Nat) (w : World) (hs : ScR w s A n c L m cm) (hU : TabU w) :
    Calls Tryd.prog 25 #[.agg (scC s A n c L m cm)] w fun e w' => e = .returned (.bool (fit16 s)) ∧ Below w.heap.size w w' := by
  obtain ⟨X, eX⟩ : ∃ X, X = scC s A n c L m cm := ⟨_, rfl⟩
  rw [← eX]
  obtain ⟨W0, eW0⟩ : ∃ W0, W0 = w.alloc (.cells X 25) := ⟨_, rfl⟩
  obtain ⟨p, ep⟩ : ∃ p, p = w.heap.size := ⟨_, rfl⟩
  have hb0 : Below w.heap.size w W0 := by rw [eW0]; exact (Below.refl _ _).alloc (Nat.le_refl _) _
  have HP0 : Hid (ScB W0 p s A n c L m cm) := Lib.hid (by rw [eW0, ep, eX]; exact heap_alloc_new _ _)
  have EW0 := Lib.hid eW0
  have EP := Lib.hid ep
  have HB0 := Lib.hid hb0
  have HR0 := Lib.hid (hs.below hb0)
  have HU0 := Lib.hid (hU.next hb0)
  clear eX eW0 ep hb0 hs hU
  obtain ⟨Z, eZ⟩ : ∃ Z, fit16 s = Z := ⟨_, rfl⟩
  rw [eZ]
  unfold fit16 at eZ
  rw [HR0.out.hm] at eZ
  obtain ⟨b1, e1⟩ : ∃ b, rightS s = b := ⟨_, rfl⟩
  obtain ⟨b2, e2⟩ : ∃ b, (m == 0) = b := ⟨_, rfl⟩
  have e2i : ((m : Int) == 0) = b2 := by rw [← e2, Bool.eq_iff_iff, beq_iff_eq, beq_iff_eq]; omega
  obtain ⟨b3, e3⟩ : ∃ b, (s.mouse == 0) = b := ⟨_, rfl⟩
  obtain ⟨b4, e4⟩ : ∃ b, s.cells.any bad16 = b := ⟨_, rfl⟩
  rw [e1, e2, e3, e4] at eZ
  have E1 := Lib.hid e1
  have E4 := Lib.hid e4
  have EZ := Lib.hid eZ
  clear eZ e1 e4
  cases b1 <;> cases b2 <;> cases b3 <;> cases b4 <;>
  · go_enter Tryd.func25, Tryd.ntmps25
    go_upto_region 1 with (fail)
    rw [← EW0.out, ← EP.out]
    go_wp2_with (first
      | (refine wpList_load_row rfl 25 (.tmp 1) rfl p rfl 25 _ (0, 0) _ HP0.out Tryd.underlying25 rfl (info_sc.trans rfl) ?_)
      | (go_at_call 33; (refine (emulRight_c s A n c L m cm W0 HR0.out HU0.out).mono ?_); rintro _ w1 ⟨rfl, hb1⟩; rw [E1.out]; have HB1 := Lib.hid (HB0.out.trans (hb1.mono HB0.out.size)); have HR1 := Lib.hid (HR0.out.below hb1); have HP1 := HP0.out.below hb1; have x2 : w1.cell? ⟨p, 2, none⟩ = some (.slice A n c) := HP1.nine.2.2.1; have x6 : w1.cell? ⟨p, 6, none⟩ = some (.int .u8 s.mouse) := HP1.nine.2.2.2.2.2.2.1; have x8 : w1.cell? ⟨p, 8, none⟩ = some (.slice L m cm) := HP1.nine.2.2.2.2.2.2.2.2; clear hb1 HP1)
      | (go_at_call 50; (refine (containsBad_c A n c s.cells w1 HR1.out.hn HR1.out.rd HR1.out.nl).mono ?_); rintro _ w2 ⟨rfl, hb2⟩; rw [E4.out]; have HB2 := Lib.hid (HB1.out.trans (hb2.mono HB1.out.size)); clear hb2))
    go_ret
    first
      | exact ⟨by rw [← EZ.out] <;> rfl, HB2.out⟩
      | exact ⟨by rw [← EZ.out] <;> rfl, HB1.out⟩
set_option maxRecDepth 100000 in
set_option maxHeartbeats 8000000 in
theorem refFits16_c (s : ScD) (A : Option Addr) (n c : Nat) (L : Option Addr) (m cm : Nat) (w : World) (hs : ScR w s A n c L m cm) (hm : 0 ≤ s.mouse) (hU : TabU w) :
    Calls Tryd.prog 26 #[.agg (scC s A n c L m cm)] w fun e w' => e = .returned (.bool (fit16 s)) ∧ Below w.heap.size w w' := by
  obtain ⟨X, eX⟩ : ∃ X, X = scC s A n c L m cm := ⟨_, rfl⟩
  rw [← eX]
  obtain ⟨W0, eW0⟩ : ∃ W0, W0 = w.alloc (.cells X 25) := ⟨_, rfl⟩
  obtain ⟨p, ep⟩ : ∃ p, p = w.heap.size := ⟨_, rfl⟩
  have hb0 : Below w.heap.size w W0 := by rw [eW0]; exact (Below.refl _ _).alloc (Nat.le_refl _) _
  have HP0 : Hid (ScB W0 p s A n c L m cm) := Lib.hid (by rw [eW0, ep, eX]; exact heap_alloc_new _ _)
  have EW0 := Lib.hid eW0
  have EP := Lib.hid ep
  have HB0 := Lib.hid hb0
  have HR0 := Lib.hid (hs.below hb0)
  have HU0 := Lib.hid (hU.next hb0)
  clear eX eW0 ep hb0 hs hU
  obtain ⟨Z, eZ⟩ : ∃ Z, fit16 s = Z := ⟨_, rfl⟩
  rw [eZ]
  unfold fit16 at eZ
  rw [HR0.out.hm] at eZ
  obtain ⟨b1, e1⟩ : ∃ b, rightS s = b := ⟨_, rfl⟩
  obtain ⟨b2, e2⟩ : ∃ b, (m == 0) = b := ⟨_, rfl⟩
  have e2i : decide (0 < m) = !b2 := by rw [← e2]; rcases Nat.eq_zero_or_pos m with h | h <;> simp [h] <;> omega
  have e2j : decide (0 < (m : Int)) = !b2 := by rw [← e2i]; exact decide_eq_decide.2 (by omega)
  obtain ⟨b3, e3⟩ : ∃ b, (s.mouse == 0) = b := ⟨_, rfl⟩
  have e3i : decide (0 < s.mouse) = !b3 := by rw [← e3, Bool.eq_iff_iff, decide_eq_true_eq, Bool.not_eq_true', beq_eq_false_iff_ne]; omega
  rw [e1, e2, e3] at eZ
  have E1 := Lib.hid e1
  have EZ := Lib.hid eZ
  clear eZ e1
  cases b1 <;> cases b2 <;> cases b3
  case true.true.true =>
    go_enter Tryd.func26, Tryd.ntmps26
    go_upto_region 1 with (fail)
    rw [← EW0.out, ← EP.out]
    go_upto_region 3 with (first
      | (refine wpList_load_row rfl 25 (.tmp 1) rfl p rfl 25 _ (0, 0) _ HP0.out Tryd.underlying25 rfl (info_sc.trans rfl) ?_)
      | (go_at_call 32; (refine (refRight_c s A n c L m cm W0 HR0.out HU0.out).mono ?_); rintro _ w1 ⟨rfl, hb1⟩; rw [E1.out]; have HB1 := Lib.hid (HB0.out.trans (hb1.mono HB0.out.size)); have HR1 := Lib.hid (HR0.out.below hb1); have HP1 := Lib.hid (HP0.out.below hb1); have x2 : w1.cell? ⟨p, 2, none⟩ = some (.slice A n c) := HP1.out.nine.2.2.1; have x6 : w1.cell? ⟨p, 6, none⟩ = some (.int .u8 s.mouse) := HP1.out.nine.2.2.2.2.2.2.1; have x8 : w1.cell? ⟨p, 8, none⟩ = some (.slice L m cm) := HP1.out.nine.2.2.2.2.2.2.2.2; clear hb1))
    clear x6 x8 e2 e2i e2j e3 e3i
    go_wp2_with (fail)
    have HNL : Hid (s.cells.length = n ∧ n ≤ 60000) := Lib.hid ⟨HR1.out.hn, HR1.out.nl⟩
    have HRD : Hid (RdC w1 A s.cells) := Lib.hid HR1.out.rd
    go_loopw [21] (fun i wr => ∃ k : Nat, k ≤ n ∧ i = .int .i64 k ∧ Hid ((!(s.cells.drop k).any bad16) = Z) ∧ Hid (wr = w1)) (fun i _ => n - (intOf i).toNat)
    case atStart => exact ⟨0, Nat.zero_le _, rfl, Lib.hid EZ.out, Lib.hid rfl⟩
    case round =>
      obtain ⟨k, hk, rfl, HG, hwr⟩ := hrel
      obtain rfl := hwr.out
      have hn6 : n ≤ 60000 := HNL.out.2
      rcases Nat.lt_or_ge k n with hlt | hge
      · have hlt' : (k : Int) < (n : Int) := by omega
        have hkl : k < s.cells.length := by rw [HNL.out.1]; exact hlt
        obtain ⟨b, off, rfl, hbl, hcd⟩ := RdC.cellsAt HRD.out k hkl
        obtain ⟨d, ed⟩ : ∃ d, d = s.cells[k] := ⟨_, rfl⟩
        rw [← ed] at hcd
        obtain ⟨-, z1, z2, z3, -, -⟩ := hcd
        have hst := HG.out
        rw [List.drop_eq_getElem_cons hkl, List.any_cons, ← ed, bad16] at hst
        obtain ⟨b1, e1⟩ : ∃ b, (d.w == 0) = b := ⟨_, rfl⟩
        have e1n : (d.w != 0) = !b1 := by rw [bne, e1]
        obtain ⟨b2, e2⟩ : ∃ b, decide (256 < d.fg) = b := ⟨_, rfl⟩
        obtain ⟨b3, e3⟩ : ∃ b, decide (256 < d.bg) = b := ⟨_, rfl⟩
        rw [e1, e2, e3] at hst
        have HST := Lib.hid hst
        clear ed hst hkl HG
        cases b1
        · go_wp2_with (fail)
          go_ret
          exact ⟨by rw [← HST.out] <;> rfl, HB1.out⟩
        cases b2
        rotate_left
        · go_wp2_with (fail)
          go_ret
          exact ⟨by rw [← HST.out] <;> rfl, HB1.out⟩
        cases b3
        rotate_left
        · go_wp2_with (fail)
          go_ret
          exact ⟨by rw [← HST.out] <;> rfl, HB1.out⟩
        go_wp2_with (fail)
        go_roundw
        case rel => exact ⟨k + 1, by omega, by go_num, Lib.hid HST.out, by first | exact Lib.hid rfl | exact Lib.hid trivial⟩
        case measure => simp [intOf]; omega
      · obtain rfl : n = k := by omega
        have hge' : ¬ ((n : Int) < (n : Int)) := by omega
        have HKZ : Hid (Z = true) := Lib.hid (by rw [← HG.out, List.drop_of_length_le (by rw [HNL.out.1]; exact Nat.le_refl _)]; rfl)
        clear hge hk
        go_wp2_with (fail)
        go_ret
        exact ⟨by rw [HKZ.out] <;> rfl, HB1.out⟩
  all_goals
    go_enter Tryd.func26, Tryd.ntmps26
    go_upto_region 1 with (fail)
    rw [← EW0.out, ← EP.out]
    go_wp2_with (first
      | (refine wpList_load_row rfl 25 (.tmp 1) rfl p rfl 25 _ (0, 0) _ HP0.out Tryd.underlying25 rfl (info_sc.trans rfl) ?_)
      | (go_at_call 32; (refine (refRight_c s A n c L m cm W0 HR0.out HU0.out).mono ?_); rintro _ w1 ⟨rfl, hb1⟩; rw [E1.out]; have HB1 := Lib.hid (HB0.out.trans (hb1.mono HB0.out.size)); have HR1 := Lib.hid (HR0.out.below hb1); have HP1 := Lib.hid (HP0.out.below hb1); have x2 : w1.cell? ⟨p, 2, none⟩ = some (.slice A n c) := HP1.out.nine.2.2.1; have x6 : w1.cell? ⟨p, 6, none⟩ = some (.int .u8 s.mouse) := HP1.out.nine.2.2.2.2.2.2.1; have x8 : w1.cell? ⟨p, 8, none⟩ = some (.slice L m cm) := HP1.out.nine.2.2.2.2.2.2.2.2; clear hb1))
    go_ret
    exact ⟨by rw [← EZ.out] <;> rfl, HB1.out⟩
end Go.Proofs.YtipofokinjkclaaDoor


/- What slices.Equal on cells answers. Conditions: cells that can be read. -/
namespace Go.Proofs.YtipofokinjkclaaDoor
open Go Go.RowKit

set_option maxRecDepth 100000 in
set_option maxHeartbeats 8000000 in
theorem equalC_c (A : Option Addr) (n c : Nat) (a : List CeD) (B : Option Addr) (m d : Nat) (b : List CeD) (w : World) (hn : a.length = n) (hra : RdC w A a) (hm : b.length = m) (hrb : RdC w B b) (hl : n ≤ 140737488355328) :
    Calls Tryd.prog 87 #[.slice A n c, .slice B m d] w fun e w' => e = .returned (.bool (sameC a b)) ∧ Below w.heap.size w w' := by
  obtain ⟨R, eR⟩ : ∃ R, sameC a b = R := ⟨_, rfl⟩
  rw [eR]
  by_cases hnm : n = m
  rotate_left
  · have HR : Hid (R = false) := Lib.hid (by rw [← eR]; exact sameC_len _ _ (by omega))
    have d0 : ((n : Int) != (m : Int)) = true := by rw [bne_iff_ne]; omega
    have d0' : (n != m) = true := by rw [bne_iff_ne]; omega
    clear eR hnm
    go_enter Tryd.func87, Tryd.ntmps87
    go_wp2_with (fail)
    go_ret
    exact ⟨by rw [HR.out] <;> rfl, Below.refl _ _⟩
  subst hnm
  have ER := Lib.hid eR
  have HN := Lib.hid hn
  have HM := Lib.hid hm
  have HA := Lib.hid hra
  have HB := Lib.hid hrb
  clear eR hn hm hra hrb
  go_enter Tryd.func87, Tryd.ntmps87
  go_wp2_with (fail)
  go_loopw [13] (fun i wr => ∃ k : Nat, k ≤ n ∧ i = .int .i64 k ∧ Hid (sameC a b = sameC (a.drop k) (b.drop k)) ∧ Hid (Below w.heap.size w wr)) (fun i _ => n - (intOf i).toNat)
  case atStart => exact ⟨0, Nat.zero_le _, rfl, Lib.hid rfl, Lib.hid (Below.refl _ _)⟩
  case round =>
    obtain ⟨k, hk, rfl, HG, HBW⟩ := hrel
    rcases Nat.lt_or_ge k n with hlt | hge
    · have hlt' : (k : Int) < (n : Int) := by omega
      have ha : k < a.length := by rw [HN.out]; exact hlt
      have hb : k < b.length := by rw [HM.out]; exact hlt
      obtain ⟨g, o, rfl, hg, hc⟩ := HA.out.cellsAt k ha
      obtain ⟨g2, o2, rfl, hg2, hc2⟩ := HB.out.cellsAt k hb
      have HC := Lib.hid (hc.below HBW.out hg)
      have HC2 := Lib.hid (hc2.below HBW.out hg2)
      have HGS : Hid (g < wr.heap.size) := Lib.hid (Nat.lt_of_lt_of_le hg HBW.out.size)
      have HGS2 : Hid (g2 < wr.heap.size) := Lib.hid (Nat.lt_of_lt_of_le hg2 HBW.out.size)
      obtain ⟨x, ex⟩ : ∃ x, x = a[k] := ⟨_, rfl⟩
      obtain ⟨y, ey⟩ : ∃ y, y = b[k] := ⟨_, rfl⟩
      obtain ⟨E, eE⟩ : ∃ E, cellEq x y = E := ⟨_, rfl⟩
      have hst : Hid (sameC a b = (E && sameC (a.drop (k + 1)) (b.drop (k + 1)))) := Lib.hid (by
        rw [HG.out, List.drop_eq_getElem_cons ha, List.drop_eq_getElem_cons hb, sameC, ← eE, ex, ey])
      rw [← ex] at HC
      rw [← ey] at HC2
      have EE := Lib.hid eE
      clear hc hc2 ex ey eE
      cases E
      · have HRR : Hid (R = false) := Lib.hid (by rw [← ER.out, hst.out]; rfl)
        go_wp2_with (fail)
        refine wp_region_rw 26 [Rl.eq (.slice (some ⟨g, o, none⟩) n c), Rl.eq (.int .i64 (k : Int)), Rl.eq (.pointer (some ⟨g, o + k * 6, none⟩)), Rl.eq (.agg #[.int .i32 x.r, .int .u8 x.w, .int .u32 x.fg, .int .u32 x.bg, .int .u8 x.at_, .int .u16 x.ln]), Rl.eq (.slice (some ⟨g2, o2, none⟩) n d), Rl.eq (.int .i64 (k : Int)), Rl.eq (.pointer (some ⟨g2, o2 + k * 6, none⟩)), Rl.eq (.agg #[.int .i32 y.r, .int .u8 y.w, .int .u32 y.fg, .int .u32 y.bg, .int .u8 y.at_, .int .u16 y.ln]), Rl.eq (.bool true)] [16, 17, 18, 19, 20, 21, 22, 23, 24] (by kernel_rfl) rfl (by kernel_rfl) (by kernel_rfl) ?_ ?_
        · repeat (first | exact AllFrom.nil_ | (refine AllFrom.cons_ (by rfl) ?_ ?_; rotate_left))
          · intro f w' gG hF hD
            have h0 : f 0 = .slice (some ⟨g, o, none⟩) n c := hF 0 (by kernel_rfl)
            rw [if_pos (wanted_none rfl)]
            clear hF hD
            exact gives_val (by simp only [execOp, evF, h0]; first | rfl | go_simp) ⟨Gr.refl _, rfl⟩
          · intro f w' gG hF hD
            have h5 : f 5 = .int .i64 (k : Int) := hF 5 (by kernel_rfl)
            rw [if_pos (wanted_none rfl)]
            clear hF hD
            exact gives_val (by simp only [execOp, evF, h5]; first | rfl | go_simp) ⟨Gr.refl _, rfl⟩
          · intro f w' gG hF hD
            have h16 : f 16 = .slice (some ⟨g, o, none⟩) n c := hD 0 16 (by kernel_rfl) rfl
            have h17 : f 17 = .int .i64 (k : Int) := hD 1 17 (by kernel_rfl) rfl
            rw [if_pos (wanted_none rfl)]
            clear hF hD
            exact gives_val (by simp only [execOp, evF, h16, h17]; first | rfl | go_simp) ⟨Gr.refl _, rfl⟩
          · intro f w' gG hF hD
            have h18 : f 18 = .pointer (some ⟨g, o + k * 6, none⟩) := hD 2 18 (by kernel_rfl) rfl
            rw [if_pos (wanted_none rfl)]
            clear hF hD
            obtain ⟨z0, z1, z2, z3, z4, z5⟩ := HC.out.below ((below_drewN (Below.refl wr.heap.size wr) 1).trans gG) HGS.out
            exact gives_val (by simp only [execOp, evF, h18]; go_simp) ⟨Gr.refl _, rfl⟩
          · intro f w' gG hF hD
            have h1 : f 1 = .slice (some ⟨g2, o2, none⟩) n d := hF 1 (by kernel_rfl)
            rw [if_pos (wanted_none rfl)]
            clear hF hD
            exact gives_val (by simp only [execOp, evF, h1]; first | rfl | go_simp) ⟨Gr.refl _, rfl⟩
          · intro f w' gG hF hD
            have h5 : f 5 = .int .i64 (k : Int) := hF 5 (by kernel_rfl)
            rw [if_pos (wanted_none rfl)]
            clear hF hD
            exact gives_val (by simp only [execOp, evF, h5]; first | rfl | go_simp) ⟨Gr.refl _, rfl⟩
          · intro f w' gG hF hD
            have h20 : f 20 = .slice (some ⟨g2, o2, none⟩) n d := hD 4 20 (by kernel_rfl) rfl
            have h21 : f 21 = .int .i64 (k : Int) := hD 5 21 (by kernel_rfl) rfl
            rw [if_pos (wanted_none rfl)]
            clear hF hD
            exact gives_val (by simp only [execOp, evF, h20, h21]; first | rfl | go_simp) ⟨Gr.refl _, rfl⟩
          · intro f w' gG hF hD
            have h22 : f 22 = .pointer (some ⟨g2, o2 + k * 6, none⟩) := hD 6 22 (by kernel_rfl) rfl
            rw [if_pos (wanted_none rfl)]
            clear hF hD
            obtain ⟨z0, z1, z2, z3, z4, z5⟩ := HC2.out.below ((below_drewN (Below.refl wr.heap.size wr) 1).trans gG) HGS2.out
            exact gives_val (by simp only [execOp, evF, h22]; go_simp) ⟨Gr.refl _, rfl⟩
          · intro f w' gG hF hD
            have h19 : f 19 = .agg #[.int .i32 x.r, .int .u8 x.w, .int .u32 x.fg, .int .u32 x.bg, .int .u8 x.at_, .int .u16 x.ln] := hD 3 19 (by kernel_rfl) rfl
            have h23 : f 23 = .agg #[.int .i32 y.r, .int .u8 y.w, .int .u32 y.fg, .int .u32 y.bg, .int .u8 y.at_, .int .u16 y.ln] := hD 7 23 (by kernel_rfl) rfl
            rw [if_pos (wanted_none rfl)]
            clear hF hD
            have hpe := run_cellNe x y
            unfold CeD.val at hpe
            exact gives_val (by simp only [execOp, evF, h19, h23, hpe, EE.out]; go_simp; exact EE.out) ⟨Gr.refl _, rfl⟩
        · intro f w' gG hD
          have h24 : f 24 = .bool true := hD 8 24 rfl
          simp only [putAll, List.setIfInBounds_toArray, List.set_cons_zero, List.set_cons_succ, h24]
          clear hD
          have HFIN : Hid (Below w.heap.size w w') := Lib.hid (HBW.out.trans (Below.mono ((below_drewN (Below.refl wr.heap.size wr) 1).trans gG) HBW.out.size))
          clear gG
          go_wp2_with (fail)
          go_ret
          exact ⟨by rw [HRR.out] <;> rfl, HFIN.out⟩
      · have hst2 : Hid (sameC a b = sameC (a.drop (k + 1)) (b.drop (k + 1))) := Lib.hid (by rw [hst.out]; rfl)
        go_wp2_with (fail)
        refine wp_region_rw 26 [Rl.eq (.slice (some ⟨g, o, none⟩) n c), Rl.eq (.int .i64 (k : Int)), Rl.eq (.pointer (some ⟨g, o + k * 6, none⟩)), Rl.eq (.agg #[.int .i32 x.r, .int .u8 x.w, .int .u32 x.fg, .int .u32 x.bg, .int .u8 x.at_, .int .u16 x.ln]), Rl.eq (.slice (some ⟨g2, o2, none⟩) n d), Rl.eq (.int .i64 (k : Int)), Rl.eq (.pointer (some ⟨g2, o2 + k * 6, none⟩)), Rl.eq (.agg #[.int .i32 y.r, .int .u8 y.w, .int .u32 y.fg, .int .u32 y.bg, .int .u8 y.at_, .int .u16 y.ln]), Rl.eq (.bool false)] [16, 17, 18, 19, 20, 21, 22, 23, 24] (by kernel_rfl) rfl (by kernel_rfl) (by kernel_rfl) ?_ ?_
        · repeat (first | exact AllFrom.nil_ | (refine AllFrom.cons_ (by rfl) ?_ ?_; rotate_left))
          · intro f w' gG hF hD
            have h0 : f 0 = .slice (some ⟨g, o, none⟩) n c := hF 0 (by kernel_rfl)
            rw [if_pos (wanted_none rfl)]
            clear hF hD
            exact gives_val (by simp only [execOp, evF, h0]; first | rfl | go_simp) ⟨Gr.refl _, rfl⟩
          · intro f w' gG hF hD
            have h5 : f 5 = .int .i64 (k : Int) := hF 5 (by kernel_rfl)
            rw [if_pos (wanted_none rfl)]
            clear hF hD
            exact gives_val (by simp only [execOp, evF, h5]; first | rfl | go_simp) ⟨Gr.refl _, rfl⟩
          · intro f w' gG hF hD
            have h16 : f 16 = .slice (some ⟨g, o, none⟩) n c := hD 0 16 (by kernel_rfl) rfl
            have h17 : f 17 = .int .i64 (k : Int) := hD 1 17 (by kernel_rfl) rfl
            rw [if_pos (wanted_none rfl)]
            clear hF hD
            exact gives_val (by simp only [execOp, evF, h16, h17]; first | rfl | go_simp) ⟨Gr.refl _, rfl⟩
          · intro f w' gG hF hD
            have h18 : f 18 = .pointer (some ⟨g, o + k * 6, none⟩) := hD 2 18 (by kernel_rfl) rfl
            rw [if_pos (wanted_none rfl)]
            clear hF hD
            obtain ⟨z0, z1, z2, z3, z4, z5⟩ := HC.out.below ((below_drewN (Below.refl wr.heap.size wr) 1).trans gG) HGS.out
            exact gives_val (by simp only [execOp, evF, h18]; go_simp) ⟨Gr.refl _, rfl⟩
          · intro f w' gG hF hD
            have h1 : f 1 = .slice (some ⟨g2, o2, none⟩) n d := hF 1 (by kernel_rfl)
            rw [if_pos (wanted_none rfl)]
            clear hF hD
            exact gives_val (by simp only [execOp, evF, h1]; first | rfl | go_simp) ⟨Gr.refl _, rfl⟩
          · intro f w' gG hF hD
            have h5 : f 5 = .int .i64 (k : Int) := hF 5 (by kernel_rfl)
            rw [if_pos (wanted_none rfl)]
            clear hF hD
            exact gives_val (by simp only [execOp, evF, h5]; first | rfl | go_simp) ⟨Gr.refl _, rfl⟩
          · intro f w' gG hF hD
            have h20 : f 20 = .slice (some ⟨g2, o2, none⟩) n d := hD 4 20 (by kernel_rfl) rfl
            have h21 : f 21 = .int .i64 (k : Int) := hD 5 21 (by kernel_rfl) rfl
            rw [if_pos (wanted_none rfl)]
            clear hF hD
            exact gives_val (by simp only [execOp, evF, h20, h21]; first | rfl | go_simp) ⟨Gr.refl _, rfl⟩
          · intro f w' gG hF hD
            have h22 : f 22 = .pointer (some ⟨g2, o2 + k * 6, none⟩) := hD 6 22 (by kernel_rfl) rfl
            rw [if_pos (wanted_none rfl)]
            clear hF hD
            obtain ⟨z0, z1, z2, z3, z4, z5⟩ := HC2.out.below ((below_drewN (Below.refl wr.heap.size wr) 1).trans gG) HGS2.out
            exact gives_val (by simp only [execOp, evF, h22]; go_simp) ⟨Gr.refl _, rfl⟩
          · intro f w' gG hF hD
            have h19 : f 19 = .agg #[.int .i32 x.r, .int .u8 x.w, .int .u32 x.fg, .int .u32 x.bg, .int .u8 x.at_, .int .u16 x.ln] := hD 3 19 (by kernel_rfl) rfl
            have h23 : f 23 = .agg #[.int .i32 y.r, .int .u8 y.w, .int .u32 y.fg, .int .u32 y.bg, .int .u8 y.at_, .int .u16 y.ln] := hD 7 23 (by kernel_rfl) rfl
            rw [if_pos (wanted_none rfl)]
            clear hF hD
            have hpe := run_cellNe x y
            unfold CeD.val at hpe
            exact gives_val (by simp only [execOp, evF, h19, h23, hpe, EE.out]; go_simp; exact EE.out) ⟨Gr.refl _, rfl⟩
        · intro f w' gG hD
          have h24 : f 24 = .bool false := hD 8 24 rfl
          simp only [putAll, List.setIfInBounds_toArray, List.set_cons_zero, List.set_cons_succ, h24]
          clear hD
          have HFIN : Hid (Below w.heap.size w w') := Lib.hid (HBW.out.trans (Below.mono ((below_drewN (Below.refl wr.heap.size wr) 1).trans gG) HBW.out.size))
          clear gG hst
          go_wp2_with (fail)
          go_roundw
          case rel => exact ⟨k + 1, by omega, by go_num, hst2, HFIN⟩
          case measure => simp [intOf]; omega
    · obtain rfl : n = k := by omega
      have hge' : ¬ ((n : Int) < (n : Int)) := by omega
      have HRR : Hid (R = true) := Lib.hid (by
        rw [← ER.out, HG.out, List.drop_of_length_le (by rw [HN.out]; omega), List.drop_of_length_le (by rw [HM.out]; omega)]; rfl)
      go_wp2_with (fail)
      go_ret
      exact ⟨by rw [HRR.out] <;> rfl, HBW.out⟩
end Go.Proofs.YtipofokinjkclaaDoor


/- What the reference's cellBytes answers: nine bytes of a cell. Conditions: numbers that fit. -/
namespace Go.Proofs.YtipofokinjkclaaDoor
open Go Go.RowKit Go.Lib

/-- A cell whose numbers are natural and fit in their bytes. -/
structure CeN (d : CeD) : Prop where
  r0 : 0 ≤ d.r
  r1 : d.r ≤ 1114111
  f0 : 0 ≤ d.fg
  f1 : d.fg ≤ 65535
  b0 : 0 ≤ d.bg
  b1 : d.bg ≤ 65535
  a0 : 0 ≤ d.at_
  a1 : d.at_ ≤ 255
theorem u64_small {n : Nat} (h : n ≤ 4294967295) : U64 n := by unfold U64; omega
end Go.Proofs.YtipofokinjkclaaDoor

