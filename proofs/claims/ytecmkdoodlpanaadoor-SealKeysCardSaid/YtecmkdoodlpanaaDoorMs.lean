/- What mac.Same answers: whether the bytes are the same. Conditions: lengths that fit. -/
import Derived.Test.YtecmkdoodlpanaaDoorMp
namespace Go.Proofs.YtecmkdoodlpanaaDoor
open Go Go.RowKit

theorem bv_xor2 (t : TypeId) (b c : UInt8) : binOp .xor t (bv b) (bv c) = pure (bv (b ^^^ c)) := bv_xorc t b c _ rfl
theorem bv_or2 (t : TypeId) (b c : UInt8) : binOp .or t (bv b) (bv c) = pure (bv (b ||| c)) := by
  have h1 := b.toNat_lt
  have h2 := c.toNat_lt
  simp only [bv, binOp, Op.intBits, ne_eq, not_true_eq_false, if_false]
  congr 2
  have h := u8_or_nat b.toNat c.toNat h1 h2
  rw [UInt8.toNat_or]
  rw [← h]
  rfl
theorem bv_eq0 (t : TypeId) (b : UInt8) : binOp .eql t (bv b) (.int .u8 0) = pure (.bool (decide (b = 0))) := by
  simp only [bv, binOp, Op.intCmp, ne_eq, not_true_eq_false, if_false]
  congr 2
  by_cases h : b = 0
  · subst h; rfl
  · rw [decide_eq_false h, beq_eq_false_iff_ne]
    intro e
    exact h (UInt8.toNat_inj.1 (by have : (0 : UInt8).toNat = 0 := rfl; omega))
theorem or_zero (d x y : UInt8) : (d ||| (x ^^^ y)) = 0 ↔ d = 0 ∧ x = y := by
  constructor
  · intro h
    have h1 : d.toBitVec ||| (x.toBitVec ^^^ y.toBitVec) = 0#8 := congrArg UInt8.toBitVec h
    rw [BitVec.or_eq_zero_iff] at h1
    refine ⟨UInt8.toBitVec_inj.1 h1.1, UInt8.toBitVec_inj.1 ?_⟩
    have h2 := h1.2
    exact BitVec.xor_eq_zero_iff.1 h2
  · rintro ⟨rfl, rfl⟩
    simp
theorem take_succ_iff {xs ys : List UInt8} {k : Nat} (hx : k < xs.length) (hy : k < ys.length) : xs.take (k + 1) = ys.take (k + 1) ↔ xs.take k = ys.take k ∧ xs[k] = ys[k] := by
  rw [List.take_succ_eq_append_getElem hx, List.take_succ_eq_append_getElem hy]
  constructor
  · intro h
    have h1 := List.append_inj h (by rw [List.length_take, List.length_take]; omega)
    exact ⟨h1.1, by simpa using h1.2⟩
  · rintro ⟨h1, h2⟩; rw [h1, h2]
theorem bv_guard (op : BinOp) (t : TypeId) (x y : Operand) (b : UInt8) (v : Value) : eqGuard op t x y (bv b) v = pure () := by
  unfold bv eqGuard
  cases op <;> rfl
attribute [local go_sem] bv_xor2 bv_or2 bv_eq0 bv_guard

set_option maxRecDepth 100000 in
set_option maxHeartbeats 1000000 in
theorem mSame_c (A1 A2 : Option Addr) (n1 n2 c1 c2 : Nat) (xs ys : List UInt8) (w : World) (l1 : xs.length = n1) (l2 : ys.length = n2) (h1 : Rd w A1 (xs.map bv)) (h2 : Rd w A2 (ys.map bv)) (m1 : n1 ≤ maxLen) :
    Calls Tryd.prog 30 #[.slice A1 n1 c1, .slice A2 n2 c2] w fun e w' => e = .returned (.bool (sameB xs ys)) ∧ ∃ q, w' = w.drewN q := by
  unfold maxLen at m1
  have L1 := Lib.hid l1; clear l1
  have L2 := Lib.hid l2; clear l2
  by_cases hne : n1 = n2
  · subst hne
    have hb : ((n1 : Int) != (n1 : Int)) = false := by simp
    go_enter Tryd.func30, Tryd.ntmps30
    go_wp2
    go_loopw [5, 14] (fun d i wr => ∃ (k : Nat) (D : UInt8), k ≤ n1 ∧ i = .int .i64 k ∧ d = bv D ∧ Hid (D = 0 ↔ xs.take k = ys.take k) ∧ ∃ q, wr = w.drewN q) (fun _ i _ => n1 - (intOf i).toNat)
    case atStart => exact ⟨0, 0, Nat.zero_le _, rfl, rfl, Lib.hid (by simp), 0, rfl⟩
    case round =>
      obtain ⟨k, D, hk, rfl, rfl, HD, q, rfl⟩ := hrel
      rcases Nat.lt_or_ge k n1 with hlt | hge
      · have hx : k < xs.length := by rw [L1.out]; exact hlt
        have hy : k < ys.length := by rw [L2.out]; exact hlt
        obtain ⟨b1, o1, rfl, _, g1⟩ := h1.addrB (by omega)
        obtain ⟨b2, o2, rfl, _, g2⟩ := h2.addrB (by omega)
        have q1 := g1 k hx
        have q2 := g2 k hy
        have e1 := take_succ_iff hx hy
        obtain ⟨x, ex⟩ : ∃ x, x = xs[k] := ⟨_, rfl⟩
        obtain ⟨y, ey⟩ : ∃ y, y = ys[k] := ⟨_, rfl⟩
        rw [← ex] at q1 e1
        rw [← ey] at q2 e1
        clear g1 g2
        have EX := Lib.hid ex; clear ex
        have EY := Lib.hid ey; clear ey
        have E1 := Lib.hid e1; clear e1
        clear EX EY hx hy
        have hlt' : (k : Int) < (n1 : Int) := by omega
        go_wp2
        go_quiet (fail)
        go_wp2
        go_roundw
        case rel => exact ⟨k + 1, D ||| (x ^^^ y), by omega, by go_num, rfl, Lib.hid (by rw [or_zero, E1.out, HD.out]), _, rfl⟩
        case measure => simp [intOf]; omega
      · obtain rfl : n1 = k := by omega
        have e1 : decide (D = 0) = sameB xs ys := by
          unfold sameB
          rw [Bool.eq_iff_iff, decide_eq_true_iff, decide_eq_true_iff, HD.out]
          rw [List.take_of_length_le (by rw [L1.out]; exact Nat.le_refl _), List.take_of_length_le (by rw [L2.out]; exact Nat.le_refl _)]
        have E1 := Lib.hid e1; clear e1
        go_wp2
        go_ret
        exact ⟨by rw [E1.out]; rfl, _, rfl⟩
  · have hb : ((n1 : Int) != (n2 : Int)) = true := by rw [bne_iff_ne]; omega
    have e1 : sameB xs ys = false := by
      unfold sameB
      refine decide_eq_false fun e => hne ?_
      rw [← L1.out, ← L2.out, e]
    rw [e1]
    clear e1
    go_enter Tryd.func30, Tryd.ntmps30
    go_wp2
    go_ret
    exact ⟨rfl, 0, rfl⟩
theorem sameB_refl (l : List UInt8) : sameB l l = true := decide_eq_true rfl
theorem mSame_q (A1 A2 : Option Addr) (n c1 c2 : Nat) (xs : List UInt8) (w : World) (l1 : xs.length = n) (h1 : Rd w A1 (xs.map bv)) (h2 : Rd w A2 (xs.map bv)) (m1 : n ≤ maxLen) (m : Nat) :
    Calls Tryd.prog 30 #[.slice A1 n c1, .slice A2 n c2] (w.drewN m) fun e w' => e = .returned (.bool true) ∧ ∃ k, w' = w.drewN k := by
  have h := mSame_c A1 A2 n n c1 c2 xs xs (w.drewN m) l1 l1 (h1.drewN _) (h2.drewN _) m1
  rw [sameB_refl] at h
  exact h.mono fun _ _ ⟨he, q', hw⟩ => ⟨he, m + q', by rw [hw, World.drewN_drewN]⟩

end Go.Proofs.YtecmkdoodlpanaaDoor
