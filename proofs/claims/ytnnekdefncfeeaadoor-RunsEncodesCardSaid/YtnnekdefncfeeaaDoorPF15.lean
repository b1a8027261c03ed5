/- Parts one behind the other: Plain law: how numbers are laid as bytes; no program in sight; What the layer wire's and its reference's Var answer: a number laid by as few bytes as can be; What the layer wire's and its reference's Num answer: a number by so many bytes, the highest first; Copy and Same of the first reference: bytes copied, bytes held against each other; Plain: which screens the first version can show, a cell's bytes, the diff by rows; Plain: to which screen a diff by rows leads; that a diff laid leads where it should; that a diff cut off leads nowhere; Plain: which screens the second version can show; the diff by runs; Plain law: what is read as a number is just what is laid for it, and the other way round; Plain: to which screen a diff by runs leads; that a diff laid leads where it should; Plain: the runs laid of two rows of cells are read back; the things of a diff by runs, and where they lead; Plain: a diff by runs laid leads where it should; What rows.Fits and the reference's Fits (16) answer; slices.Equal on cells. Conditions: as told at each. -/
import Derived.WalkKit
import Derived.Laws.BitsAllLaws
import Derived.Test.YtnnekdefncfeeaaDoorPF1
import Derived.Test.YtnnekdefncfeeaaDoorPF14

set_option linter.unusedVariables false
set_option linter.unusedSimpArgs false
/- Plain law: how numbers are laid as bytes; no program in sight. Conditions: none. -/
namespace Go.Proofs.YtnnekdefncfeeaaDoor
open Go Go.RowKit

/-- The lowest byte; a digit of 128 that is not the last. -/
def lo (n : Nat) : UInt8 := UInt8.ofNat n
def dig (n : Nat) : UInt8 := UInt8.ofNat (n % 128 + 128)
theorem lo_nat (n : Nat) : (lo n).toNat = n % 256 := by simp [lo]
theorem dig_nat (n : Nat) : (dig n).toNat = n % 128 + 128 := by
  simp only [dig, UInt8.toNat_ofNat']; omega
/-- A number by digits of 128, the lowest first. -/
def varL (n : Nat) : List UInt8 := if n < 128 then [lo n] else dig n :: varL (n / 128)
termination_by n
decreasing_by omega

theorem varL_lo {n : Nat} (h : n < 128) : varL n = [lo n] := by rw [varL, if_pos h]
theorem varL_hi {n : Nat} (h : 128 ≤ n) : varL n = dig n :: varL (n / 128) := by rw [varL, if_neg (by omega)]

theorem varL_len (k : Nat) : ∀ n, n < 128 ^ (k + 1) → (varL n).length ≤ k + 1 := by
  induction k with
  | zero => intro n h; rw [varL_lo (by simpa using h)]; simp
  | succ k ih =>
    intro n h
    by_cases h0 : n < 128
    · rw [varL_lo h0]; simp
    · rw [varL_hi (by omega), List.length_cons]
      have := ih (n / 128) (by rw [Nat.div_lt_iff_lt_mul (by decide)]; rw [Nat.pow_succ] at h; exact h)
      omega

def U64 (n : Nat) : Prop := n < 2 ^ 64
theorem U64.out {n : Nat} (h : U64 n) : n < 18446744073709551616 := h
theorem U64.le {n m : Nat} (h : U64 n) (hm : m ≤ n) : U64 m := Nat.lt_of_le_of_lt hm h
theorem varL_len10 {n : Nat} (h : U64 n) : (varL n).length ≤ 10 := varL_len 9 n (Nat.lt_trans h (by decide))

theorem or128 (n : Nat) : (UInt8.ofNat n ||| 128) = dig n := by
  unfold dig
  apply UInt8.toNat_inj.1
  have h : ∀ a : Fin 256, a.val ||| 128 = a.val % 128 + 128 := by decide +kernel
  have h2 := h ⟨n % 256, by omega⟩
  simp only [] at h2
  simp only [UInt8.toNat_or, UInt8.toNat_ofNat']
  show n % 256 ||| 128 = _
  rw [h2]
  omega

/-! ### Numbers read -/
inductive VR where
  | bad (e : Nat)
  | ok (n k : Nat)

/-- What bytes say as a number, the i-th of them first. -/
def varGo : List UInt8 → Nat → VR
  | [], _ => .bad 2
  | d :: l, i => if (i = 9 ∧ 1 < d.toNat) ∨ (0 < i ∧ d.toNat = 0) then .bad 3
    else if d.toNat < 128 then .ok d.toNat 1
    else match varGo l (i + 1) with
      | .bad e => .bad e
      | .ok n k => .ok (d.toNat % 128 + 128 * n) (k + 1)

def VR.after (x i : Nat) : VR → VR
  | .bad e => .bad e
  | .ok n k => .ok (x + 128 ^ i * n) (i + k)

theorem VR.after_zero (v : VR) : v.after 0 0 = v := by cases v <;> simp [VR.after]
theorem varGo_end {l : List UInt8} {i : Nat} (h : l.length ≤ i) (x : Nat) : (varGo (l.drop i) i).after x i = .bad 2 := by
  rw [List.drop_of_length_le h]; rfl
theorem varGo_form {l : List UInt8} {i : Nat} (h : i < l.length) (x : Nat) (hb : (i = 9 ∧ 1 < (l[i]).toNat) ∨ (0 < i ∧ (l[i]).toNat = 0)) : (varGo (l.drop i) i).after x i = .bad 3 := by
  rw [List.drop_eq_getElem_cons h, varGo, if_pos hb]; rfl
theorem varGo_last {l : List UInt8} {i : Nat} (h : i < l.length) (x : Nat) (hb : ¬ ((i = 9 ∧ 1 < (l[i]).toNat) ∨ (0 < i ∧ (l[i]).toNat = 0))) (hd : (l[i]).toNat < 128) :
    (varGo (l.drop i) i).after x i = .ok (x + 128 ^ i * (l[i]).toNat) (i + 1) := by
  rw [List.drop_eq_getElem_cons h, varGo, if_neg hb, if_pos hd]; rfl
theorem varGo_more {l : List UInt8} {i : Nat} (h : i < l.length) (x : Nat) (hb : ¬ ((i = 9 ∧ 1 < (l[i]).toNat) ∨ (0 < i ∧ (l[i]).toNat = 0))) (hd : 128 ≤ (l[i]).toNat) :
    (varGo (l.drop i) i).after x i = (varGo (l.drop (i + 1)) (i + 1)).after (x + 128 ^ i * ((l[i]).toNat % 128)) (i + 1) := by
  rw [List.drop_eq_getElem_cons h, varGo, if_neg hb, if_neg (by omega)]
  cases varGo (l.drop (i + 1)) (i + 1) with
  | bad e => rfl
  | ok n k =>
    simp only [VR.after, VR.ok.injEq]
    constructor
    · rw [Nat.mul_add, Nat.pow_succ, Nat.mul_assoc]; omega
    · omega

/-- The next digit is put by or. -/
theorem or_digit {x i d : Nat} (hx : x < 128 ^ i) : x ||| (d <<< (7 * i)) = x + 128 ^ i * d := by
  have e : 128 ^ i = 2 ^ (7 * i) := by rw [Nat.pow_mul]
  rw [e] at hx ⊢
  rw [Nat.shiftLeft_eq, Nat.or_comm, Nat.mul_comm d, ← Nat.two_pow_add_eq_or_of_lt hx]
  omega
theorem digit_lt {x i d : Nat} (hx : x < 128 ^ i) (hd : d < 128) : x + 128 ^ i * d < 128 ^ (i + 1) := by
  rw [Nat.pow_succ]
  have : 128 ^ i * d ≤ 128 ^ i * 127 := Nat.mul_le_mul_left _ (by omega)
  omega
theorem digit_u64 {x i d : Nat} (hi : i ≤ 9) (hx : x < 128 ^ i) (hd : d < 128) (h9 : i = 9 → d ≤ 1) : U64 (x + 128 ^ i * d) := by
  rcases Nat.lt_or_ge i 9 with h | h
  · exact Nat.lt_of_lt_of_le (digit_lt hx hd) (Nat.le_trans (Nat.pow_le_pow_right (by decide) (show i + 1 ≤ 9 by omega)) (by decide))
  · obtain rfl : i = 9 := by omega
    have := h9 rfl
    have h2 : 128 ^ 9 * d ≤ 128 ^ 9 * 1 := Nat.mul_le_mul_left _ this
    show _ < 2 ^ 64
    have h3 : (128 : Nat) ^ 9 + 128 ^ 9 * 1 ≤ 2 ^ 64 := by decide
    omega

def badDg (i d : Nat) : Prop := (i = 9 ∧ 1 < d) ∨ (0 < i ∧ d = 0)
theorem varGo_form' {l : List UInt8} {i d : Nat} (h : i < l.length) (hd : d = (l[i]).toNat) (x : Nat) (hb : badDg i d) : (varGo (l.drop i) i).after x i = .bad 3 := by
  subst hd; exact varGo_form h x hb
theorem varGo_last' {l : List UInt8} {i d : Nat} (h : i < l.length) (hd : d = (l[i]).toNat) (x : Nat) (hb : ¬ badDg i d) (h8 : d < 128) : (varGo (l.drop i) i).after x i = .ok (x + 128 ^ i * (d % 128)) (i + 1) := by
  subst hd; rw [varGo_last h x hb h8, Nat.mod_eq_of_lt h8]
theorem varGo_more' {l : List UInt8} {i d : Nat} (h : i < l.length) (hd : d = (l[i]).toNat) (x : Nat) (hb : ¬ badDg i d) (h8 : 128 ≤ d) : (varGo (l.drop i) i).after x i = (varGo (l.drop (i + 1)) (i + 1)).after (x + 128 ^ i * (d % 128)) (i + 1) := by
  subst hd; exact varGo_more h x hb h8

theorem and127 (d : Nat) (h : d < 256) : bits BinOp.and .u8 (d : Int) 127 = ((d : Int) % 128) := by
  rw [show (127 : Int) = ((127 : Nat) : Int) from rfl, u8_and_nat d 127 h (by decide)]
  rw [show (127 : Nat) = 2 ^ 7 - 1 from rfl, Nat.and_two_pow_sub_one_eq_mod]
  rfl
theorem or_walk {x k d : Nat} (hx : x < 128 ^ k) (hk : k ≤ 9) (h9 : k = 9 → d % 128 ≤ 1) (hu : U64 x) :
    bits BinOp.or .u64 (x : Int) (IntKind.u64.wrap ((d : Int) % 128 * 2 ^ (7 * k))) = ((x + 128 ^ k * (d % 128) : Nat) : Int) := by
  have h1 := digit_u64 (x := 0) hk (Nat.pow_pos (by decide)) (show d % 128 < 128 by omega) h9
  rw [Nat.zero_add] at h1
  have e : ((d : Int) % 128 * 2 ^ (7 * k)) = ((128 ^ k * (d % 128) : Nat) : Int) := by
    rw [show (128 : Nat) ^ k = 2 ^ (7 * k) by rw [Nat.pow_mul]]
    rw [Int.natCast_mul, Int.mul_comm]
    congr 1
  rw [e, IntWalk.u64_in _ ⟨by omega, by have := h1.out; omega⟩, u64_or_nat _ _ hu.out h1.out]
  congr 1
  have h2 := or_digit (d := d % 128) hx
  rw [Nat.shiftLeft_eq, Nat.mul_comm] at h2
  rw [show (128 : Nat) ^ k = 2 ^ (7 * k) by rw [Nat.pow_mul]] at h2 ⊢
  exact h2

/-- Bytes as a number, the highest first. -/
def beN (l : List UInt8) : Nat := l.foldl (fun a d => a * 256 + d.toNat) 0
theorem beN_snoc (l : List UInt8) (d : UInt8) : beN (l ++ [d]) = beN l * 256 + d.toNat := by simp [beN]
theorem beN_lt (l : List UInt8) : beN l < 256 ^ l.length := by
  rw [← List.reverse_reverse l]
  induction l.reverse with
  | nil => decide
  | cons d l ih =>
    rw [List.reverse_cons, beN_snoc, List.length_append, List.length_singleton, Nat.pow_succ]
    have := UInt8.toNat_lt d
    omega
theorem or_byte (x d : Nat) (hd : d < 256) : (x * 256) ||| d = x * 256 + d := by
  rw [show (256 : Nat) = 2 ^ 8 from rfl, Nat.mul_comm] at *
  rw [Nat.two_pow_add_eq_or_of_lt hd]
theorem or_walk8 {x d : Nat} (hx : U64 (x * 256)) (hd : d < 256) : bits BinOp.or .u64 ((x : Int) * 256) (d : Int) = ((x * 256 + d : Nat) : Int) := by
  have h1 := u64_or_nat (x * 256) d hx.out (by omega)
  rw [Int.natCast_mul] at h1
  rw [show ((256 : Nat) : Int) = 256 from rfl] at h1
  rw [h1, or_byte x d hd]

theorem varGo_bd : ∀ (l : List UInt8) (i n k : Nat), i ≤ 9 → varGo l i = .ok n k → n < 2 ^ (64 - 7 * i) ∧ k ≤ l.length ∧ 1 ≤ k
  | [], _, _, _, _, h => by cases h
  | d :: l, i, n, k, hi, h => by
    rw [varGo] at h
    by_cases hb : (i = 9 ∧ 1 < d.toNat) ∨ (0 < i ∧ d.toNat = 0)
    · rw [if_pos hb] at h; cases h
    · rw [if_neg hb] at h
      by_cases h8 : d.toNat < 128
      · rw [if_pos h8] at h
        injection h with h1 h2
        subst h1; subst h2
        refine ⟨?_, by simp, by omega⟩
        rcases Nat.lt_or_ge i 9 with h9 | h9
        · exact Nat.lt_of_lt_of_le h8 (Nat.le_trans (show 128 ≤ 2 ^ 7 by decide) (Nat.pow_le_pow_right (by decide) (by omega)))
        · obtain rfl : i = 9 := by omega
          have : ¬ 1 < d.toNat := fun h => hb (.inl ⟨rfl, h⟩)
          show d.toNat < 2
          omega
      · rw [if_neg h8] at h
        have hi8 : i < 9 := by
          rcases Nat.lt_or_ge i 9 with h9 | h9
          · exact h9
          · exact absurd (.inl ⟨by omega, by omega⟩) hb
        cases hv : varGo l (i + 1) with
        | bad e => rw [hv] at h; cases h
        | ok n' k' =>
          rw [hv] at h
          injection h with h1 h2
          obtain ⟨g1, g2, g3⟩ := varGo_bd l (i + 1) n' k' (by omega) hv
          subst h1; subst h2
          refine ⟨?_, by simp; omega, by omega⟩
          have e : 2 ^ (64 - 7 * i) = 128 * 2 ^ (64 - 7 * (i + 1)) := by
            rw [show (128 : Nat) = 2 ^ 7 from rfl, ← Nat.pow_add]; congr 1; omega
          rw [e]
          omega
theorem varGo_u64 {l : List UInt8} {n k : Nat} (h : varGo l 0 = .ok n k) : U64 n ∧ k ≤ l.length ∧ 1 ≤ k := varGo_bd l 0 n k (by decide) h
theorem varGo_err {l : List UInt8} {i e : Nat} (h : varGo l i = .bad e) : e = 2 ∨ e = 3 := by
  induction l generalizing i with
  | nil => injection h with h; exact .inl h.symm
  | cons d l ih =>
    rw [varGo] at h
    split at h
    · injection h with h; exact .inr h.symm
    · split at h
      · cases h
      · cases hv : varGo l (i + 1) with
        | bad e' => rw [hv] at h; injection h with h; subst h; exact ih hv
        | ok _ _ => rw [hv] at h; cases h

end Go.Proofs.YtnnekdefncfeeaaDoor


/- What the layer wire's and its reference's Var answer: a number laid by as few bytes as can be. Conditions: a number of 64 bits. -/
namespace Go.Proofs.YtnnekdefncfeeaaDoor
open Go Go.RowKit

theorem varStep_hi {n x : Nat} {bs : List UInt8} (h : varL n = bs ++ varL x) (hx : 128 ≤ x) : varL n = (bs ++ [dig x]) ++ varL (x / 128) := by
  rw [h, varL_hi hx, List.append_assoc]; rfl
theorem varStep_len {n x : Nat} {bs : List UInt8} (hn : U64 n) (h : varL n = bs ++ varL x) : bs.length ≤ 10 := by
  have h1 := varL_len10 hn
  rw [h, List.length_append] at h1
  omega

theorem bits_or128 (x : Nat) : Value.int .u8 (bits BinOp.or .u8 (((x : Nat) : Int) % 256) 128) = bv (dig x) := by
  have h := u8_or_nat (x % 256) 128 (by omega) (by omega)
  rw [show ((x % 256 : Nat) : Int) = (x : Int) % 256 by omega] at h
  have h2 := congrArg UInt8.toNat (or128 x)
  simp only [UInt8.toNat_or, UInt8.toNat_ofNat'] at h2
  rw [show (128 : UInt8).toNat = 128 from rfl] at h2
  unfold bv
  rw [show ((128 : Int)) = ((128 : Nat) : Int) from rfl, h, show (256 : Nat) = 2 ^ 8 from rfl, h2]

theorem int_lo {x : Int} {n : Nat} (h : x = ((n % 256 : Nat) : Int)) : Value.int .u8 x = bv (lo n) := by rw [h, bv, lo_nat]

set_option maxRecDepth 100000 in
set_option maxHeartbeats 400000 in
theorem Var_c (n : Nat) (w : World) (hn : U64 n) :
    Calls Tryd.prog 43 #[.int .u64 n] w fun e w' => ∃ v, e = .returned v ∧ OwnB w' w.heap.size v (varL n) ∧ Below w.heap.size w w' := by
  go_enter Tryd.func43, Tryd.ntmps43
  go_wp2
  go_loopw [0, 3] (fun m v wr => ∃ (x : Nat) (bs : List UInt8), m = .int .u64 x ∧ varL n = bs ++ varL x ∧ U64 x ∧ OwnB wr w.heap.size v bs ∧ Below w.heap.size w wr) (fun m v _ => (intOf m).toNat)
  case atStart => exact ⟨n, [], rfl, rfl, hn, Own.nil_ _ _ _, Below.refl _ _⟩
  case round =>
    obtain ⟨x, bs, rfl, hv, hx, hown, hb⟩ := hrel
    have hl := varStep_len hn hv
    have hz := hb.size
    have HV := Lib.hid hv; clear hv
    rcases Int.lt_or_le (x : Int) 128 with hlt | hle
    · go_wp2_with (first | (at_builtin; refine wpList_appB1 _ rfl (.tmp 14) (.tmp 17) rfl w.heap.size _ bs rfl hown _ rfl (lo x) ?_ (by omega) (by omega) ?_))
      · exact int_lo (by omega)
      · intro v' w' h1 h2 _
        go_wp2
        go_ret
        refine ⟨_, rfl, ?_, ?_⟩
        · rw [HV.out, varL_lo (by omega)]; exact h1
        · exact (hb.alloc (by omega) _).grown h2 (by simp; omega) (fun k hk => (hown.lt k hk).1)
    · go_wp2_with (first | (at_builtin; refine wpList_appB1 _ rfl (.tmp 6) (.tmp 10) rfl w.heap.size _ bs rfl hown _ rfl (dig x) ?_ (by omega) (by omega) ?_))
      · exact bits_or128 x
      · intro v' w' h1 h2 _
        go_wp2
        go_roundw
        case rel => exact ⟨x / 128, _, by go_num, varStep_hi HV.out (by omega), hx.le (by omega), h1, (hb.alloc (by omega) _).grown h2 (by simp; omega) (fun k hk => (hown.lt k hk).1)⟩
        case measure => simp [intOf]; omega

/-! ### The reference's Var: the same by division -/
end Go.Proofs.YtnnekdefncfeeaaDoor


/- What the layer wire's and its reference's Num answer: a number by so many bytes, the highest first. Conditions: a number of 64 bits. -/
namespace Go.Proofs.YtnnekdefncfeeaaDoor
open Go Go.RowKit

/-! ### Num -/
end Go.Proofs.YtnnekdefncfeeaaDoor


/- Copy and Same of the first reference: bytes copied, bytes held against each other. Conditions: lengths that fit. -/
namespace Go.Proofs.YtnnekdefncfeeaaDoor
open Go Go.RowKit

def sameB (xs ys : List UInt8) : Bool := decide (xs = ys)
/-! ### Copy -/
/-! ### Same -/
theorem take_succ_eq {xs ys : List UInt8} {k : Nat} (h : xs.take k = ys.take k) (hx : k < xs.length) (hy : k < ys.length) (he : xs[k] = ys[k]) : xs.take (k + 1) = ys.take (k + 1) := by
  rw [List.take_succ_eq_append_getElem hx, List.take_succ_eq_append_getElem hy, h, he]
theorem bv_bne {x y : UInt8} : (((x.toNat : Int) != (y.toNat : Int)) = true) ↔ x ≠ y := by
  rw [bne_iff_ne]
  constructor
  · rintro h rfl; exact h rfl
  · intro h e; exact h (UInt8.toNat_inj.1 (by omega))
theorem bv_bne_f {x y : UInt8} : (((x.toNat : Int) != (y.toNat : Int)) = false) ↔ x = y := by
  constructor
  · intro h
    apply Classical.byContradiction
    intro hn
    rw [bv_bne.2 hn] at h
    cases h
  · rintro rfl; simp

set_option maxRecDepth 100000 in
set_option maxHeartbeats 400000 in
theorem Same_c (A1 A2 : Option Addr) (n1 n2 c1 c2 : Nat) (xs ys : List UInt8) (w : World) (l1 : xs.length = n1) (l2 : ys.length = n2) (h1 : Rd w A1 (xs.map bv)) (h2 : Rd w A2 (ys.map bv)) (m1 : n1 ≤ maxLen) :
    Calls Tryd.prog 14 #[.slice A1 n1 c1, .slice A2 n2 c2] w fun e w' => e = .returned (.bool (sameB xs ys)) ∧ ∃ q, w' = w.drewN q := by
  unfold maxLen at m1
  by_cases hne : n1 = n2
  · subst hne
    rcases Nat.eq_zero_or_pos n1 with h0 | h0
    · subst h0
      have e1 : sameB xs ys = true := by rw [List.eq_nil_of_length_eq_zero l1, List.eq_nil_of_length_eq_zero l2]; rfl
      rw [e1]
      go_enter Tryd.func14, Tryd.ntmps14
      go_wp2
      go_loopw [13] (fun i wr => i = .int .i64 (0 : Nat) ∧ wr = w) (fun i _ => 0)
      case atStart => exact ⟨rfl, rfl⟩
      case round =>
        obtain ⟨rfl, rfl⟩ := hrel
        go_wp2
        go_ret
        exact ⟨rfl, 0, rfl⟩
    · obtain ⟨b1, o1, rfl, _, g1⟩ := h1.addrB (by omega)
      obtain ⟨b2, o2, rfl, _, g2⟩ := h2.addrB (by omega)
      have H1 : Hid (∀ k (h : k < xs.length), w.cell? ⟨b1, o1 + k, none⟩ = some (bv xs[k])) := g1
      have H2 : Hid (∀ k (h : k < ys.length), w.cell? ⟨b2, o2 + k, none⟩ = some (bv ys[k])) := g2
      clear g1 g2 h1 h2
      have L1 := Lib.hid l1; clear l1
      have L2 := Lib.hid l2; clear l2
      go_enter Tryd.func14, Tryd.ntmps14
      go_wp2
      go_loopw [13] (fun i wr => ∃ k : Nat, k ≤ n1 ∧ i = .int .i64 k ∧ (∃ q, wr = w.drewN q) ∧ xs.take k = ys.take k) (fun i _ => n1 - (intOf i).toNat)
      case atStart => exact ⟨0, Nat.zero_le _, rfl, ⟨0, rfl⟩, rfl⟩
      case round =>
        obtain ⟨k, hk, rfl, ⟨q, rfl⟩, ht⟩ := hrel
        have HT := Lib.hid ht; clear ht
        by_cases hlt : k < n1
        · have hx : k < xs.length := by rw [L1.out]; exact hlt
          have hy : k < ys.length := by rw [L2.out]; exact hlt
          obtain ⟨x, ex⟩ : ∃ x, x = xs[k] := ⟨_, rfl⟩
          obtain ⟨y, ey⟩ : ∃ y, y = ys[k] := ⟨_, rfl⟩
          have c1 : w.cell? ⟨b1, o1 + k, none⟩ = some (.int .u8 (x.toNat : Int)) := by rw [ex]; exact H1.out k hx
          have c2 : w.cell? ⟨b2, o2 + k, none⟩ = some (.int .u8 (y.toNat : Int)) := by rw [ey]; exact H2.out k hy
          have EX := Lib.hid ex; clear ex
          have EY := Lib.hid ey; clear ey
          by_cases hxy : x = y
          · have hb := bv_bne_f.2 hxy
            have HXY := Lib.hid hxy; clear hxy
            go_wp2
            go_quiet (fail)
            go_wp2
            go_roundw
            case rel => exact ⟨k + 1, by omega, by go_num, ⟨_, rfl⟩, take_succ_eq HT.out (by rw [L1.out]; exact hlt) (by rw [L2.out]; exact hlt) (by rw [← EX.out, ← EY.out]; exact HXY.out)⟩
            case measure => simp [intOf]; omega
          · have hb := bv_bne.2 hxy
            have HXY := Lib.hid hxy; clear hxy
            have e1 : sameB xs ys = false := by
              unfold sameB
              refine decide_eq_false fun e => HXY.out ?_
              subst e
              rw [EX.out, EY.out]
            go_wp2
            go_quiet (fail)
            go_wp2
            go_ret
            exact ⟨by rw [e1]; rfl, _, World.drewN_drewN _ _ _⟩
        · obtain rfl : k = n1 := by omega
          have e1 : sameB xs ys = true := by
            unfold sameB
            refine decide_eq_true ?_
            have := HT.out
            rw [List.take_of_length_le (by rw [L1.out]; exact Nat.le_refl _), List.take_of_length_le (by rw [L2.out]; exact Nat.le_refl _)] at this
            exact this
          go_wp2
          go_ret
          exact ⟨by rw [e1]; rfl, _, rfl⟩
  · have hb : ((n1 : Int) != (n2 : Int)) = true := by rw [bne_iff_ne]; omega
    have e1 : sameB xs ys = false := by
      unfold sameB
      refine decide_eq_false fun e => hne ?_
      rw [← l1, ← l2, e]
    rw [e1]
    clear e1
    have L1 := Lib.hid l1; clear l1
    have L2 := Lib.hid l2; clear l2
    go_enter Tryd.func14, Tryd.ntmps14
    go_wp2
    go_ret
    exact ⟨rfl, 0, rfl⟩
theorem sameB_true {xs ys : List UInt8} (h : xs = ys) : sameB xs ys = true := decide_eq_true h
theorem Same_t (A1 A2 : Option Addr) (n1 n2 c1 c2 : Nat) (xs : List UInt8) (w : World) (l1 : xs.length = n1) (l2 : xs.length = n2) (h1 : Rd w A1 (xs.map bv)) (h2 : Rd w A2 (xs.map bv)) (m1 : n1 ≤ maxLen) :
    Calls Tryd.prog 14 #[.slice A1 n1 c1, .slice A2 n2 c2] w fun e w' => e = .returned (.bool true) ∧ ∃ q, w' = w.drewN q := by
  have h := Same_c A1 A2 n1 n2 c1 c2 xs xs w l1 l2 h1 h2 m1
  rw [sameB_true rfl] at h
  exact h
end Go.Proofs.YtnnekdefncfeeaaDoor


/- Plain: which screens the first version can show, a cell's bytes, the diff by rows. Conditions: none. -/
namespace Go.Proofs.YtnnekdefncfeeaaDoor
open Go Go.RowKit Go.Lib

/-- Is there anything that the first version can't show? -/
def bad16 (d : CeD) : Bool := !(d.w == 0) || (decide (256 < d.fg) || decide (256 < d.bg))
def fit16 (s : ScD) : Bool := rightS s && ((s.links.length == 0) && ((s.mouse == 0) && !s.cells.any bad16))
/-- What a screen that fits is like. -/
structure Fit16 (s : ScD) (C R : Nat) : Prop where
  c : s.cols = (C : Int)
  r : s.rows = (R : Int)
  c1 : 1 ≤ C
  c2 : C ≤ 80
  r1 : 1 ≤ R
  r2 : R ≤ 24
  len : s.cells.length = C * R
  x0 : 0 ≤ s.x
  x1 : s.x < (C : Int)
  y0 : 0 ≤ s.y
  y1 : s.y < (R : Int)
  tl : s.title.size ≤ 64
  lk : s.links = []
  mo : s.mouse = 0
  ce : ∀ d ∈ s.cells, mayC d = true ∧ d.w = 0 ∧ d.fg ≤ 256 ∧ d.bg ≤ 256
theorem fit16_right {s : ScD} (h : fit16 s = true) : rightS s = true := by
  unfold fit16 at h
  rw [Bool.and_eq_true] at h
  exact h.1
theorem widI_pos {r : Int} (h : widI r = 1) : 32 ≤ r ∧ r ≤ 1114111 := by
  unfold widI at h
  split at h
  · cases h
  · rename_i h2
    simp only [Bool.or_eq_true, not_or] at h2
    have := h2.1
    simp only [badW, Bool.or_eq_true, not_or, decide_eq_true_eq] at this
    omega
theorem Fit16.rune {s : ScD} {C R : Nat} (h : Fit16 s C R) : ∀ d ∈ s.cells, 32 ≤ d.r ∧ d.r ≤ 1114111 := fun d hd => by
  obtain ⟨h1, h2, _⟩ := h.ce d hd
  simp only [mayC, Bool.and_eq_true, Bool.or_eq_true, decide_eq_true_eq] at h1
  refine widI_pos ?_
  rcases h1.2 with (⟨_, b⟩ | ⟨a, _⟩) | ⟨a, _⟩
  · exact b
  · omega
  · omega
end Go.Proofs.YtnnekdefncfeeaaDoor


/- Plain: to which screen a diff by rows leads; that a diff laid leads where it should; that a diff cut off leads nowhere. Conditions: none. -/
namespace Go.Proofs.YtnnekdefncfeeaaDoor
open Go Go.RowKit Go.Lib

/-- The cell of nine bytes. -/
def cellAt (l : List UInt8) : CeD := ⟨IntKind.i32.wrap (beN (l.take 4) : Int), 0, (beN ((l.drop 4).take 2) : Int), (beN ((l.drop 6).take 2) : Int), (beN ((l.drop 8).take 1) : Int), 0⟩
/-! ### What leads anywhere fits -/
/-! ### What holds of each cell -/
/-! ### Cut off -/
/-! ### What was laid is read -/
theorem lo_small {n : Nat} (h : n < 256) : (lo n).toNat = n := by rw [lo_nat]; omega
/-- A cell such as the first version tells it. -/
def Told16 (d : CeD) : Prop := 0 ≤ d.r ∧ d.r ≤ 1114111 ∧ d.w = 0 ∧ 0 ≤ d.fg ∧ d.fg ≤ 256 ∧ 0 ≤ d.bg ∧ d.bg ≤ 256 ∧ 0 ≤ d.at_ ∧ d.at_ ≤ 255 ∧ d.ln = 0 ∧ mayC d = true
theorem cellEq_eq {a b : CeD} (h : cellEq a b = true) : a = b := by
  obtain ⟨r, w, fg, bg, a_, ln⟩ := a
  obtain ⟨r', w', fg', bg', a', ln'⟩ := b
  simp only [cellEq, penEq, Bool.and_eq_true, decide_eq_true_eq] at h
  obtain ⟨h1, h2, ⟨⟨h3, h4⟩, h5⟩, h6⟩ := h
  rw [h1, h2, h3, h4, h5, h6]
theorem Fit16.told {s : ScD} {C R : Nat} (h : Fit16 s C R) (hf : fit16 s = true) (hc : ∀ d ∈ s.cells, (0 ≤ d.fg ∧ 0 ≤ d.bg) ∧ (0 ≤ d.at_ ∧ d.at_ ≤ 255) ∧ 0 ≤ d.ln) : ∀ d ∈ s.cells, Told16 d := fun d hd => by
  have h1 := h.rune d hd
  obtain ⟨g0, g1, g2, g3⟩ := h.ce d hd
  obtain ⟨⟨k1, k2⟩, ⟨k3, k4⟩, k5⟩ := hc d hd
  have hr := fit16_right hf
  unfold rightS at hr
  rw [Bool.and_eq_true, Bool.and_eq_true] at hr
  have hk := hr.2.1
  unfold lnkP at hk
  rw [h.lk] at hk
  simp only [Bool.and_eq_true, decide_eq_true_eq] at hk
  have := topGo_zero _ hk.2.2 d hd
  exact ⟨by omega, h1.2, g1, k1, g2, k2, g3, k3, k4, by omega, g0⟩
theorem titles_eq {a b : ByteArray} (h : a.toList = b.toList) : a = b := by
  rw [ByteArray.toList_eq, ByteArray.toList_eq] at h
  cases a; cases b
  congr 1
  exact Array.toList_inj.1 h
end Go.Proofs.YtnnekdefncfeeaaDoor


/- Plain: which screens the second version can show; the diff by runs. Conditions: none. -/
namespace Go.Proofs.YtnnekdefncfeeaaDoor
open Go Go.RowKit Go.Lib

/-- Is there anything that the second version can't show? -/
def bad17 (d : CeD) : Bool := !(d.w == 0)
def fit17 (s : ScD) : Bool := rightS s && ((s.links.length == 0) && !s.cells.any bad17)
/-- What a screen that fits is like. -/
structure Fit17 (s : ScD) (C R : Nat) : Prop where
  c : s.cols = (C : Int)
  r : s.rows = (R : Int)
  c1 : 1 ≤ C
  c2 : C ≤ 80
  r1 : 1 ≤ R
  r2 : R ≤ 24
  len : s.cells.length = C * R
  x0 : 0 ≤ s.x
  x1 : s.x < (C : Int)
  y0 : 0 ≤ s.y
  y1 : s.y < (R : Int)
  tl : s.title.size ≤ 64
  lk : s.links = []
  mo : s.mouse ≤ 2
  ce : ∀ d ∈ s.cells, mayC d = true ∧ d.w = 0
theorem fit17_right {s : ScD} (h : fit17 s = true) : rightS s = true := by
  unfold fit17 at h
  rw [Bool.and_eq_true] at h
  exact h.1
theorem fit17_of {s : ScD} (h : fit17 s = true) : ∃ C R, Fit17 s C R := by
  have hr := fit17_right h
  have hg := gridP_may (rightS_grid hr)
  have hg2 := rightS_grid hr
  unfold gridP at hg2
  simp only [Bool.and_eq_true, decide_eq_true_eq] at hg2
  obtain ⟨C, R, e1, e2, c1, c2, r1, r2⟩ := fitsI_nat hg2.1
  unfold rightS at hr
  simp only [Bool.and_eq_true, Bool.not_eq_true', decide_eq_false_iff_not] at hr
  obtain ⟨-, -, h3, h4, h5, h6, h7, h8, -, -⟩ := hr
  unfold fit17 at h
  simp only [Bool.and_eq_true, beq_iff_eq, Bool.not_eq_true', List.any_eq_false] at h
  obtain ⟨-, g1, g3⟩ := h
  refine ⟨C, R, e1, e2, c1, c2, r1, r2, ?_, by omega, by omega, by omega, by omega, by omega, List.eq_nil_of_length_eq_zero g1, by omega, fun d hd => ⟨hg d hd, ?_⟩⟩
  · have := hg2.2.1
    rw [e1, e2] at this
    have e : (s.cells.length : Int) = ((C * R : Nat) : Int) := by rw [this]; exact (Int.natCast_mul C R).symm
    exact_mod_cast e
  · have := g3 d hd
    simp only [bad17, Bool.not_eq_true, Bool.not_eq_false', beq_iff_eq] at this
    exact this
theorem Fit17.rune {s : ScD} {C R : Nat} (h : Fit17 s C R) : ∀ d ∈ s.cells, 32 ≤ d.r ∧ d.r ≤ 1114111 := fun d hd => by
  obtain ⟨h1, h2⟩ := h.ce d hd
  simp only [mayC, Bool.and_eq_true, Bool.or_eq_true, decide_eq_true_eq] at h1
  refine widI_pos ?_
  rcases h1.2 with (⟨_, b⟩ | ⟨a, _⟩) | ⟨a, _⟩
  · exact b
  · omega
  · omega

/-! ### The runs -/
/-- How far a run of pen p goes on. -/
def runEnd (p : CeD) : List CeD → List CeD → Nat
  | x :: a, y :: b => if cellEq x y then 0 else if penEq y p then runEnd p a b + 1 else 0
  | _, _ => 0
theorem runEnd_le (p : CeD) : ∀ (a b : List CeD), runEnd p a b ≤ b.length ∧ runEnd p a b ≤ a.length
  | [], [] => ⟨Nat.le_refl _, Nat.le_refl _⟩
  | [], _ :: _ => ⟨Nat.zero_le _, Nat.le_refl _⟩
  | _ :: _, [] => ⟨Nat.le_refl _, Nat.zero_le _⟩
  | x :: a, y :: b => by
    have ih := runEnd_le p a b
    rw [runEnd]
    split
    · exact ⟨Nat.zero_le _, Nat.zero_le _⟩
    · split
      · simp only [List.length_cons]; omega
      · exact ⟨Nat.zero_le _, Nat.zero_le _⟩
def runesB (l : List CeD) : List UInt8 := l.flatMap fun d => varL d.r.toNat
/-- A run's bytes: the gap ahead of it, how long, its pen, its runes. -/
def runB (g : Nat) (y : CeD) (l : List CeD) : List UInt8 := varL g ++ (varL l.length ++ (varL y.fg.toNat ++ (varL y.bg.toNat ++ (varL y.at_.toNat ++ runesB l))))
/-- The runs: how many, their bytes. -/
def runsG : Nat → Nat → List CeD → List CeD → Nat × List UInt8
  | 0, _, _, _ => (0, [])
  | f + 1, g, x :: a, y :: b => if cellEq x y then runsG f (g + 1) a b else ((runsG f 0 (a.drop (runEnd y a b)) (b.drop (runEnd y a b))).1 + 1, runB g y (y :: b.take (runEnd y a b)) ++ (runsG f 0 (a.drop (runEnd y a b)) (b.drop (runEnd y a b))).2)
  | _ + 1, _, _, _ => (0, [])
def runsD (a b : List CeD) : Nat × List UInt8 := runsG b.length 0 a b
/-- More fuel changes nothing. -/
theorem runsG_fuel : ∀ (f f' g : Nat) (a b : List CeD), b.length ≤ f → b.length ≤ f' → runsG f g a b = runsG f' g a b
  | 0, f', g, a, b, h, _ => by
    have hb : b = [] := List.eq_nil_of_length_eq_zero (by omega)
    subst hb
    cases f' with
    | zero => rfl
    | succ f' => cases a <;> rfl
  | f + 1, 0, g, a, b, _, h => by
    have hb : b = [] := List.eq_nil_of_length_eq_zero (by omega)
    subst hb
    cases a <;> rfl
  | f + 1, f' + 1, g, [], [], _, _ => rfl
  | f + 1, f' + 1, g, [], _ :: _, _, _ => rfl
  | f + 1, f' + 1, g, _ :: _, [], _, _ => rfl
  | f + 1, f' + 1, g, x :: a, y :: b, h, h' => by
    rw [List.length_cons] at h h'
    rw [runsG, runsG, runsG_fuel f f' (g + 1) a b (by omega) (by omega), runsG_fuel f f' 0 (a.drop (runEnd y a b)) (b.drop (runEnd y a b)) (by rw [List.length_drop]; omega) (by rw [List.length_drop]; omega)]
theorem runsG_self : ∀ (f g : Nat) (a : List CeD), runsG f g a a = (0, [])
  | 0, _, _ => rfl
  | f + 1, g, [] => rfl
  | f + 1, g, x :: a => by
    rw [runsG, if_pos (by simp [cellEq, penEq])]
    exact runsG_self f (g + 1) a

/-! ### The diff -/
def curB (base b : ScD) : List UInt8 := if (b.x != base.x || (b.y != base.y || b.hid != base.hid)) then 2 :: (varL b.x.toNat ++ (varL b.y.toNat ++ [if b.hid then 1 else 0])) else []
def titB17 (base b : ScD) : List UInt8 := if (b.title.toList == base.title.toList) then [] else 3 :: (varL b.title.size ++ strB b.title)
def mouB (base b : ScD) : List UInt8 := if b.mouse != base.mouse then [4, lo b.mouse.toNat] else []
def celB (base b : ScD) : List UInt8 := if (runsD base.cells b.cells).1 = 0 then [] else 5 :: (varL (runsD base.cells b.cells).1 ++ (runsD base.cells b.cells).2)
def lay17 (base b : ScD) : List UInt8 := curB base b ++ (titB17 base b ++ (mouB base b ++ celB base b))
def full17 (b : ScD) : List UInt8 × Nat := if fit17 b then (1 :: (varL b.cols.toNat ++ varL b.rows.toNat) ++ lay17 (blankS b.cols b.rows) b, 0) else ([], 1)
def enc17 (a b : ScD) : List UInt8 × Nat := if fit17 a && fit17 b then (if (a.cols == b.cols) && (a.rows == b.rows) then (lay17 a b, 0) else full17 b) else ([], 1)
/-- From a screen to itself no byte is told. -/
theorem lay17_self (a : ScD) : lay17 a a = [] := by
  unfold lay17 curB titB17 mouB celB runsD
  rw [runsG_self]
  simp
theorem still17 {a : ScD} (h : fit17 a = true) : enc17 a a = ([], 0) := by
  unfold enc17
  rw [h]
  simp [lay17_self]
end Go.Proofs.YtnnekdefncfeeaaDoor


/- Plain law: what is read as a number is just what is laid for it, and the other way round. Conditions: none. -/
namespace Go.Proofs.YtnnekdefncfeeaaDoor
open Go Go.RowKit

theorem varGo_back : ∀ (m : Nat) (n i : Nat) (more : List UInt8), n ≤ m → i ≤ 9 → n < 2 ^ (64 - 7 * i) → (0 < i → 0 < n) → varGo (varL n ++ more) i = .ok n (varL n).length := by
  intro m
  induction m using Nat.strongRecOn with
  | _ m ih =>
    intro n i more hnm hi hn hz
    by_cases h8 : n < 128
    · rw [varL_lo h8]
      show varGo (lo n :: more) i = _
      rw [varGo, if_neg, if_pos (by rw [lo_nat]; omega), lo_nat, Nat.mod_eq_of_lt (by omega)]
      · rfl
      · rw [lo_nat]
        rintro (⟨h1, h2⟩ | ⟨h1, h2⟩)
        · subst h1
          have : n < 2 ^ 1 := hn
          omega
        · have := hz h1; omega
    · rw [varL_hi (by omega)]
      have hi9 : i < 9 := by
        rcases Nat.lt_or_ge i 9 with h | h
        · exact h
        · obtain rfl : i = 9 := by omega
          have : n < 2 ^ 1 := hn
          omega
      have e : 2 ^ (64 - 7 * i) = 128 * 2 ^ (64 - 7 * (i + 1)) := by
        rw [show (128 : Nat) = 2 ^ 7 from rfl, ← Nat.pow_add]; congr 1; omega
      have h1 := ih (n / 128) (by omega) (n / 128) (i + 1) more (Nat.le_refl _) (by omega) (by omega) (by omega)
      show varGo (dig n :: (varL (n / 128) ++ more)) i = _
      rw [varGo, if_neg, if_neg (by rw [dig_nat]; omega), h1, dig_nat]
      · simp only [List.length_cons, VR.ok.injEq, and_true]
        omega
      · rw [dig_nat]
        rintro (⟨h1, h2⟩ | ⟨h1, h2⟩) <;> omega

theorem varGo_laid {n : Nat} (h : U64 n) (more : List UInt8) : varGo (varL n ++ more) 0 = .ok n (varL n).length := varGo_back n n 0 more (Nat.le_refl _) (by decide) h (fun h => absurd h (by decide))

end Go.Proofs.YtnnekdefncfeeaaDoor


/- Plain: to which screen a diff by runs leads; that a diff laid leads where it should. Conditions: none. -/
namespace Go.Proofs.YtnnekdefncfeeaaDoor
open Go Go.RowKit Go.Lib

/-- A number that is at most so great: the error, the number, the bytes behind it. -/
def num17 (most : Int) (l : List UInt8) : Nat × Nat × List UInt8 :=
  match varGo l 0 with
  | .bad e => (e, 0, l)
  | .ok n k => if most < 0 ∨ most < (n : Int) then (3, 0, l.drop k) else (0, n, l.drop k)
theorem num17_laid {n : Nat} {most : Int} (hn : U64 n) (h0 : 0 ≤ most) (h : (n : Int) ≤ most) (l : List UInt8) : num17 most (varL n ++ l) = (0, n, l) := by
  unfold num17
  rw [varGo_laid hn]
  simp only []
  rw [if_neg (by omega), List.drop_left]
/-- So many runes of one pen, from the place p on. -/
def runesP (fg bg at_ : Int) : Nat → Nat → List UInt8 → List CeD → Nat × List UInt8 × List CeD
  | 0, _, l, cs => (0, l, cs)
  | n + 1, p, l, cs =>
    if (num17 1114111 l).1 = 0 then
      (if mayC ⟨(num17 1114111 l).2.1, 0, fg, bg, at_, 0⟩ then runesP fg bg at_ n (p + 1) (num17 1114111 l).2.2 (cs.set p ⟨(num17 1114111 l).2.1, 0, fg, bg, at_, 0⟩) else (3, (num17 1114111 l).2.2, cs))
    else ((num17 1114111 l).1, (num17 1114111 l).2.2, cs)
/-- One run from the place at on: the error, the place behind it, the bytes, the cells. -/
def oneP (at_ : Nat) (l : List UInt8) (cs : List CeD) : Nat × Nat × List UInt8 × List CeD :=
  let a := num17 ((cs.length : Int) - (at_ : Int)) l
  if a.1 ≠ 0 then (a.1, 0, l, cs) else
  let k := num17 ((cs.length : Int) - ((at_ + a.2.1 : Nat) : Int)) a.2.2
  if k.1 ≠ 0 then (k.1, 0, l, cs) else
  if k.2.1 = 0 then (3, 0, l, cs) else
  let f := num17 4294967295 k.2.2
  if f.1 ≠ 0 then (f.1, 0, l, cs) else
  if colMay (f.2.1 : Int) = false then (3, 0, l, cs) else
  let b := num17 4294967295 f.2.2
  if b.1 ≠ 0 then (b.1, 0, l, cs) else
  if colMay (b.2.1 : Int) = false then (3, 0, l, cs) else
  let t := num17 255 b.2.2
  if t.1 ≠ 0 then (t.1, 0, l, cs) else
  let r := runesP (f.2.1 : Int) (b.2.1 : Int) (t.2.1 : Int) k.2.1 (at_ + a.2.1) t.2.2 cs
  (r.1, at_ + a.2.1 + k.2.1, r.2.1, r.2.2)
def runsP : Nat → Nat → List UInt8 → List CeD → Nat × List UInt8 × List CeD
  | 0, _, l, cs => (0, l, cs)
  | n + 1, at_, l, cs => if (oneP at_ l cs).1 = 0 then runsP n (oneP at_ l cs).2.1 (oneP at_ l cs).2.2.1 (oneP at_ l cs).2.2.2 else ((oneP at_ l cs).1, (oneP at_ l cs).2.2.1, (oneP at_ l cs).2.2.2)
/-- A cell such as the second version tells it. -/
def Told17 (d : CeD) : Prop := 0 ≤ d.r ∧ d.r ≤ 1114111 ∧ d.w = 0 ∧ 0 ≤ d.fg ∧ d.fg ≤ 4294967295 ∧ 0 ≤ d.bg ∧ d.bg ≤ 4294967295 ∧ 0 ≤ d.at_ ∧ d.at_ ≤ 255 ∧ d.ln = 0 ∧ mayC d = true
theorem u64_le {n : Nat} (h : n ≤ 4294967295) : U64 n := by unfold U64; omega
theorem Told17.cell {d y : CeD} (h : Told17 d) (hp : penEq d y = true) : (⟨(d.r.toNat : Int), 0, y.fg, y.bg, y.at_, 0⟩ : CeD) = d := by
  obtain ⟨r, w, fg, bg, a, ln⟩ := d
  obtain ⟨h1, h2, h3, _, _, _, _, _, _, h10, _⟩ := h
  simp only at h1 h3 h10
  simp only [penEq, Bool.and_eq_true, decide_eq_true_eq] at hp
  obtain ⟨⟨⟨e1, e2⟩, e3⟩, e4⟩ := hp
  rw [Int.toNat_of_nonneg h1, ← e1, ← e2, ← e3, h3, h10]
theorem runesP_told (y : CeD) : ∀ (ds : List CeD) (p : Nat) (l : List UInt8) (cs : List CeD), (∀ d ∈ ds, Told17 d ∧ penEq d y = true) → p + ds.length ≤ cs.length → runesP y.fg y.bg y.at_ ds.length p (runesB ds ++ l) cs = (0, l, cs.take p ++ (ds ++ cs.drop (p + ds.length)))
  | [], p, l, cs, _, _ => by
    show (0, l, cs) = _
    rw [List.length_nil, Nat.add_zero, List.nil_append, List.take_append_drop]
  | d :: ds, p, l, cs, h, hl => by
    obtain ⟨hd, hp⟩ := h d (List.mem_cons_self ..)
    have e : runesB (d :: ds) ++ l = varL d.r.toNat ++ (runesB ds ++ l) := by
      show (varL d.r.toNat ++ runesB ds) ++ l = _
      rw [List.append_assoc]
    have hn := num17_laid (n := d.r.toNat) (most := 1114111) (u64_le (by have := hd.2.1; omega)) (by decide) (by have := hd.1; have := hd.2.1; omega) (runesB ds ++ l)
    rw [List.length_cons] at hl
    rw [e, List.length_cons, runesP, hn]
    simp only [if_true]
    rw [hd.cell hp, if_pos hd.2.2.2.2.2.2.2.2.2.2, runesP_told y ds (p + 1) l (cs.set p d) (fun x hx => h x (List.mem_cons_of_mem _ hx)) (by rw [List.length_set]; omega)]
    have e1 : (cs.set p d).take (p + 1) = cs.take p ++ [d] := by
      rw [List.take_set, List.take_add_one, List.getElem?_eq_getElem (by omega)]
      simp only [Option.toList_some]
      rw [List.set_append_right _ _ (by rw [List.length_take]; omega), List.length_take, Nat.min_eq_left (by omega), Nat.sub_self]
      rfl
    have e2 : (cs.set p d).drop (p + 1 + ds.length) = cs.drop (p + (ds.length + 1)) := by
      rw [List.drop_set_of_lt (by omega)]
      congr 1
      omega
    rw [e1, e2, List.append_assoc]
    rfl
theorem penMay_cols {d : CeD} (h : mayC d = true) : colMay d.fg = true ∧ colMay d.bg = true := by
  unfold mayC penMay at h
  simp only [Bool.and_eq_true] at h
  exact h.1
/-- One run laid is read. -/
theorem oneP_told {y : CeD} {ds : List CeD} {g at_ : Nat} {l : List UInt8} {cs : List CeD} (hy : Told17 y) (hds : ∀ d ∈ y :: ds, Told17 d ∧ penEq d y = true) (hl : at_ + g + (ds.length + 1) ≤ cs.length) (hc : cs.length ≤ 60000) :
    oneP at_ (runB g y (y :: ds) ++ l) cs = (0, at_ + g + (ds.length + 1), l, cs.take (at_ + g) ++ ((y :: ds) ++ cs.drop (at_ + g + (ds.length + 1)))) := by
  obtain ⟨h1, h2, h3, h4, h5, h6, h7, h8, h9, h10, h11⟩ := hy
  obtain ⟨k1, k2⟩ := penMay_cols h11
  have e : runB g y (y :: ds) ++ l = varL g ++ (varL (ds.length + 1) ++ (varL y.fg.toNat ++ (varL y.bg.toNat ++ (varL y.at_.toNat ++ (runesB (y :: ds) ++ l))))) := by
    unfold runB
    simp only [List.append_assoc, List.length_cons]
  have a1 := num17_laid (n := g) (most := (cs.length : Int) - (at_ : Int)) (u64_le (by omega)) (by omega) (by omega) (varL (ds.length + 1) ++ (varL y.fg.toNat ++ (varL y.bg.toNat ++ (varL y.at_.toNat ++ (runesB (y :: ds) ++ l)))))
  have a2 := num17_laid (n := ds.length + 1) (most := (cs.length : Int) - ((at_ + g : Nat) : Int)) (u64_le (by omega)) (by omega) (by omega) (varL y.fg.toNat ++ (varL y.bg.toNat ++ (varL y.at_.toNat ++ (runesB (y :: ds) ++ l))))
  have a3 := num17_laid (n := y.fg.toNat) (most := 4294967295) (u64_le (by omega)) (by decide) (by omega) (varL y.bg.toNat ++ (varL y.at_.toNat ++ (runesB (y :: ds) ++ l)))
  have a4 := num17_laid (n := y.bg.toNat) (most := 4294967295) (u64_le (by omega)) (by decide) (by omega) (varL y.at_.toNat ++ (runesB (y :: ds) ++ l))
  have a5 := num17_laid (n := y.at_.toNat) (most := 255) (u64_le (by omega)) (by decide) (by omega) (runesB (y :: ds) ++ l)
  have a6 := runesP_told y (y :: ds) (at_ + g) l cs hds (by rw [List.length_cons]; omega)
  rw [List.length_cons] at a6
  have z1 : ((y.fg.toNat : Nat) : Int) = y.fg := Int.toNat_of_nonneg h4
  have z2 : ((y.bg.toNat : Nat) : Int) = y.bg := Int.toNat_of_nonneg h6
  have z3 : ((y.at_.toNat : Nat) : Int) = y.at_ := Int.toNat_of_nonneg h8
  unfold oneP
  rw [e, a1]
  simp only [ne_eq, not_true_eq_false, if_false]
  rw [a2]
  simp only [not_true_eq_false, if_false]
  rw [if_neg (by omega), a3]
  simp only [not_true_eq_false, if_false]
  rw [z1, k1]
  simp only [Bool.true_eq_false, if_false]
  rw [a4]
  simp only [not_true_eq_false, if_false]
  rw [z2, k2]
  simp only [Bool.true_eq_false, if_false]
  rw [a5]
  simp only [not_true_eq_false, if_false]
  rw [z3, a6]
end Go.Proofs.YtnnekdefncfeeaaDoor


/- Plain: the runs laid of two rows of cells are read back; the things of a diff by runs, and where they lead. Conditions: none. -/
namespace Go.Proofs.YtnnekdefncfeeaaDoor
open Go Go.RowKit Go.Lib

theorem penEq_self (d : CeD) : penEq d d = true := by simp [penEq]
theorem runEnd_pen (p : CeD) : ∀ (a b : List CeD), ∀ d ∈ b.take (runEnd p a b), penEq d p = true
  | [], [], d, h => by simp at h
  | [], _ :: _, d, h => by rw [show runEnd p [] _ = 0 from rfl] at h; simp at h
  | _ :: _, [], d, h => by simp at h
  | x :: a, y :: b, d, h => by
    rw [runEnd] at h
    split at h
    · simp at h
    · split at h
      · rename_i hp
        rw [List.take_succ_cons] at h
        rcases List.mem_cons.1 h with rfl | h
        · exact hp
        · exact runEnd_pen p a b d h
      · simp at h
theorem runsP_told : ∀ (f g : Nat) (pre a b : List CeD) (at_ : Nat) (l : List UInt8), a.length = b.length → b.length ≤ f → at_ + g = pre.length → (∀ d ∈ b, Told17 d) → pre.length + b.length ≤ 60000 →
    runsP (runsG f g a b).1 at_ ((runsG f g a b).2 ++ l) (pre ++ a) = (0, l, pre ++ b)
  | 0, g, pre, a, b, at_, l, he, hf, hp, ht, hl => by
    have hb : b = [] := List.eq_nil_of_length_eq_zero (by omega)
    subst hb
    have ha : a = [] := List.eq_nil_of_length_eq_zero (by simpa using he)
    subst ha
    rfl
  | f + 1, g, pre, [], [], at_, l, he, hf, hp, ht, hl => rfl
  | f + 1, g, pre, [], _ :: _, at_, l, he, hf, hp, ht, hl => by simp at he
  | f + 1, g, pre, _ :: _, [], at_, l, he, hf, hp, ht, hl => by simp at he
  | f + 1, g, pre, x :: a, y :: b, at_, l, he, hf, hp, ht, hl => by
    simp only [List.length_cons] at he hf hl
    rw [runsG]
    split
    · rename_i hxy
      have hxy2 := cellEq_eq hxy
      subst hxy2
      have ih := runsP_told f (g + 1) (pre ++ [x]) a b at_ l (by omega) (by omega) (by rw [List.length_append, List.length_singleton]; omega) (fun d hd => ht d (List.mem_cons_of_mem _ hd)) (by rw [List.length_append, List.length_singleton]; omega)
      simpa using ih
    · obtain ⟨k, ek⟩ : ∃ k, runEnd y a b = k := ⟨_, rfl⟩
      have hk := runEnd_le y a b
      have hpn := runEnd_pen y a b
      rw [ek] at hk hpn
      rw [ek]
      have hdl : (b.take k).length = k := by rw [List.length_take]; omega
      have h1 := oneP_told (y := y) (ds := b.take k) (g := g) (at_ := at_) (l := (runsG f 0 (a.drop k) (b.drop k)).2 ++ l) (cs := pre ++ x :: a) (ht y (List.mem_cons_self ..)) (fun d hd => by
        rcases List.mem_cons.1 hd with rfl | hd
        · exact ⟨ht _ (List.mem_cons_self ..), penEq_self _⟩
        · exact ⟨ht d (List.mem_cons_of_mem _ (List.mem_of_mem_take hd)), hpn d hd⟩) (by rw [hdl, List.length_append, List.length_cons]; omega) (by rw [List.length_append, List.length_cons]; omega)
      rw [hdl] at h1
      have e1 : (pre ++ x :: a).take (at_ + g) = pre := by rw [hp, List.take_left]
      have e2 : (pre ++ x :: a).drop (at_ + g + (k + 1)) = a.drop k := by
        rw [hp, ← List.drop_drop, List.drop_left, List.drop_succ_cons]
      rw [e1, e2] at h1
      simp only [List.append_assoc]
      rw [runsP, h1]
      simp only [if_true]
      have ih := runsP_told f 0 (pre ++ (y :: b.take k)) (a.drop k) (b.drop k) (at_ + g + (k + 1)) l (by rw [List.length_drop, List.length_drop]; omega) (by rw [List.length_drop]; omega) (by rw [List.length_append, List.length_cons, hdl]; omega) (fun d hd => ht d (List.mem_cons_of_mem _ (List.mem_of_mem_drop hd))) (by rw [List.length_append, List.length_cons, hdl, List.length_drop]; omega)
      rw [List.append_assoc, List.append_assoc] at ih
      rw [ih]
      simp
theorem runsD_told {a b : List CeD} (l : List UInt8) (he : a.length = b.length) (ht : ∀ d ∈ b, Told17 d) (hl : b.length ≤ 60000) : runsP (runsD a b).1 0 ((runsD a b).2 ++ l) a = (0, l, b) := by
  have h := runsP_told b.length 0 [] a b 0 l he (Nat.le_refl _) rfl ht (by rw [List.length_nil]; omega)
  simpa [runsD] using h
theorem runsG_same : ∀ (f g : Nat) (a b : List CeD), a.length = b.length → b.length ≤ f → (runsG f g a b).1 = 0 → a = b
  | 0, g, a, b, he, hf, _ => by
    have hb : b = [] := List.eq_nil_of_length_eq_zero (by omega)
    subst hb
    exact List.eq_nil_of_length_eq_zero (by simpa using he)
  | f + 1, g, [], [], he, hf, _ => rfl
  | f + 1, g, [], _ :: _, he, hf, _ => by simp at he
  | f + 1, g, _ :: _, [], he, hf, _ => by simp at he
  | f + 1, g, x :: a, y :: b, he, hf, h => by
    simp only [List.length_cons] at he hf
    rw [runsG] at h
    split at h
    · rename_i hxy
      rw [cellEq_eq hxy, runsG_same f (g + 1) a b (by omega) (by omega) h]
    · simp at h

/-! ### The things of a diff -/
/-- One thing of kind k: the error, the screen, the bytes behind it. -/
def thing17 (k : Nat) (s : ScD) (l : List UInt8) : Nat × ScD × List UInt8 :=
  match k with
  | 1 => match varGo l 0 with
    | .bad e => (e, s, l)
    | .ok c kc => match varGo (l.drop kc) 0 with
      | .bad e => (e, s, l)
      | .ok r kr => if c < 1 ∨ 80 < c ∨ r < 1 ∨ 24 < r then (3, s, l) else (0, blankS (c : Int) (r : Int), (l.drop kc).drop kr)
  | 2 =>
    let x := num17 (s.cols - 1) l
    if x.1 ≠ 0 then (x.1, s, l) else
    let y := num17 (s.rows - 1) x.2.2
    if y.1 ≠ 0 then (y.1, s, l) else
    let h := num17 1 y.2.2
    if h.1 ≠ 0 then (h.1, s, l) else (0, ⟨s.cols, s.rows, s.cells, (x.2.1 : Int), (y.2.1 : Int), h.2.1 == 1, s.mouse, s.title, s.links⟩, h.2.2)
  | 3 => match varGo l 0 with
    | .bad e => (e, s, l)
    | .ok n kn => if 64 < n then (4, s, l) else if (l.drop kn).length < n then (2, s, l) else (0, ⟨s.cols, s.rows, s.cells, s.x, s.y, s.hid, s.mouse, ⟨((l.drop kn).take n).toArray⟩, s.links⟩, (l.drop kn).drop n)
  | 4 =>
    let m := num17 2 l
    if m.1 ≠ 0 then (m.1, s, l) else (0, ⟨s.cols, s.rows, s.cells, s.x, s.y, s.hid, (m.2.1 : Int), s.title, s.links⟩, m.2.2)
  | _ => match varGo l 0 with
    | .bad e => (e, s, l)
    | .ok n kn => if n = 0 then (3, s, l) else ((runsP n 0 (l.drop kn) s.cells).1, ⟨s.cols, s.rows, (runsP n 0 (l.drop kn) s.cells).2.2, s.x, s.y, s.hid, s.mouse, s.title, s.links⟩, (runsP n 0 (l.drop kn) s.cells).2.1)
/-- The things by rising kinds: the error, the screen. -/
def things17 : Nat → Nat → ScD → List UInt8 → Nat × ScD
  | 0, _, s, _ => (3, s)
  | _ + 1, _, s, [] => (0, s)
  | f + 1, last, s, k :: l => if k.toNat ≤ last ∨ 5 < k.toNat then (3, s) else if (thing17 k.toNat s l).1 = 0 then things17 f k.toNat (thing17 k.toNat s l).2.1 (thing17 k.toNat s l).2.2 else ((thing17 k.toNat s l).1, (thing17 k.toNat s l).2.1)
/-- At most five things come: kinds rise. -/
def app17 (a : ScD) (d : List UInt8) : ScD × Nat :=
  if fit17 a then (if (things17 6 0 a d).1 = 0 then (if fit17 (things17 6 0 a d).2 then ((things17 6 0 a d).2, 0) else (scZ, 3)) else (scZ, (things17 6 0 a d).1)) else (scZ, 1)
theorem app17_fit {a t : ScD} {d : List UInt8} (h : app17 a d = (t, 0)) : fit17 t = true := by
  unfold app17 at h
  split at h
  · split at h
    · split at h
      · rename_i h2; injection h with h1 h3; rw [← h1]; exact h2
      · injection h with h1 h3; cases h3
    · rename_i h2; injection h with h1 h3; exact absurd h3 h2
  · injection h with h1 h3; cases h3
theorem app17_none {a : ScD} {d : List UInt8} (h : (app17 a d).2 ≠ 0) : (app17 a d).1 = scZ := by
  unfold app17 at h ⊢
  split
  · rename_i h1
    rw [if_pos h1] at h
    split
    · rename_i h2
      rw [if_pos h2] at h
      split
      · rename_i h3; rw [if_pos h3] at h; exact absurd rfl h
      · rfl
    · rfl
  · rfl
/-- Without a byte each screen that fits stays as it is. -/
theorem app17_nil {a : ScD} (h : fit17 a = true) : app17 a [] = (a, 0) := by
  unfold app17
  rw [if_pos h, things17]
  simp only [if_true]
  rw [if_pos h]
end Go.Proofs.YtnnekdefncfeeaaDoor


/- Plain: a diff by runs laid leads where it should. Conditions: none. -/
namespace Go.Proofs.YtnnekdefncfeeaaDoor
open Go Go.RowKit Go.Lib

theorem runsG_count : ∀ (f g : Nat) (a b : List CeD), (runsG f g a b).1 ≤ b.length
  | 0, _, _, _ => Nat.zero_le _
  | f + 1, g, [], [] => Nat.zero_le _
  | f + 1, g, [], _ :: _ => Nat.zero_le _
  | f + 1, g, _ :: _, [] => Nat.zero_le _
  | f + 1, g, x :: a, y :: b => by
    rw [runsG]
    split
    · have := runsG_count f (g + 1) a b
      rw [List.length_cons]; omega
    · have := runsG_count f 0 (a.drop (runEnd y a b)) (b.drop (runEnd y a b))
      rw [List.length_drop] at this
      show _ + 1 ≤ _
      rw [List.length_cons]; omega
theorem things17_go {f last k : Nat} {s s' : ScD} {l l' : List UInt8} (h1 : last < k) (h5 : k ≤ 5) (h : thing17 k s l = (0, s', l')) : things17 (f + 1) last s (lo k :: l) = things17 f k s' l' := by
  have e : (lo k).toNat = k := lo_small (by omega)
  rw [things17, e, if_neg (by omega), h]
  rfl
/-- The cursor's thing. -/
theorem cur_step {base b : ScD} {C R : Nat} (hb : Fit17 b C R) (hc : base.cols = (C : Int)) (hr : base.rows = (R : Int)) (f : Nat) (last : Nat) (hl : last < 2) (l : List UInt8) :
    ∃ f' last', f ≤ f' ∧ last' < 3 ∧ things17 (f + 1) last base (curB base b ++ l) = things17 f' last' ⟨base.cols, base.rows, base.cells, b.x, b.y, b.hid, base.mouse, base.title, base.links⟩ l := by
  unfold curB
  split
  · refine ⟨f, 2, Nat.le_refl _, by omega, ?_⟩
    have x0 := hb.x0; have x1 := hb.x1; have y0 := hb.y0; have y1 := hb.y1; have c2 := hb.c2; have r2 := hb.r2
    have e : (2 :: (varL b.x.toNat ++ (varL b.y.toNat ++ [if b.hid then 1 else 0]))) ++ l = lo 2 :: (varL b.x.toNat ++ (varL b.y.toNat ++ (varL (if b.hid then 1 else 0) ++ l))) := by
      have hv : varL (if b.hid then 1 else 0) = [if b.hid then 1 else 0] := by
        cases b.hid
        · exact varL_lo (n := 0) (by decide)
        · exact varL_lo (n := 1) (by decide)
      rw [hv]
      simp only [List.cons_append, List.append_assoc]
      rfl
    have a1 := num17_laid (n := b.x.toNat) (most := base.cols - 1) (u64_le (by omega)) (by omega) (by omega) (varL b.y.toNat ++ (varL (if b.hid then 1 else 0) ++ l))
    have a2 := num17_laid (n := b.y.toNat) (most := base.rows - 1) (u64_le (by omega)) (by omega) (by omega) (varL (if b.hid then 1 else 0) ++ l)
    have a3 := num17_laid (n := if b.hid then 1 else 0) (most := 1) (u64_le (by split <;> omega)) (by decide) (by split <;> decide) l
    rw [e]
    refine things17_go hl (by decide) ?_
    unfold thing17
    simp only []
    rw [a1]
    simp only [ne_eq, not_true_eq_false, if_false]
    rw [a2]
    simp only [not_true_eq_false, if_false]
    rw [a3]
    simp only [not_true_eq_false, if_false]
    rw [Int.toNat_of_nonneg x0, Int.toNat_of_nonneg y0]
    cases b.hid <;> rfl
  · rename_i h
    simp only [Bool.or_eq_true, bne_iff_ne, not_or, ne_eq, Decidable.not_not] at h
    obtain ⟨h1, h2, h3⟩ := h
    refine ⟨f + 1, last, by omega, by omega, ?_⟩
    rw [h1, h2, h3]
    rfl
/-- The title's thing. -/
theorem tit_step {base b : ScD} {C R : Nat} (hb : Fit17 b C R) (f : Nat) (last : Nat) (hl : last < 3) (x y : Int) (hid : Bool) (l : List UInt8) :
    ∃ f' last', f ≤ f' ∧ last' < 4 ∧ things17 (f + 1) last ⟨base.cols, base.rows, base.cells, x, y, hid, base.mouse, base.title, base.links⟩ (titB17 base b ++ l) = things17 f' last' ⟨base.cols, base.rows, base.cells, x, y, hid, base.mouse, b.title, base.links⟩ l := by
  unfold titB17
  split
  · rename_i h
    rw [beq_iff_eq] at h
    exact ⟨f + 1, last, by omega, by omega, by rw [titles_eq h]; rfl⟩
  · refine ⟨f, 3, Nat.le_refl _, by omega, ?_⟩
    have tl := hb.tl
    have e : (3 :: (varL b.title.size ++ strB b.title)) ++ l = lo 3 :: (varL b.title.size ++ (strB b.title ++ l)) := by
      simp only [List.cons_append, List.append_assoc]; rfl
    rw [e]
    refine things17_go hl (by decide) ?_
    unfold thing17
    simp only []
    rw [varGo_laid (u64_le (by omega))]
    simp only []
    rw [if_neg (by omega), List.drop_left, if_neg (by rw [List.length_append, strB_len]; omega), List.take_append_of_le_length (by rw [strB_len]; exact Nat.le_refl _), List.take_of_length_le (by rw [strB_len]; exact Nat.le_refl _), List.drop_append_of_le_length (by rw [strB_len]; exact Nat.le_refl _), List.drop_of_length_le (by rw [strB_len]; exact Nat.le_refl _)]
    rfl
/-- The mouse's thing. -/
theorem mou_step {base b : ScD} {C R : Nat} (hb : Fit17 b C R) (hm : 0 ≤ b.mouse) (f : Nat) (last : Nat) (hl : last < 4) (x y : Int) (hid : Bool) (t : ByteArray) (l : List UInt8) :
    ∃ f' last', f ≤ f' ∧ last' < 5 ∧ things17 (f + 1) last ⟨base.cols, base.rows, base.cells, x, y, hid, base.mouse, t, base.links⟩ (mouB base b ++ l) = things17 f' last' ⟨base.cols, base.rows, base.cells, x, y, hid, b.mouse, t, base.links⟩ l := by
  unfold mouB
  split
  · refine ⟨f, 4, Nat.le_refl _, by omega, ?_⟩
    have m2 := hb.mo
    have a1 := num17_laid (n := b.mouse.toNat) (most := 2) (u64_le (by omega)) (by decide) (by omega) l
    rw [varL_lo (by omega)] at a1
    have e : [4, lo b.mouse.toNat] ++ l = lo 4 :: ([lo b.mouse.toNat] ++ l) := rfl
    rw [e]
    refine things17_go hl (by decide) ?_
    unfold thing17
    simp only []
    rw [a1]
    simp only [ne_eq, not_true_eq_false, if_false]
    rw [Int.toNat_of_nonneg hm]
  · rename_i h
    simp only [bne_iff_ne, ne_eq, Decidable.not_not] at h
    exact ⟨f + 1, last, by omega, by omega, by rw [h]; rfl⟩
/-- The cells' thing. -/
theorem cel_step {base b : ScD} {C R : Nat} (hb : Fit17 b C R) (hl2 : base.cells.length = b.cells.length) (ht : ∀ d ∈ b.cells, Told17 d) (f : Nat) (last : Nat) (hl : last < 5) (x y m : Int) (hid : Bool) (t : ByteArray) :
    things17 (f + 2) last ⟨base.cols, base.rows, base.cells, x, y, hid, m, t, base.links⟩ (celB base b) = (0, ⟨base.cols, base.rows, b.cells, x, y, hid, m, t, base.links⟩) := by
  have hn : b.cells.length ≤ 1920 := by rw [hb.len]; exact Nat.mul_le_mul hb.c2 hb.r2
  unfold celB
  split
  · rename_i h
    rw [runsG_same b.cells.length 0 base.cells b.cells hl2 (Nat.le_refl _) h]
    rfl
  · rename_i h
    have hc := runsG_count b.cells.length 0 base.cells b.cells
    have e : (5 : UInt8) :: (varL (runsD base.cells b.cells).1 ++ (runsD base.cells b.cells).2) = lo 5 :: (varL (runsD base.cells b.cells).1 ++ (runsD base.cells b.cells).2) := rfl
    have hr := runsD_told (a := base.cells) (b := b.cells) [] hl2 ht (by omega)
    rw [List.append_nil] at hr
    rw [e, things17_go (s' := ⟨base.cols, base.rows, b.cells, x, y, hid, m, t, base.links⟩) (l' := []) hl (by decide) ?_]
    · rfl
    · unfold thing17
      simp only []
      rw [varGo_laid (u64_le (by unfold runsD; omega))]
      simp only []
      rw [if_neg h, List.drop_left, hr]
theorem things17_lay {base b : ScD} {C R : Nat} (hb : Fit17 b C R) (hm : 0 ≤ b.mouse) (hc : base.cols = (C : Int)) (hr : base.rows = (R : Int)) (hk : base.links = []) (hl2 : base.cells.length = C * R) (ht : ∀ d ∈ b.cells, Told17 d) (f last : Nat) (hf : 5 ≤ f) (hl : last < 2) : things17 f last base (lay17 base b) = (0, b) := by
  obtain ⟨f5, rfl⟩ : ∃ g, f = g + 5 := ⟨f - 5, by omega⟩
  unfold lay17
  obtain ⟨f1, l1, g1, k1, e1⟩ := cur_step hb hc hr (f5 + 4) last hl (titB17 base b ++ (mouB base b ++ celB base b))
  rw [e1]
  obtain ⟨q1, rfl⟩ : ∃ g, f1 = g + 1 := ⟨f1 - 1, by omega⟩
  obtain ⟨f2, l2, g2, k2, e2⟩ := tit_step (base := base) hb q1 l1 k1 b.x b.y b.hid (mouB base b ++ celB base b)
  rw [e2]
  obtain ⟨q2, rfl⟩ : ∃ g, f2 = g + 1 := ⟨f2 - 1, by omega⟩
  obtain ⟨f3, l3, g3, k3, e3⟩ := mou_step (base := base) hb hm q2 l2 k2 b.x b.y b.hid b.title (celB base b)
  rw [e3]
  obtain ⟨q3, rfl⟩ : ∃ g, f3 = g + 2 := ⟨f3 - 2, by omega⟩
  rw [cel_step hb (by rw [hl2, hb.len]) ht q3 l3 k3 b.x b.y b.mouse b.hid b.title, hc, hr, hk, ← hb.c, ← hb.r, ← hb.lk]
theorem Fit17.told {s : ScD} {C R : Nat} (h : Fit17 s C R) (hf : fit17 s = true) (hc : ∀ d ∈ s.cells, (0 ≤ d.fg ∧ d.fg ≤ 4294967295) ∧ (0 ≤ d.bg ∧ d.bg ≤ 4294967295) ∧ (0 ≤ d.at_ ∧ d.at_ ≤ 255) ∧ 0 ≤ d.ln) : ∀ d ∈ s.cells, Told17 d := fun d hd => by
  have h1 := h.rune d hd
  obtain ⟨g0, g1⟩ := h.ce d hd
  obtain ⟨⟨k1, k1'⟩, ⟨k2, k2'⟩, ⟨k3, k4⟩, k5⟩ := hc d hd
  have hr := fit17_right hf
  unfold rightS at hr
  rw [Bool.and_eq_true, Bool.and_eq_true] at hr
  have hk := hr.2.1
  unfold lnkP at hk
  rw [h.lk] at hk
  simp only [Bool.and_eq_true, decide_eq_true_eq] at hk
  have := topGo_zero _ hk.2.2 d hd
  exact ⟨by omega, h1.2, g1, k1, k1', k2, k2', k3, k4, by omega, g0⟩
theorem there17_full {a b : ScD} (ha : fit17 a = true) (hb : fit17 b = true) (hm : 0 ≤ b.mouse) (ht : ∀ d ∈ b.cells, Told17 d) : (full17 b).2 = 0 ∧ app17 a (full17 b).1 = (b, 0) := by
  obtain ⟨C, R, hf⟩ := fit17_of hb
  have c1 := hf.c1; have c2 := hf.c2; have r1 := hf.r1; have r2 := hf.r2
  unfold full17
  rw [if_pos hb]
  refine ⟨rfl, ?_⟩
  have hbl : (blankS (C : Int) (R : Int)).cells.length = C * R := by
    show (List.replicate ((C : Int) * (R : Int)).toNat blankD).length = C * R
    rw [List.length_replicate, ← Int.natCast_mul]; rfl
  have h := things17_lay (base := blankS (C : Int) (R : Int)) hf hm rfl rfl rfl hbl ht 5 1 (by decide) (by decide)
  have e : (1 :: (varL b.cols.toNat ++ varL b.rows.toNat) ++ lay17 (blankS b.cols b.rows) b) = lo 1 :: (varL C ++ (varL R ++ lay17 (blankS (C : Int) (R : Int)) b)) := by
    rw [hf.c, hf.r, Int.toNat_natCast, Int.toNat_natCast]
    simp only [List.cons_append, List.append_assoc]; rfl
  have h2 : things17 6 0 a (lo 1 :: (varL C ++ (varL R ++ lay17 (blankS (C : Int) (R : Int)) b))) = (0, b) := by
    rw [things17_go (s' := blankS (C : Int) (R : Int)) (l' := lay17 (blankS (C : Int) (R : Int)) b) (by decide) (by decide) ?_, h]
    unfold thing17
    simp only []
    rw [varGo_laid (u64_le (by omega))]
    simp only []
    rw [List.drop_left, varGo_laid (u64_le (by omega))]
    simp only []
    rw [if_neg (by omega), List.drop_left]
  rw [e]
  unfold app17
  rw [if_pos ha, h2]
  simp only [if_true]
  rw [if_pos hb]
theorem there17_enc {a b : ScD} (ha : fit17 a = true) (hb : fit17 b = true) (hm : 0 ≤ b.mouse) (ht : ∀ d ∈ b.cells, Told17 d) : (enc17 a b).2 = 0 ∧ app17 a (enc17 a b).1 = (b, 0) := by
  unfold enc17
  rw [ha, hb]
  simp only [Bool.and_self, if_true]
  by_cases hd : ((a.cols == b.cols) && (a.rows == b.rows)) = true
  · rw [if_pos hd]
    refine ⟨rfl, ?_⟩
    rw [Bool.and_eq_true, beq_iff_eq, beq_iff_eq] at hd
    obtain ⟨C, R, hf⟩ := fit17_of hb
    obtain ⟨C', R', hfa⟩ := fit17_of ha
    have e1 : C' = C := by have h1 := hfa.c; have h2 := hf.c; omega
    have e2 : R' = R := by have h1 := hfa.r; have h2 := hf.r; omega
    subst e1 e2
    unfold app17
    rw [if_pos ha, things17_lay hf hm hfa.c hfa.r hfa.lk hfa.len ht 6 0 (by decide) (by decide)]
    simp only [if_true]
    rw [if_pos hb]
  · rw [if_neg hd]
    exact there17_full ha hb hm ht
end Go.Proofs.YtnnekdefncfeeaaDoor


/- What rows.Fits and the reference's Fits (16) answer; slices.Equal on cells. Conditions: parts that can be read; the tables of widths lie where they were laid. -/
namespace Go.Proofs.YtnnekdefncfeeaaDoor
open Go Go.RowKit Go.Lib

end Go.Proofs.YtnnekdefncfeeaaDoor

