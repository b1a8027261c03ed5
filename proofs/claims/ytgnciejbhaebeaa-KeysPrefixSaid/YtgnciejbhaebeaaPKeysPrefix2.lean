/- Parts one behind the other: Plain law: how numbers are laid as bytes; no program in sight; What the layer wire's and its reference's Var answer: a number laid by as few bytes as can be; What the layer wire's and its reference's Num answer: a number by so many bytes, the highest first; What keys.numbers.put and the reference's lay answer: a number in a version's way; and which event may not be; The bytes of a batch of events, in plain words; What an inbox and a nil queue answer; A region that draws its order, by a relation for each operation: what each yields is told by a relation that stays true as the world grows; then whatever the order, all relations hold at the end; A region that draws its order and whose last operation waits for all others: the others by relations, the last one at the end; A region that draws its order and ends in a tail that waits for all others: the others by relations, the tail one behind the other. Conditions: as told at each. -/
import Derived.WalkKit
import Derived.Laws.BitsAllLaws
import Derived.Test.YtgnciejbhaebeaaPKeysPrefix1
import Derived.Laws.Tables
import Derived.Laws.Rows

/- Plain law: how numbers are laid as bytes; no program in sight. Conditions: none. -/
namespace Go.Proofs.Ytgnciejbhaebeaa
open Go Go.RowKit

/-- The lowest byte; a digit of 128 that is not the last. -/
def lo (n : Nat) : UInt8 := UInt8.ofNat n
def dig (n : Nat) : UInt8 := UInt8.ofNat (n % 128 + 128)
theorem lo_nat (n : Nat) : (lo n).toNat = n % 256 := by simp [lo]
theorem dig_nat (n : Nat) : (dig n).toNat = n % 128 + 128 := by
  simp only [dig, UInt8.toNat_ofNat']; omega
/-- A number by digits of 128, the lowest first. -/
def varL (n : Nat) : List UInt8 := if n < 128 then [lo n] else dig n :: varL (n / 128)
termination_by n
decreasing_by omega

theorem varL_lo {n : Nat} (h : n < 128) : varL n = [lo n] := by rw [varL, if_pos h]
theorem varL_hi {n : Nat} (h : 128 ≤ n) : varL n = dig n :: varL (n / 128) := by rw [varL, if_neg (by omega)]

theorem varL_len (k : Nat) : ∀ n, n < 128 ^ (k + 1) → (varL n).length ≤ k + 1 := by
  induction k with
  | zero => intro n h; rw [varL_lo (by simpa using h)]; simp
  | succ k ih =>
    intro n h
    by_cases h0 : n < 128
    · rw [varL_lo h0]; simp
    · rw [varL_hi (by omega), List.length_cons]
      have := ih (n / 128) (by rw [Nat.div_lt_iff_lt_mul (by decide)]; rw [Nat.pow_succ] at h; exact h)
      omega

def U64 (n : Nat) : Prop := n < 2 ^ 64
theorem U64.out {n : Nat} (h : U64 n) : n < 18446744073709551616 := h
theorem U64.le {n m : Nat} (h : U64 n) (hm : m ≤ n) : U64 m := Nat.lt_of_le_of_lt hm h
theorem u64_div {x : Nat} (h : U64 x) (d : Nat) : IntKind.u64.wrap ((x : Int) / (d : Int)) = (x : Int) / (d : Int) := by
  have h1 := h.out
  have h2 : x / d ≤ x := Nat.div_le_self _ _
  rw [← Int.natCast_ediv]
  generalize x / d = q at *
  simp only [IntKind.wrap_u64]; omega
theorem varL_len10 {n : Nat} (h : U64 n) : (varL n).length ≤ 10 := varL_len 9 n (Nat.lt_trans h (by decide))

theorem or128 (n : Nat) : (UInt8.ofNat n ||| 128) = dig n := by
  unfold dig
  apply UInt8.toNat_inj.1
  have h : ∀ a : Fin 256, a.val ||| 128 = a.val % 128 + 128 := by decide +kernel
  have h2 := h ⟨n % 256, by omega⟩
  simp only [] at h2
  simp only [UInt8.toNat_or, UInt8.toNat_ofNat']
  show n % 256 ||| 128 = _
  rw [h2]
  omega

/-- The size lowest bytes, the highest of them first. -/
def numL (n size : Nat) : List UInt8 := (List.range size).map fun i => lo (n / 256 ^ (size - 1 - i))
theorem numL_length (n size : Nat) : (numL n size).length = size := by simp [numL]

/-! ### Numbers read -/
inductive VR where
  | bad (e : Nat)
  | ok (n k : Nat)

/-- What bytes say as a number, the i-th of them first. -/
def varGo : List UInt8 → Nat → VR
  | [], _ => .bad 2
  | d :: l, i => if (i = 9 ∧ 1 < d.toNat) ∨ (0 < i ∧ d.toNat = 0) then .bad 3
    else if d.toNat < 128 then .ok d.toNat 1
    else match varGo l (i + 1) with
      | .bad e => .bad e
      | .ok n k => .ok (d.toNat % 128 + 128 * n) (k + 1)

def VR.after (x i : Nat) : VR → VR
  | .bad e => .bad e
  | .ok n k => .ok (x + 128 ^ i * n) (i + k)

theorem VR.after_zero (v : VR) : v.after 0 0 = v := by cases v <;> simp [VR.after]
theorem varGo_end {l : List UInt8} {i : Nat} (h : l.length ≤ i) (x : Nat) : (varGo (l.drop i) i).after x i = .bad 2 := by
  rw [List.drop_of_length_le h]; rfl
theorem varGo_form {l : List UInt8} {i : Nat} (h : i < l.length) (x : Nat) (hb : (i = 9 ∧ 1 < (l[i]).toNat) ∨ (0 < i ∧ (l[i]).toNat = 0)) : (varGo (l.drop i) i).after x i = .bad 3 := by
  rw [List.drop_eq_getElem_cons h, varGo, if_pos hb]; rfl
theorem varGo_last {l : List UInt8} {i : Nat} (h : i < l.length) (x : Nat) (hb : ¬ ((i = 9 ∧ 1 < (l[i]).toNat) ∨ (0 < i ∧ (l[i]).toNat = 0))) (hd : (l[i]).toNat < 128) :
    (varGo (l.drop i) i).after x i = .ok (x + 128 ^ i * (l[i]).toNat) (i + 1) := by
  rw [List.drop_eq_getElem_cons h, varGo, if_neg hb, if_pos hd]; rfl
theorem varGo_more {l : List UInt8} {i : Nat} (h : i < l.length) (x : Nat) (hb : ¬ ((i = 9 ∧ 1 < (l[i]).toNat) ∨ (0 < i ∧ (l[i]).toNat = 0))) (hd : 128 ≤ (l[i]).toNat) :
    (varGo (l.drop i) i).after x i = (varGo (l.drop (i + 1)) (i + 1)).after (x + 128 ^ i * ((l[i]).toNat % 128)) (i + 1) := by
  rw [List.drop_eq_getElem_cons h, varGo, if_neg hb, if_neg (by omega)]
  cases varGo (l.drop (i + 1)) (i + 1) with
  | bad e => rfl
  | ok n k =>
    simp only [VR.after, VR.ok.injEq]
    constructor
    · rw [Nat.mul_add, Nat.pow_succ, Nat.mul_assoc]; omega
    · omega

/-- The next digit is put by or. -/
theorem or_digit {x i d : Nat} (hx : x < 128 ^ i) : x ||| (d <<< (7 * i)) = x + 128 ^ i * d := by
  have e : 128 ^ i = 2 ^ (7 * i) := by rw [Nat.pow_mul]
  rw [e] at hx ⊢
  rw [Nat.shiftLeft_eq, Nat.or_comm, Nat.mul_comm d, ← Nat.two_pow_add_eq_or_of_lt hx]
  omega
theorem digit_lt {x i d : Nat} (hx : x < 128 ^ i) (hd : d < 128) : x + 128 ^ i * d < 128 ^ (i + 1) := by
  rw [Nat.pow_succ]
  have : 128 ^ i * d ≤ 128 ^ i * 127 := Nat.mul_le_mul_left _ (by omega)
  omega
theorem digit_u64 {x i d : Nat} (hi : i ≤ 9) (hx : x < 128 ^ i) (hd : d < 128) (h9 : i = 9 → d ≤ 1) : U64 (x + 128 ^ i * d) := by
  rcases Nat.lt_or_ge i 9 with h | h
  · exact Nat.lt_of_lt_of_le (digit_lt hx hd) (Nat.le_trans (Nat.pow_le_pow_right (by decide) (show i + 1 ≤ 9 by omega)) (by decide))
  · obtain rfl : i = 9 := by omega
    have := h9 rfl
    have h2 : 128 ^ 9 * d ≤ 128 ^ 9 * 1 := Nat.mul_le_mul_left _ this
    show _ < 2 ^ 64
    have h3 : (128 : Nat) ^ 9 + 128 ^ 9 * 1 ≤ 2 ^ 64 := by decide
    omega

def badD (i d : Nat) : Prop := (i = 9 ∧ 1 < d) ∨ (0 < i ∧ d = 0)
theorem varGo_form' {l : List UInt8} {i d : Nat} (h : i < l.length) (hd : d = (l[i]).toNat) (x : Nat) (hb : badD i d) : (varGo (l.drop i) i).after x i = .bad 3 := by
  subst hd; exact varGo_form h x hb
theorem varGo_last' {l : List UInt8} {i d : Nat} (h : i < l.length) (hd : d = (l[i]).toNat) (x : Nat) (hb : ¬ badD i d) (h8 : d < 128) : (varGo (l.drop i) i).after x i = .ok (x + 128 ^ i * (d % 128)) (i + 1) := by
  subst hd; rw [varGo_last h x hb h8, Nat.mod_eq_of_lt h8]
theorem varGo_more' {l : List UInt8} {i d : Nat} (h : i < l.length) (hd : d = (l[i]).toNat) (x : Nat) (hb : ¬ badD i d) (h8 : 128 ≤ d) : (varGo (l.drop i) i).after x i = (varGo (l.drop (i + 1)) (i + 1)).after (x + 128 ^ i * (d % 128)) (i + 1) := by
  subst hd; exact varGo_more h x hb h8

theorem and127 (d : Nat) (h : d < 256) : bits BinOp.and .u8 (d : Int) 127 = ((d : Int) % 128) := by
  rw [show (127 : Int) = ((127 : Nat) : Int) from rfl, u8_and_nat d 127 h (by decide)]
  rw [show (127 : Nat) = 2 ^ 7 - 1 from rfl, Nat.and_two_pow_sub_one_eq_mod]
  rfl
theorem or_walk {x k d : Nat} (hx : x < 128 ^ k) (hk : k ≤ 9) (h9 : k = 9 → d % 128 ≤ 1) (hu : U64 x) :
    bits BinOp.or .u64 (x : Int) (IntKind.u64.wrap ((d : Int) % 128 * 2 ^ (7 * k))) = ((x + 128 ^ k * (d % 128) : Nat) : Int) := by
  have h1 := digit_u64 (x := 0) hk (Nat.pow_pos (by decide)) (show d % 128 < 128 by omega) h9
  rw [Nat.zero_add] at h1
  have e : ((d : Int) % 128 * 2 ^ (7 * k)) = ((128 ^ k * (d % 128) : Nat) : Int) := by
    rw [show (128 : Nat) ^ k = 2 ^ (7 * k) by rw [Nat.pow_mul]]
    rw [Int.natCast_mul, Int.mul_comm]
    congr 1
  rw [e, IntWalk.u64_in _ ⟨by omega, by have := h1.out; omega⟩, u64_or_nat _ _ hu.out h1.out]
  congr 1
  have h2 := or_digit (d := d % 128) hx
  rw [Nat.shiftLeft_eq, Nat.mul_comm] at h2
  rw [show (128 : Nat) ^ k = 2 ^ (7 * k) by rw [Nat.pow_mul]] at h2 ⊢
  exact h2

/-- Bytes as a number, the highest first. -/
def beN (l : List UInt8) : Nat := l.foldl (fun a d => a * 256 + d.toNat) 0
theorem beN_snoc (l : List UInt8) (d : UInt8) : beN (l ++ [d]) = beN l * 256 + d.toNat := by simp [beN]
theorem beN_lt (l : List UInt8) : beN l < 256 ^ l.length := by
  rw [← List.reverse_reverse l]
  induction l.reverse with
  | nil => decide
  | cons d l ih =>
    rw [List.reverse_cons, beN_snoc, List.length_append, List.length_singleton, Nat.pow_succ]
    have := UInt8.toNat_lt d
    omega
theorem beN_u64 {l : List UInt8} (h : l.length ≤ 8) : U64 (beN l) :=
  Nat.lt_of_lt_of_le (beN_lt l) (Nat.le_trans (Nat.pow_le_pow_right (by decide) h) (by decide))
theorem or_byte (x d : Nat) (hd : d < 256) : (x * 256) ||| d = x * 256 + d := by
  rw [show (256 : Nat) = 2 ^ 8 from rfl, Nat.mul_comm] at *
  rw [Nat.two_pow_add_eq_or_of_lt hd]
theorem or_walk8 {x d : Nat} (hx : U64 (x * 256)) (hd : d < 256) : bits BinOp.or .u64 ((x : Int) * 256) (d : Int) = ((x * 256 + d : Nat) : Int) := by
  have h1 := u64_or_nat (x * 256) d hx.out (by omega)
  rw [Int.natCast_mul] at h1
  rw [show ((256 : Nat) : Int) = 256 from rfl] at h1
  rw [h1, or_byte x d hd]

theorem varGo_bd : ∀ (l : List UInt8) (i n k : Nat), i ≤ 9 → varGo l i = .ok n k → n < 2 ^ (64 - 7 * i) ∧ k ≤ l.length ∧ 1 ≤ k
  | [], _, _, _, _, h => by cases h
  | d :: l, i, n, k, hi, h => by
    rw [varGo] at h
    by_cases hb : (i = 9 ∧ 1 < d.toNat) ∨ (0 < i ∧ d.toNat = 0)
    · rw [if_pos hb] at h; cases h
    · rw [if_neg hb] at h
      by_cases h8 : d.toNat < 128
      · rw [if_pos h8] at h
        injection h with h1 h2
        subst h1; subst h2
        refine ⟨?_, by simp, by omega⟩
        rcases Nat.lt_or_ge i 9 with h9 | h9
        · exact Nat.lt_of_lt_of_le h8 (Nat.le_trans (show 128 ≤ 2 ^ 7 by decide) (Nat.pow_le_pow_right (by decide) (by omega)))
        · obtain rfl : i = 9 := by omega
          have : ¬ 1 < d.toNat := fun h => hb (.inl ⟨rfl, h⟩)
          show d.toNat < 2
          omega
      · rw [if_neg h8] at h
        have hi8 : i < 9 := by
          rcases Nat.lt_or_ge i 9 with h9 | h9
          · exact h9
          · exact absurd (.inl ⟨by omega, by omega⟩) hb
        cases hv : varGo l (i + 1) with
        | bad e => rw [hv] at h; cases h
        | ok n' k' =>
          rw [hv] at h
          injection h with h1 h2
          obtain ⟨g1, g2, g3⟩ := varGo_bd l (i + 1) n' k' (by omega) hv
          subst h1; subst h2
          refine ⟨?_, by simp; omega, by omega⟩
          have e : 2 ^ (64 - 7 * i) = 128 * 2 ^ (64 - 7 * (i + 1)) := by
            rw [show (128 : Nat) = 2 ^ 7 from rfl, ← Nat.pow_add]; congr 1; omega
          rw [e]
          omega
theorem varGo_u64 {l : List UInt8} {n k : Nat} (h : varGo l 0 = .ok n k) : U64 n ∧ k ≤ l.length ∧ 1 ≤ k := varGo_bd l 0 n k (by decide) h
theorem varGo_err {l : List UInt8} {i e : Nat} (h : varGo l i = .bad e) : e = 2 ∨ e = 3 := by
  induction l generalizing i with
  | nil => injection h with h; exact .inl h.symm
  | cons d l ih =>
    rw [varGo] at h
    split at h
    · injection h with h; exact .inr h.symm
    · split at h
      · cases h
      · cases hv : varGo l (i + 1) with
        | bad e' => rw [hv] at h; injection h with h; subst h; exact ih hv
        | ok _ _ => rw [hv] at h; cases h

end Go.Proofs.Ytgnciejbhaebeaa

/- What the layer wire's and its reference's Var answer: a number laid by as few bytes as can be. Conditions: a number of 64 bits. -/
namespace Go.Proofs.Ytgnciejbhaebeaa
open Go Go.RowKit

theorem varStep_hi {n x : Nat} {bs : List UInt8} (h : varL n = bs ++ varL x) (hx : 128 ≤ x) : varL n = (bs ++ [dig x]) ++ varL (x / 128) := by
  rw [h, varL_hi hx, List.append_assoc]; rfl
theorem varStep_len {n x : Nat} {bs : List UInt8} (hn : U64 n) (h : varL n = bs ++ varL x) : bs.length ≤ 10 := by
  have h1 := varL_len10 hn
  rw [h, List.length_append] at h1
  omega

theorem bits_or128 (x : Nat) : Value.int .u8 (bits BinOp.or .u8 (((x : Nat) : Int) % 256) 128) = bv (dig x) := by
  have h := u8_or_nat (x % 256) 128 (by omega) (by omega)
  rw [show ((x % 256 : Nat) : Int) = (x : Int) % 256 by omega] at h
  have h2 := congrArg UInt8.toNat (or128 x)
  simp only [UInt8.toNat_or, UInt8.toNat_ofNat'] at h2
  rw [show (128 : UInt8).toNat = 128 from rfl] at h2
  unfold bv
  rw [show ((128 : Int)) = ((128 : Nat) : Int) from rfl, h, show (256 : Nat) = 2 ^ 8 from rfl, h2]

theorem int_lo {x : Int} {n : Nat} (h : x = ((n % 256 : Nat) : Int)) : Value.int .u8 x = bv (lo n) := by rw [h, bv, lo_nat]

set_option maxRecDepth 100000 in
set_option maxHeartbeats 400000 in
theorem Var_c (n : Nat) (w : World) (hn : U64 n) :
    Calls Try.prog 84 #[.int .u64 n] w fun e w' => ∃ v, e = .returned v ∧ OwnB w' w.heap.size v (varL n) ∧ Below w.heap.size w w' := by
  go_enter Try.func84, Try.ntmps84
  go_wp2
  go_loopw [0, 3] (fun m v wr => ∃ (x : Nat) (bs : List UInt8), m = .int .u64 x ∧ varL n = bs ++ varL x ∧ U64 x ∧ OwnB wr w.heap.size v bs ∧ Below w.heap.size w wr) (fun m v _ => (intOf m).toNat)
  case atStart => exact ⟨n, [], rfl, rfl, hn, Own.nil_ _ _ _, Below.refl _ _⟩
  case round =>
    obtain ⟨x, bs, rfl, hv, hx, hown, hb⟩ := hrel
    have hl := varStep_len hn hv
    have hz := hb.size
    have HV := Lib.hid hv; clear hv
    rcases Int.lt_or_le (x : Int) 128 with hlt | hle
    · go_wp2_with (first | (at_builtin; refine wpList_appB1 _ rfl (.tmp 14) (.tmp 17) rfl w.heap.size _ bs rfl hown _ rfl (lo x) ?_ (by omega) (by omega) ?_))
      · exact int_lo (by omega)
      · intro v' w' h1 h2 _
        go_wp2
        go_ret
        refine ⟨_, rfl, ?_, ?_⟩
        · rw [HV.out, varL_lo (by omega)]; exact h1
        · exact (hb.alloc (by omega) _).grown h2 (by simp; omega) (fun k hk => (hown.lt k hk).1)
    · go_wp2_with (first | (at_builtin; refine wpList_appB1 _ rfl (.tmp 6) (.tmp 10) rfl w.heap.size _ bs rfl hown _ rfl (dig x) ?_ (by omega) (by omega) ?_))
      · exact bits_or128 x
      · intro v' w' h1 h2 _
        go_wp2
        go_roundw
        case rel => exact ⟨x / 128, _, by go_num, varStep_hi HV.out (by omega), hx.le (by omega), h1, (hb.alloc (by omega) _).grown h2 (by simp; omega) (fun k hk => (hown.lt k hk).1)⟩
        case measure => simp [intOf]; omega

/-! ### The reference's Var: the same by division -/
set_option maxRecDepth 100000 in
set_option maxHeartbeats 400000 in
theorem refVar_c (n : Nat) (w : World) (hn : U64 n) :
    Calls Try.prog 86 #[.int .u64 n] w fun e w' => ∃ v, e = .returned v ∧ OwnB w' w.heap.size v (varL n) ∧ Below w.heap.size w w' := by
  go_enter Try.func86, Try.ntmps86
  go_wp2
  go_loopw [0, 3] (fun m v wr => ∃ (x : Nat) (bs : List UInt8), m = .int .u64 x ∧ varL n = bs ++ varL x ∧ U64 x ∧ OwnB wr w.heap.size v bs ∧ Below w.heap.size w wr) (fun m v _ => (intOf m).toNat)
  case atStart => exact ⟨n, [], rfl, rfl, hn, World.ownsRow_made w #[] 0 (Nat.le_refl _) (Nat.zero_le _) rfl, (Below.refl _ _).alloc (Nat.le_refl _) _⟩
  case round =>
    obtain ⟨x, bs, rfl, hv, hx, hown, hb⟩ := hrel
    have hl := varStep_len hn hv
    have hz := hb.size
    have HV := Lib.hid hv; clear hv
    have hw : IntKind.u64.wrap ((x : Int) / 128) = (x : Int) / 128 := u64_div hx 128
    rcases Int.lt_or_le (x : Int) 128 with hlt | hle
    · have hq : (((x : Int) / 128) == 0) = true := by rw [beq_iff_eq]; omega
      go_wp2_with (first | (at_builtin; refine wpList_appB1 _ rfl (.tmp 8) (.tmp 11) rfl w.heap.size _ bs rfl hown _ rfl (lo x) ?_ (by omega) (by omega) ?_))
      · exact int_lo (by omega)
      · intro v' w' h1 h2 _
        go_wp2
        go_ret
        refine ⟨_, rfl, ?_, ?_⟩
        · rw [HV.out, varL_lo (by omega)]; exact h1
        · exact (hb.alloc (by omega) _).grown h2 (by simp; omega) (fun k hk => (hown.lt k hk).1)
    · have hq : (((x : Int) / 128) == 0) = false := by rw [beq_eq_false_iff_ne]; omega
      go_wp2_with (first | (at_builtin; refine wpList_appB1 _ rfl (.tmp 13) (.tmp 18) rfl w.heap.size _ bs rfl hown _ rfl (dig x) ?_ (by omega) (by omega) ?_))
      · unfold bv; rw [dig_nat]; congr 1
      · intro v' w' h1 h2 _
        go_wp2
        go_roundw
        case rel => exact ⟨x / 128, _, by go_num, varStep_hi HV.out (by omega), hx.le (by omega), h1, (hb.alloc (by omega) _).grown h2 (by simp; omega) (fun k hk => (hown.lt k hk).1)⟩
        case measure => simp [intOf]; omega
end Go.Proofs.Ytgnciejbhaebeaa

/- What the layer wire's and its reference's Num answer: a number by so many bytes, the highest first. Conditions: a number of 64 bits. -/
namespace Go.Proofs.Ytgnciejbhaebeaa
open Go Go.RowKit

/-! ### Num -/
theorem numL_end {n size : Nat} {f : Nat → UInt8} (hf : ∀ i, i < size → f i = lo (n / 256 ^ (size - 1 - i))) : (List.range size).map f = numL n size := by
  unfold numL
  exact List.map_congr_left fun i hi => hf i (List.mem_range.1 hi)
/-- What stands in the row when the places from k on are laid. -/
def numTail (n size k : Nat) : List UInt8 := List.replicate k 0 ++ (numL n size).drop k
theorem numTail_start (n size : Nat) : numTail n size size = List.replicate size 0 := by
  unfold numTail
  rw [List.drop_of_length_le (by rw [numL_length]; exact Nat.le_refl _), List.append_nil]
theorem numTail_zero (n size : Nat) : numTail n size 0 = numL n size := by simp [numTail]
theorem numTail_step {n size k : Nat} (hk : k < size) : (numTail n size (k + 1)).set k (lo (n / 256 ^ (size - 1 - k))) = numTail n size k := by
  unfold numTail
  have h1 : (numL n size).drop k = lo (n / 256 ^ (size - 1 - k)) :: (numL n size).drop (k + 1) := by
    rw [List.drop_eq_getElem_cons (by rw [numL_length]; exact hk)]
    simp [numL]
  rw [h1, List.replicate_succ', List.append_assoc, List.set_append_right _ _ (by simp)]
  simp
theorem numTail_length (n size k : Nat) (hk : k ≤ size) : (numTail n size k).length = size := by
  unfold numTail; rw [List.length_append, List.length_replicate, List.length_drop, numL_length]; omega

def numLI (n : Nat) (size : Int) : List UInt8 := if 1 ≤ size ∧ size ≤ 8 then numL n size.toNat else []

set_option maxRecDepth 100000 in
set_option maxHeartbeats 400000 in
theorem Num_c (n : Nat) (size : Int) (w : World) (hn : U64 n) :
    Calls Try.prog 83 #[.int .u64 n, .int .i64 size] w fun e w' => ∃ v, e = .returned v ∧ OwnB w' w.heap.size v (numLI n size) ∧ Below w.heap.size w w' := by
  rcases Int.lt_or_le size 1 with h1 | h1
  · go_enter Try.func83, Try.ntmps83
    go_wp2
    go_ret
    refine ⟨_, rfl, ?_, Below.refl _ _⟩
    rw [numLI, if_neg (by omega)]; exact Own.nil_ _ _ _
  rcases Int.lt_or_le 8 size with h8 | h8
  · go_enter Try.func83, Try.ntmps83
    go_wp2
    go_ret
    refine ⟨_, rfl, ?_, Below.refl _ _⟩
    rw [numLI, if_neg (by omega)]; exact Own.nil_ _ _ _
  obtain ⟨s, rfl⟩ := Int.eq_ofNat_of_zero_le (show 0 ≤ size by omega)
  have hfin : numLI n (s : Int) = numL n s := by rw [numLI, if_pos ⟨h1, h8⟩, Int.toNat_natCast]
  have HF := Lib.hid hfin; clear hfin
  go_enter Try.func83, Try.ntmps83
  go_wp2_with (first | (at_make; refine wpList_makeB _ rfl (.tmp 13) (.tmp 13) rfl _ _ _ _ s rfl rfl rfl rfl (by omega) ?_))
  intro w1 ho1 hb1 _
  go_wp2
  go_loopw [0, 6] (fun m i wr => ∃ k : Nat, k ≤ s ∧ i = .int .i64 ((k : Int) - 1) ∧ m = .int .u64 ((n / 256 ^ (s - k) : Nat) : Int) ∧ OwnB wr w.heap.size (.slice (some ⟨w.heap.size, 0, none⟩) s s) (numTail n s k) ∧ Below w.heap.size w wr) (fun m i _ => (intOf i + 1).toNat)
  case atStart =>
    refine ⟨s, Nat.le_refl _, rfl, ?_, ?_, hb1⟩
    · rw [Nat.sub_self, Nat.pow_zero, Nat.div_one]
    · rw [numTail_start]; exact ho1
  case round =>
    obtain ⟨k, hk, rfl, rfl, hown, hb⟩ := hrel
    rcases Nat.eq_zero_or_pos k with h0 | h0
    · subst h0
      go_wp2
      go_ret
      refine ⟨_, rfl, ?_, hb⟩
      rw [HF.out, ← numTail_zero]; exact hown
    · obtain ⟨j, rfl⟩ : ∃ j, k = j + 1 := ⟨k - 1, by omega⟩
      have hcell := hown.cell j (by rw [numTail_length _ _ _ hk]; omega)
      have hfree := hown.free j
      obtain ⟨x, hx⟩ : ∃ x, x = n / 256 ^ (s - (j + 1)) := ⟨_, rfl⟩
      have hq : x / 256 = n / 256 ^ (s - j) := by
        rw [hx, Nat.div_div_eq_div_mul, ← Nat.pow_succ, show (s - (j + 1)).succ = s - j by omega]
      rw [← hx]
      have HX := Lib.hid hx; clear hx
      have HQ := Lib.hid hq; clear hq
      go_wp2
      go_roundw
      case rel =>
        refine ⟨j, by omega, rfl, by rw [← HQ.out]; try rfl, ?_, hb.setCell (Nat.le_refl _) _⟩
        rw [int_lo (x := (x : Int) % 256) (n := x) (by omega), ← numTail_step (by omega)]
        have h := hown.set j (lo x)
        rw [HX.out] at h ⊢
        rw [show s - 1 - j = s - (j + 1) by omega]
        exact h
      case measure => simp [intOf]

set_option maxRecDepth 100000 in
set_option maxHeartbeats 400000 in
theorem refNum_c (n : Nat) (size : Int) (w : World) (hn : U64 n) :
    Calls Try.prog 85 #[.int .u64 n, .int .i64 size] w fun e w' => ∃ v, e = .returned v ∧ OwnB w' w.heap.size v (numLI n size) ∧ Below w.heap.size w w' := by
  rcases Int.lt_or_le size 1 with h1 | h1
  · go_enter Try.func85, Try.ntmps85
    go_wp2
    go_ret
    refine ⟨_, rfl, ?_, Below.refl _ _⟩
    rw [numLI, if_neg (by omega)]; exact Own.nil_ _ _ _
  rcases Int.lt_or_le 8 size with h8 | h8
  · go_enter Try.func85, Try.ntmps85
    go_wp2
    go_ret
    refine ⟨_, rfl, ?_, Below.refl _ _⟩
    rw [numLI, if_neg (by omega)]; exact Own.nil_ _ _ _
  obtain ⟨s, rfl⟩ := Int.eq_ofNat_of_zero_le (show 0 ≤ size by omega)
  have hfin : numLI n (s : Int) = numL n s := by rw [numLI, if_pos ⟨h1, h8⟩, Int.toNat_natCast]
  have HF := Lib.hid hfin; clear hfin
  go_enter Try.func85, Try.ntmps85
  go_wp2_with (first | (at_make; refine wpList_makeB _ rfl (.tmp 13) (.tmp 13) rfl _ _ _ _ s rfl rfl rfl rfl (by omega) ?_))
  intro w1 ho1 hb1 _
  go_wp2
  go_loopw [0, 6] (fun m i wr => ∃ k : Nat, k ≤ s ∧ i = .int .i64 (k : Int) ∧ m = .int .u64 ((n / 256 ^ k : Nat) : Int) ∧ OwnB wr w.heap.size (.slice (some ⟨w.heap.size, 0, none⟩) s s) (numTail n s (s - k)) ∧ Below w.heap.size w wr) (fun m i _ => s - (intOf i).toNat)
  case atStart =>
    refine ⟨0, Nat.zero_le _, rfl, ?_, ?_, hb1⟩
    · rw [Nat.pow_zero, Nat.div_one]
    · rw [Nat.sub_zero, numTail_start]; exact ho1
  case round =>
    obtain ⟨k, hk, rfl, rfl, hown, hb⟩ := hrel
    rcases Nat.lt_or_ge k s with h0 | h0
    · obtain ⟨x, hx⟩ : ∃ x, x = n / 256 ^ k := ⟨_, rfl⟩
      have hu : U64 x := hn.le (by rw [hx]; exact Nat.div_le_self _ _)
      have hw : IntKind.u64.wrap ((x : Int) / 256) = (x : Int) / 256 := u64_div hu 256
      have hq : x / 256 = n / 256 ^ (k + 1) := by rw [hx, Nat.div_div_eq_div_mul, ← Nat.pow_succ]
      obtain ⟨old, hcell⟩ : ∃ old, wr.cell? ⟨w.heap.size, s - 1 - k, none⟩ = some old := ⟨_, hown.cell (s - 1 - k) (by rw [numTail_length _ _ _ (by omega)]; omega)⟩
      have hfree := hown.free (s - 1 - k)
      rw [← hx]
      have HX := Lib.hid hx; clear hx
      have HQ := Lib.hid hq; clear hq
      go_wp2
      go_roundw
      case rel =>
        refine ⟨k + 1, by omega, by go_num, by rw [← HQ.out]; try rfl, ?_, hb.setCell (Nat.le_refl _) _⟩
        rw [int_lo (x := (x : Int) % 256) (n := x) (by omega), ← numTail_step (by omega), show s - (k + 1) + 1 = s - k by omega, show s - 1 - (s - (k + 1)) = k by omega, ← HX.out, show s - (k + 1) = s - 1 - k by omega]
        exact hown.set _ _
      case measure => simp [intOf]; omega
    · obtain rfl : k = s := by omega
      go_wp2
      go_ret
      refine ⟨_, rfl, ?_, hb⟩
      rw [Nat.sub_self, numTail_zero] at hown
      rw [HF.out]; exact hown

end Go.Proofs.Ytgnciejbhaebeaa

/- What keys.numbers.put and the reference's lay answer: a number in a version's way; and which event may not be. Conditions: events that can be read. -/
namespace Go.Proofs.Ytgnciejbhaebeaa
open Go Go.RowKit

def putL (f : Bool) (n : Nat) (size : Int) : List UInt8 := if f then numLI n size else varL n

set_option maxRecDepth 100000 in
set_option maxHeartbeats 1000000 in
theorem put_c (f : Bool) (n : Nat) (size : Int) (w : World) (hn : U64 n) :
    Calls Try.prog 60 #[.agg #[.bool f], .int .u64 n, .int .i64 size] w fun r w' => ∃ v, r = .returned v ∧ OwnB w' w.heap.size v (putL f n size) ∧ Below w.heap.size w w' := by
  have k0 : Below w.heap.size w (w.alloc (.cells #[.bool f] 111)) := (Below.refl _ _).alloc (Nat.le_refl _) _
  cases f
  · go_enter Try.func60, Try.ntmps60
    go_wp2_with (fail)
    refine (Var_c n _ hn).mono ?_
    rintro r w1 ⟨v, rfl, ho, hb⟩
    have HO := Lib.hid ho; clear ho
    go_wp2_with (fail)
    go_ret
    exact ⟨_, rfl, Own.low HO.out k0.size, k0.trans (hb.mono k0.size)⟩
  · go_enter Try.func60, Try.ntmps60
    go_wp2_with (fail)
    refine (Num_c n size _ hn).mono ?_
    rintro r w1 ⟨v, rfl, ho, hb⟩
    have HO := Lib.hid ho; clear ho
    go_wp2_with (fail)
    go_ret
    exact ⟨_, rfl, Own.low HO.out k0.size, k0.trans (hb.mono k0.size)⟩

set_option maxRecDepth 100000 in
set_option maxHeartbeats 1000000 in
theorem lay24_c (ver : Int) (n : Nat) (size : Int) (w : World) (hn : U64 n) :
    Calls Try.prog 62 #[.int .i64 ver, .int .u64 n, .int .i64 size] w fun r w' => ∃ v, r = .returned v ∧ OwnB w' w.heap.size v (putL (decide (ver = 1)) n size) ∧ Below w.heap.size w w' := by
  by_cases h1 : ver = 1
  · subst h1
    go_enter Try.func62, Try.ntmps62
    go_wp2_with (fail)
    refine (refNum_c n size _ hn).mono ?_
    rintro r w1 ⟨v, rfl, ho, hb⟩
    have HO := Lib.hid ho; clear ho
    go_wp2_with (fail)
    go_ret
    exact ⟨_, rfl, HO.out, hb⟩
  · have e1 : (ver == 1) = false := by rw [beq_eq_false_iff_ne]; exact h1
    have e2 : decide (ver = 1) = false := decide_eq_false h1
    have E2 := Lib.hid e2; clear e2 h1
    go_enter Try.func62, Try.ntmps62
    go_wp2_with (fail)
    refine (refVar_c n _ hn).mono ?_
    rintro r w1 ⟨v, rfl, ho, hb⟩
    have HO := Lib.hid ho; clear ho
    go_wp2_with (fail)
    go_ret
    exact ⟨_, rfl, by rw [E2.out]; exact HO.out, hb⟩

def mostI (k : Int) : Int := if k = 1 then 8 else if k = 2 then 64 else -1
set_option maxRecDepth 100000 in
theorem most_c (k : Int) (w : World) : Calls Try.prog 61 #[.int .i64 k] w fun r w' => r = .returned (.int .i64 (mostI k)) ∧ w = w' := by
  by_cases h1 : k = 1
  · subst h1
    go_enter Try.func61, Try.ntmps61
    go_wp2
    go_ret
    exact ⟨rfl, rfl⟩
  · by_cases h2 : k = 2
    · subst h2
      go_enter Try.func61, Try.ntmps61
      go_wp2
      go_ret
      exact ⟨rfl, rfl⟩
    · have e1 : (k == 1) = false := by rw [beq_eq_false_iff_ne]; exact h1
      have e2 : (k == 2) = false := by rw [beq_eq_false_iff_ne]; exact h2
      have e3 : mostI k = -1 := by rw [mostI, if_neg h1, if_neg h2]
      rw [e3]
      clear e3 h1 h2
      go_enter Try.func61, Try.ntmps61
      go_wp2
      go_ret
      exact ⟨rfl, rfl⟩

set_option maxRecDepth 100000 in
theorem Enc1_c (k x y b : Int) (A : Option Addr) (n c : Nat) (w : World) :
    Calls Try.prog 59 #[.agg #[.int .i64 k, .slice A n c, .int .i64 x, .int .i64 y, .int .i64 b]] w fun r w' => r = .returned (.bool (!(mayB k x y b n))) ∧ Below w.heap.size w w' := by
  have k0 : Below w.heap.size w (w.alloc (.cells #[.int .i64 k, .slice A n c, .int .i64 x, .int .i64 y, .int .i64 b] 36)) := (Below.refl _ _).alloc (Nat.le_refl _) _
  go_enter Try.func59, Try.ntmps59
  go_wp2_with (fail)
  refine (May_c k x y b A n c _).mono ?_
  rintro r w1 ⟨rfl, hb⟩
  obtain ⟨m, em⟩ : ∃ m, m = mayB k x y b n := ⟨_, rfl⟩
  rw [← em]
  have EM := Lib.hid em; clear em
  cases m <;> (go_wp2_with (fail); go_ret; exact ⟨by rw [← EM.out] <;> rfl, k0.trans (hb.mono k0.size)⟩)

/-- The first event that may not be; -1: there is none. -/
def badGo : Nat → List Ev → Int
  | _, [] => -1
  | k, e :: es => if e.may then badGo (k + 1) es else k
theorem badGo_neg : ∀ (es : List Ev) (k : Nat), (0 ≤ badGo k es) ↔ es.all Ev.may = false
  | [], k => by simp [badGo]
  | e :: es, k => by
    rw [badGo, List.all_cons]
    cases h : e.may
    · simp
    · simpa using badGo_neg es (k + 1)

set_option maxRecDepth 100000 in
set_option maxHeartbeats 2000000 in
theorem IndexF_c (ok : Nat → Prop) (A : Option Addr) (n c : Nat) (ds : List EvV) (es : List Ev) (w : World) (hn : es.length = n) (hr : EvsR ok w A ds es) (hl : n ≤ 140737488355328) :
    Calls Try.prog 82 #[.slice A n c, .func (.func 59) #[] #[]] w fun r w' => r = .returned (.int .i64 (badGo 0 es)) ∧ Below w.heap.size w w' := by
  have HN := Lib.hid hn; clear hn
  obtain ⟨R, eR⟩ : ∃ R, R = badGo 0 es := ⟨_, rfl⟩
  rw [← eR]
  have ER := Lib.hid eR; clear eR
  go_enter Try.func82, Try.ntmps82
  go_wp2_with (fail)
  go_loopw [8] (fun i wr => ∃ (k : Nat), k ≤ n ∧ i = .int .i64 k ∧ Hid (badGo 0 es = badGo k (es.drop k)) ∧ Below w.heap.size w wr) (fun i _ => n - (intOf i).toNat)
  case atStart => exact ⟨0, Nat.zero_le _, rfl, Lib.hid (by rw [List.drop_zero]), Below.refl _ _⟩
  case round =>
    obtain ⟨k, hk, rfl, HG, kb⟩ := hrel
    rcases Nat.lt_or_ge k n with hlt | hge
    · obtain ⟨e, b1, o1, At, m, cm, ee, rfl, hb1, -, tt, c0, ca, cb, cc, cd⟩ := hr.at_ k (by rw [HN.out]; exact hlt)
      obtain ⟨t1, -⟩ := tt
      have hd : es.drop k = es[k]'(by rw [HN.out]; exact hlt) :: es.drop (k + 1) := List.drop_eq_getElem_cons (by rw [HN.out]; exact hlt)
      rw [← ee] at hd
      have hmay : e.may = mayB e.k e.x e.y e.b m := by rw [Ev.may, t1]
      have hg := HG.out
      rw [hd, badGo, hmay] at hg
      have HG2 := Lib.hid hg; clear hg HG hd hmay ee t1
      obtain ⟨z0, t, z2, z3, z4⟩ := e
      simp only at c0 ca cb cc cd HG2
      rw [← kb.cell (p := ⟨b1, _, none⟩) hb1] at c0 ca cb cc cd
      have hlt' : (k : Int) < (n : Int) := by omega
      go_wp2_with (fail)
      refine (Enc1_c z0 z2 z3 z4 At m cm wr).mono ?_
      rintro r w1 ⟨rfl, hb⟩
      have kb1 := kb.trans (hb.mono kb.size)
      clear c0 ca cb cc cd
      obtain ⟨M, eM⟩ : ∃ M, M = mayB z0 z2 z3 z4 m := ⟨_, rfl⟩
      rw [← eM]
      rw [← eM] at HG2
      clear eM
      cases M
      · have hR : R = k := by rw [ER.out, HG2.out]; rfl
        have HRR := Lib.hid hR; clear hR HG2
        go_wp2_with (fail)
        go_ret
        exact ⟨by rw [HRR.out] <;> rfl, kb1⟩
      · have hR : badGo 0 es = badGo (k + 1) (es.drop (k + 1)) := by rw [HG2.out]; rfl
        have HRR := Lib.hid hR; clear hR HG2
        go_wp2_with (fail)
        go_roundw
        case rel => exact ⟨k + 1, by omega, by go_num, HRR, kb1⟩
        case measure => simp [intOf]; omega
    · obtain rfl : n = k := by omega
      have hR : R = -1 := by rw [ER.out, HG.out, ← HN.out, List.drop_length]; rfl
      have HRR := Lib.hid hR; clear hR
      go_wp2_with (fail)
      go_ret
      exact ⟨by rw [HRR.out] <;> rfl, kb⟩
set_option maxRecDepth 100000 in
theorem ContF_c (ok : Nat → Prop) (A : Option Addr) (n c : Nat) (ds : List EvV) (es : List Ev) (w : World) (hn : es.length = n) (hr : EvsR ok w A ds es) (hl : n ≤ 140737488355328) :
    Calls Try.prog 58 #[.slice A n c, .func (.func 59) #[] #[]] w fun r w' => r = .returned (.bool (!es.all Ev.may)) ∧ Below w.heap.size w w' := by
  have hb := badGo_neg es 0
  obtain ⟨R, eR⟩ : ∃ R, R = badGo 0 es := ⟨_, rfl⟩
  rw [← eR] at hb
  have e1 : decide (0 ≤ R) = (!es.all Ev.may) := by
    cases h : es.all Ev.may
    · exact decide_eq_true (hb.2 h)
    · refine decide_eq_false (fun h2 => ?_)
      rw [hb.1 h2] at h; cases h
  have E1 := Lib.hid e1
  have ER := Lib.hid eR
  clear e1 eR hb
  go_enter Try.func58, Try.ntmps58
  go_wp2_with (fail)
  refine (IndexF_c ok A n c ds es w hn hr hl).mono ?_
  rintro r w1 ⟨rfl, hb⟩
  rw [← ER.out]
  go_wp2_with (fail)
  go_ret
  exact ⟨by rw [← E1.out] <;> rfl, hb⟩
end Go.Proofs.Ytgnciejbhaebeaa

/- The bytes of a batch of events, in plain words. Conditions: none. -/
namespace Go.Proofs.Ytgnciejbhaebeaa
open Go Go.RowKit

def evL (f : Bool) (e : Ev) : List UInt8 :=
  putL f e.k.toNat 1 ++ (if e.k = 1 ∨ e.k = 2 then putL f e.t.length 1 ++ e.t else putL f e.x.toNat 1 ++ putL f e.y.toNat 1 ++ (if e.k = 3 then putL f e.b.toNat 1 else []))
def evsL (f : Bool) (es : List Ev) : List UInt8 := (es.map (evL f)).flatten
def encL (f : Bool) (base : Nat) (es : List Ev) : List UInt8 := putL f base 8 ++ putL f es.length 1 ++ evsL f es
def encE (ver : Int) (base : Nat) (es : List Ev) : List UInt8 × Nat :=
  if ver < 1 ∨ 3 < ver ∨ es = [] ∨ es.all Ev.may = false then ([], 1) else if 16 < es.length then ([], 4) else (encL (decide (ver = 1)) base es, 0)
theorem numLI_le (n : Nat) (s : Int) : (numLI n s).length ≤ 8 := by
  unfold numLI
  split
  · rw [numL_length]; omega
  · simp
theorem putL_le (f : Bool) (n : Nat) (s : Int) (h : U64 n) : (putL f n s).length ≤ 10 := by
  unfold putL
  split
  · have := numLI_le n s; omega
  · exact varL_len10 h
theorem may_bounds {e : Ev} (h : e.may = true) : (e.k = 1 ∨ e.k = 2 ∨ e.k = 3 ∨ e.k = 4) ∧ e.t.length ≤ 64 ∧ 0 ≤ e.x ∧ e.x ≤ 80 ∧ 0 ≤ e.y ∧ e.y ≤ 24 ∧ 0 ≤ e.b ∧ e.b ≤ 255 := by
  have := of_decide_eq_true h
  unfold mayP at this
  omega
theorem u64_small {n : Nat} (h : n ≤ 1000000) : U64 n := by unfold U64; omega
theorem evL_le (f : Bool) (e : Ev) (h : e.may = true) : (evL f e).length ≤ 100 := by
  obtain ⟨h0, h1, h2, h3, h4, h5, h6, h7⟩ := may_bounds h
  have p0 := putL_le f e.k.toNat 1 (u64_small (by omega))
  have p1 := putL_le f e.t.length 1 (u64_small (by omega))
  have p2 := putL_le f e.x.toNat 1 (u64_small (by omega))
  have p3 := putL_le f e.y.toNat 1 (u64_small (by omega))
  have p4 := putL_le f e.b.toNat 1 (u64_small (by omega))
  unfold evL
  rw [List.length_append]
  split
  · rw [List.length_append]; omega
  · rw [List.length_append, List.length_append]
    split
    · omega
    · simp only [List.length_nil]; omega
theorem evsL_le (f : Bool) : ∀ (es : List Ev), es.all Ev.may = true → (evsL f es).length ≤ 100 * es.length
  | [], _ => by simp [evsL]
  | e :: es, h => by
    rw [List.all_cons, Bool.and_eq_true] at h
    have h1 := evL_le f e h.1
    have h2 := evsL_le f es h.2
    have e1 : evsL f (e :: es) = evL f e ++ evsL f es := rfl
    rw [e1, List.length_append, List.length_cons]
    omega
theorem evsL_take (f : Bool) (es : List Ev) (k : Nat) (h : k < es.length) : evsL f (es.take (k + 1)) = evsL f (es.take k) ++ evL f es[k] := by
  unfold evsL
  rw [List.take_succ_eq_append_getElem h, List.map_append, List.flatten_append, List.map_cons, List.map_nil, List.flatten_cons, List.flatten_nil, List.append_nil]
def preL (f : Bool) (base n : Nat) (es : List Ev) : List UInt8 := putL f base 8 ++ putL f n 1 ++ evsL f es
theorem preL_le (f : Bool) (base n : Nat) (es : List Ev) (hb : U64 base) (hn : n ≤ 16) (hm : es.all Ev.may = true) (hl : es.length ≤ 16) : (preL f base n es).length ≤ 2000 := by
  have p0 := putL_le f base 8 hb
  have p1 := putL_le f n 1 (u64_small (by omega))
  have p2 := evsL_le f es hm
  unfold preL
  rw [List.length_append, List.length_append]
  omega
theorem all_take {es : List Ev} (h : es.all Ev.may = true) (k : Nat) : (es.take k).all Ev.may = true := by
  rw [List.all_eq_true] at h ⊢
  intro e he
  exact h e (List.mem_of_mem_take he)
end Go.Proofs.Ytgnciejbhaebeaa

/- What an inbox and a nil queue answer. Conditions: events that can be read; lengths that fit. -/
namespace Go.Proofs.Ytgnciejbhaebeaa
open Go Go.RowKit

/-- Events of one's own. -/
def Evs (ok : Nat → Prop) (w : World) (v : Value) (es : List Ev) : Prop := ∃ ds, EvsO ok w v ds es
def U63 (n : Nat) : Prop := n < 9223372036854775808
theorem u64_wrapN {n : Nat} (h : U64 n) : IntKind.u64.wrap (n : Int) = (n : Int) := by
  unfold U64 at h
  unfold IntKind.wrap
  simp [IntKind.bits, IntKind.signed]
  omega
/-- Block b is an inbox to which so many came. -/
def Ib (w : World) (b got : Nat) : Prop := w.heap[b]? = some (.cells #[.int .u64 (got : Int)] 118 (0, 0))
section
variable {w w' : World} {b got : Nat}
theorem Ib.cell (h : Ib w b got) : w.cell? ⟨b, 0, none⟩ = some (.int .u64 (got : Int)) := by rw [heap_cell h]; rfl
theorem Ib.free (h : Ib w b got) : w.frozen? ⟨b, 0, none⟩ = false := heap_free h 0
theorem Ib.lt (h : Ib w b got) : b < w.heap.size := heap_lt h
theorem Ib.below (h : Ib w b got) (hb : Below w.heap.size w w') : Ib w' b got := (hb.block b h.lt).trans h
theorem Ib.keep (h : Ib w b got) (hb : w'.heap[b]? = w.heap[b]?) : Ib w' b got := hb.trans h
theorem Ib.set (h : Ib w b got) (m : Nat) : Ib (w.setCell ⟨b, 0, none⟩ (.int .u64 (m : Int))) b m := by
  unfold Ib
  rw [heap_set h]
  rfl
end
set_option maxRecDepth 100000 in
theorem NewInbox_c (w : World) : Calls Try.prog 28 #[] w fun r w' => r = .returned (.pointer (some ⟨w.heap.size, 0, none⟩)) ∧ Ib w' w.heap.size 0 ∧ Below w.heap.size w w' := by
  have k0 : Below w.heap.size w (w.alloc (.cells #[.int .u64 0] 118)) := (Below.refl _ _).alloc (Nat.le_refl _) _
  have h0 : Ib (w.alloc (.cells #[.int .u64 0] 118)) w.heap.size 0 := heap_alloc_new w _
  have H0 := Lib.hid h0; clear h0
  go_enter Try.func28, Try.ntmps28
  go_wp2_with (fail)
  go_ret
  exact ⟨rfl, H0.out, k0⟩
set_option maxRecDepth 100000 in
theorem NewQueue_c (w : World) : Calls Try.prog 25 #[] w fun r w' => r = .returned (.pointer (some ⟨w.heap.size, 0, none⟩)) ∧ w'.heap[w.heap.size]? = some (.cells #[.int .u64 0, .slice none 0 0] 116 (0, 0)) ∧ Below w.heap.size w w' ∧ w'.heap.size = w.heap.size + 1 := by
  have k0 : Below w.heap.size w (w.alloc (.cells #[.int .u64 0, .slice none 0 0] 116)) := (Below.refl _ _).alloc (Nat.le_refl _) _
  have h0 : (w.alloc (.cells #[.int .u64 0, .slice none 0 0] 116)).heap[w.heap.size]? = some (.cells #[.int .u64 0, .slice none 0 0] 116 (0, 0)) := heap_alloc_new w _
  have H0 := Lib.hid h0; clear h0
  go_enter Try.func25, Try.ntmps25
  go_wp2_with (fail)
  go_ret
  exact ⟨rfl, H0.out, k0, by simp⟩
set_option maxRecDepth 100000 in
theorem Got_c (b got : Nat) (w : World) (h : Ib w b got) : Calls Try.prog 37 #[.pointer (some ⟨b, 0, none⟩)] w fun r w' => r = .returned (.int .u64 (got : Int)) ∧ w = w' := by
  have c0 := h.cell
  go_enter Try.func37, Try.ntmps37
  go_wp2
  go_ret
  exact ⟨rfl, rfl⟩
set_option maxRecDepth 100000 in
theorem Got_n (w : World) : Calls Try.prog 37 #[.pointer none] w fun r w' => r = .returned (.int .u64 0) ∧ w = w' := by
  go_enter Try.func37, Try.ntmps37
  go_wp2
  go_ret
  exact ⟨rfl, rfl⟩
set_option maxRecDepth 100000 in
theorem Accepted_n (w : World) : Calls Try.prog 36 #[.pointer none] w fun r w' => r = .returned (.int .u64 0) ∧ w = w' := by
  go_enter Try.func36, Try.ntmps36
  go_wp2
  go_ret
  exact ⟨rfl, rfl⟩
set_option maxRecDepth 100000 in
theorem Batch_n (w : World) : Calls Try.prog 34 #[.pointer none] w fun r w' => r = .returned (.tuple #[.int .u64 0, .slice none 0 0]) ∧ w = w' := by
  go_enter Try.func34, Try.ntmps34
  go_wp2
  go_ret2
  exact ⟨rfl, rfl⟩
set_option maxRecDepth 100000 in
theorem Ack_n (n : Int) (w : World) : Calls Try.prog 27 #[.pointer none, .int .u64 n] w fun r w' => r = .returned (.int .i64 0) ∧ w = w' := by
  go_enter Try.func27, Try.ntmps27
  go_wp2
  go_ret
  exact ⟨rfl, rfl⟩
set_option maxRecDepth 100000 in
theorem Push_n (k x y b : Int) (A : Option Addr) (n c : Nat) (w : World) : Calls Try.prog 26 #[.pointer none, .agg #[.int .i64 k, .slice A n c, .int .i64 x, .int .i64 y, .int .i64 b]] w fun r w' => r = .returned (.tuple #[.int .u64 0, .int .i64 1]) ∧ Below w.heap.size w w' := by
  have kb : Below w.heap.size w (w.alloc (.cells #[.int .i64 k, .slice A n c, .int .i64 x, .int .i64 y, .int .i64 b] 36)) := (Below.refl _ _).alloc (Nat.le_refl _) _
  go_enter Try.func26, Try.ntmps26
  go_wp2
  go_ret2
  exact ⟨rfl, kb⟩
set_option maxRecDepth 100000 in
theorem Take_n (base : Int) (A : Option Addr) (n c : Nat) (w : World) : Calls Try.prog 32 #[.pointer none, .int .u64 base, .slice A n c] w fun r w' => r = .returned (.tuple #[.slice none 0 0, .int .i64 1]) ∧ w = w' := by
  go_enter Try.func32, Try.ntmps32
  go_wp2
  go_ret2
  exact ⟨rfl, rfl⟩

/-- What an inbox takes: the new ones, the error, how many came. -/
def takeR (got base : Nat) (es : List Ev) : List Ev × Nat × Nat :=
  if es = [] ∨ 16 < es.length then ([], 1, got) else if got < base then ([], 15, got) else if es.length ≤ got - base then ([], 16, got) else (es.drop (got - base), 0, got + (es.length - (got - base)))
theorem EvsR.cut {ok : Nat → Prop} {w : World} {A : Option Addr} {ds : List EvV} {es : List Ev} (h : EvsR ok w A ds es) {k c : Nat} (hk : k ≤ es.length) (hc : es.length ≤ c) : EvsR ok w (if c = k then A else A.map (fun x => x.add (k * 5))) (ds.drop k) (es.drop k) := by
  have hl := h.len
  have hcd : cellsV (ds.drop k) = (cellsV ds).drop (k * 5) := by
    have e : cellsV ds = cellsV (ds.take k) ++ cellsV (ds.drop k) := by rw [← cellsV_append, List.take_append_drop]
    rw [e, List.drop_left' (by rw [cellsV_length, List.length_take]; omega)]
  refine ⟨by rw [List.length_drop, List.length_drop, hl], ?_, fun h0 a e => ?_, fun i h1 h2 => ?_⟩
  · rw [hcd]
    rcases h.row with h2 | ⟨b, off, rfl, hb, hcc⟩
    · left; rw [h2]; simp
    · by_cases e : c = k
      · left
        apply List.eq_nil_of_length_eq_zero
        rw [List.length_drop, cellsV_length]; omega
      · rw [if_neg e]
        refine .inr ⟨b, off + k * 5, ?_, hb, fun j hj => ?_⟩
        · unfold Addr.add
          by_cases h0 : k * 5 = 0
          · have : k = 0 := by omega
            subst this; simp
          · simp [h0]
        · simp only [List.length_drop] at hj
          rw [Nat.add_assoc, hcc (k * 5 + j) (by omega)]
          simp
  · rw [List.length_drop] at h0
    split at e
    · exact h.ok_ (by omega) a e
    · obtain ⟨a', ha, rfl⟩ := Option.map_eq_some_iff.1 e
      have := h.ok_ (by omega) a' ha
      unfold Addr.add
      split <;> exact this
  · have h1' : k + i < ds.length := by rw [List.length_drop] at h1; omega
    have h2' : k + i < es.length := by omega
    have := h.each (k + i) h1' h2'
    rw [List.getElem_drop, List.getElem_drop]
    exact this

set_option maxRecDepth 100000 in
set_option maxHeartbeats 2000000 in
theorem Take24_c (ok : Nat → Prop) (b got base : Nat) (A : Option Addr) (n c : Nat) (ds : List EvV) (es : List Ev) (w : World) (hg : U63 got) (hu : U64 base) (hi : Ib w b got) (hn : es.length = n) (hr : EvsR ok w A ds es) (hc : n ≤ c) (hm : c ≤ maxLen) (hl : n ≤ 140737488355328) :
    Calls Try.prog 32 #[.pointer (some ⟨b, 0, none⟩), .int .u64 base, .slice A n c] w fun r w' => ∃ v, r = .returned (.tuple #[v, .int .i64 ((takeR got base es).2.1 : Int)]) ∧ Evs (w.heap.size ≤ ·) w' v (takeR got base es).1 ∧ Ib w' b (takeR got base es).2.2 ∧ w.grownBy w' (some b) := by
  have HN := Lib.hid hn; clear hn
  have c0 := hi.cell
  have HI := Lib.hid hi; clear hi
  obtain ⟨L, er, gt, eR⟩ : ∃ L er gt, takeR got base es = (L, er, gt) := ⟨_, _, _, rfl⟩
  rw [eR]
  have ER := Lib.hid eR; clear eR
  show Calls _ _ _ _ fun r w' => ∃ v, r = .returned (.tuple #[v, .int .i64 (er : Int)]) ∧ Evs (w.heap.size ≤ ·) w' v L ∧ Ib w' b gt ∧ w.grownBy w' (some b)
  have nil_ : ∀ w', EvsO (w.heap.size ≤ ·) w' (.slice none 0 0) [] [] := fun w' => ⟨rfl, World.ownsRow_nil _ _ _ _, fun k e => (by cases e), fun i h => absurd h (by simp)⟩
  have NIL := Lib.hid nil_; clear nil_
  rcases Nat.eq_zero_or_pos n with h0 | h0
  · have hR : takeR got base es = ([], 1, got) := by rw [takeR, if_pos (.inl (List.eq_nil_of_length_eq_zero (HN.out.trans h0)))]
    rw [ER.out] at hR
    injection hR with r1 r2
    injection r2 with r2 r3
    have r3 := r3.symm
    subst r1 r2 r3 h0
    go_enter Try.func32, Try.ntmps32
    go_wp2_with (fail)
    go_ret2
    exact ⟨_, rfl, ⟨[], NIL.out _⟩, HI.out, World.grownBy.refl _ _⟩
  have d3 : ((n : Int) == 0) = false := by rw [beq_eq_false_iff_ne]; omega
  by_cases hbig : 16 < n
  · have hR : takeR got base es = ([], 1, got) := by rw [takeR, if_pos (.inr (by rw [HN.out]; exact hbig))]
    rw [ER.out] at hR
    injection hR with r1 r2
    injection r2 with r2 r3
    have r3 := r3.symm
    subst r1 r2 r3
    have d4 : decide ((16 : Int) < (n : Int)) = true := decide_eq_true (by omega)
    clear hbig
    go_enter Try.func32, Try.ntmps32
    go_wp2_with (fail)
    go_ret2
    exact ⟨_, rfl, ⟨[], NIL.out _⟩, HI.out, World.grownBy.refl _ _⟩
  have hnb : ¬ (es = [] ∨ 16 < es.length) := by
    rintro (h | h)
    · have := HN.out; rw [h] at this; simp at this; omega
    · rw [HN.out] at h; exact hbig h
  have d4 : decide ((16 : Int) < (n : Int)) = false := decide_eq_false (by omega)
  have hsm : n ≤ 16 := by omega
  clear hbig
  rcases Nat.lt_or_ge got base with hgb | hgb
  · have hR : takeR got base es = ([], 15, got) := by rw [takeR, if_neg hnb, if_pos hgb]
    rw [ER.out] at hR
    injection hR with r1 r2
    injection r2 with r2 r3
    have r3 := r3.symm
    subst r1 r2 r3
    have d5 : decide (got < base) = true := decide_eq_true (by omega)
    clear hnb hgb
    go_enter Try.func32, Try.ntmps32
    go_wp2_with (fail)
    go_ret2
    exact ⟨_, rfl, ⟨[], NIL.out _⟩, HI.out, World.grownBy.refl _ _⟩
  have d5 : decide (got < base) = false := decide_eq_false (by omega)
  obtain ⟨K, eK⟩ : ∃ K, K = got - base := ⟨_, rfl⟩
  have wd : IntKind.u64.wrap ((got : Int) - (base : Int)) = (K : Int) := by
    have : (got : Int) - (base : Int) = (K : Int) := by omega
    rw [this]
    exact u64_wrapN (by unfold U63 at hg; unfold U64; omega)
  have wn : IntKind.u64.wrap (n : Int) = (n : Int) := u64_wrapN (by unfold U64; omega)
  rcases Nat.lt_or_ge K n with hKn | hKn
  · have hR : takeR got base es = (es.drop K, 0, got + (n - K)) := by rw [takeR, if_neg hnb, if_neg (by omega), ← eK, HN.out, if_neg (by omega)]
    rw [ER.out] at hR
    injection hR with r1 r2
    injection r2 with r2 r3
    subst r2
    have d6 : decide (n ≤ K) = false := decide_eq_false (by omega)
    have R1 := Lib.hid r1; have R3 := Lib.hid r3
    have wa : IntKind.u64.wrap ((got : Int) + ((n - K : Nat) : Int)) = ((got + (n - K) : Nat) : Int) := by
      rw [show (got : Int) + ((n - K : Nat) : Int) = ((got + (n - K) : Nat) : Int) by omega]
      exact u64_wrapN (by unfold U63 at hg; unfold U64; omega)
    have wn2 : IntKind.u64.wrap ((n - K : Nat) : Int) = ((n - K : Nat) : Int) := u64_wrapN (by unfold U64; omega)
    have cut := hr.cut (k := K) (c := c) (by rw [HN.out]; omega) (by rw [HN.out]; exact hc)
    have CUT := Lib.hid cut
    have EK := Lib.hid eK
    clear hnb hgb r1 r3 eK cut hr
    go_enter Try.func32, Try.ntmps32
    go_wp2_with (fail)
    have cut := CUT.out
    rw [if_neg (by omega)] at cut
    refine (clone_c ok _ (n - K) (c - K) _ _ w (by rw [List.length_drop, HN.out]) cut (by omega)).mono ?_
    rintro r w1 ⟨v, ds', rfl, ho, hb⟩
    obtain ⟨A', c', rfl, p1, p2, p3⟩ := ho.form
    have hI1 := HI.out.below hb
    have hlen : (es.drop K).length = n - K := by rw [List.length_drop, HN.out]
    rw [hlen] at p1 ho ⊢
    have c1 := hI1.cell
    have f1 := hI1.free
    have HO := Lib.hid ho; clear ho
    have HI1 := Lib.hid hI1; clear hI1
    have HB := Lib.hid hb; clear hb
    have HL := Lib.hid hlen
    clear cut c0 p1 p2 p3 hlen
    go_wp2_with (fail)
    go_ret2
    have hlt := HI.out.lt
    refine ⟨_, rfl, ⟨ds', ?_⟩, ?_, ?_⟩
    · rw [R1.out]
      refine HO.out.frame (fun k hk _ => heap_far _ ?_)
      have : w.heap.size ≤ k := hk
      show k ≠ b; omega
    · rw [R3.out]
      exact HI1.out.set _
    · exact only_trans (grownBy_of_below HB.out (some b)) (only_set b 0 _)
  · have hR : takeR got base es = ([], 16, got) := by rw [takeR, if_neg hnb, if_neg (by omega), ← eK, HN.out, if_pos hKn]
    rw [ER.out] at hR
    injection hR with r1 r2
    injection r2 with r2 r3
    have r3 := r3.symm
    subst r1 r2 r3
    have d6 : decide (n ≤ K) = true := decide_eq_true (by omega)
    clear hnb hgb hKn eK
    go_enter Try.func32, Try.ntmps32
    go_wp2_with (fail)
    go_ret2
    exact ⟨_, rfl, ⟨[], NIL.out _⟩, HI.out, World.grownBy.refl _ _⟩
end Go.Proofs.Ytgnciejbhaebeaa

/- A region that draws its order, by a relation for each operation: what each yields is told by a relation that stays true as the world grows; then whatever the order, all relations hold at the end. No order is gone through. Conditions: each slot is written once; no operation panics. -/
namespace Go.Proofs.Ytgnciejbhaebeaa
open Go Go.RowKit

/-- What an operand is, the slots told by f. -/
def evF (f : Nat → Value) : Operand → Value
  | .tmp t => f t
  | .const v => v
  | .global g => .pointer (some ⟨g, 0, none⟩)
  | .func k => .func (.func k) #[] #[]
theorem evF_eval (a : Act) : a.eval = evF (fun t => a.tmps.getD t undef) := by
  funext x
  cases x <;> rfl
/-- What an operation yields, and the world behind it; it does not panic. -/
def Gives (P : Program) (o : Oper) (f : Nat → Value) (w : World) (K : Value → World → Prop) : Prop :=
  match (execOp (evF f) o).run P w with
  | .ok (.value v) w' => K v w'
  | .ok .skip w' => K undef w'
  | .ok (.enter k args) w' => Calls P k args w' fun e w'' => ∃ v, e = .returned v ∧ K v w''
  | _ => False
theorem Gives.wp {P : Program} {o : Oper} {a : Act} {w : World} {K : Act → World → Prop} {Q : Exit → Act → World → Prop}
    (h : Gives P o (fun t => a.tmps.getD t undef) w (fun v w' => K (a.put o.dst v) w')) : Oper.wp P o a w K Q := by
  unfold Gives at h
  rw [← evF_eval] at h
  unfold Oper.wp
  generalize (execOp a.eval o).run P w = r at h
  cases r with
  | ok n w' =>
    cases n <;> simp only [Oper.upon] at h ⊢
    case value v => exact h
    case skip => exact h
    case enter k args => exact Calls.mono h fun e w'' ⟨v, he, hk⟩ => by subst he; exact hk
    all_goals exact h.elim
  | halt x w' => exact h.elim

def dstOf (ops : Array Oper) (i : Nat) : Option Tmp := (ops[i]?).bind (·.dst)
/-- Which value a guard's operation has yielded. -/
def yieldedF (ops : Array Oper) (f : Nat → Value) (j : Nat) : Option Bool :=
  match dstOf ops j with
  | some d => (match f d with | .bool b => some b | _ => none)
  | none => none
/-- Each slot is written once, and is there. -/
def slotsOk (ops : Array Oper) (n : Nat) : Bool :=
  (List.range ops.size).all fun i => (match dstOf ops i with
    | some d => decide (d < n) && (List.range ops.size).all (fun j => i == j || dstOf ops j != some d)
    | none => true) && (match ops[i]? with | some o => o.after.all (fun e => !Region.binds .any e || decide (e.on < i)) | none => true)
def depOn (ops : Array Oper) (i j : Nat) : Bool := match ops[i]? with | some o => o.after.any (fun e => Region.binds .any e && e.on == j) | none => false
def writes (ops : Array Oper) (t : Nat) : Bool := (List.range ops.size).any (fun j => dstOf ops j == some t)

section
variable {P : Program} {ops : Array Oper} {G : World → World → Prop} {R : Nat → World → Value → Prop} {a0 : Act} {W0 : World}

structure RInv (ops : Array Oper) (G : World → World → Prop) (R : Nat → World → Value → Prop) (a0 : Act) (W0 : World) (listed : Array Bool) (a : Act) (w : World) : Prop where
  grow : G W0 w
  defers : a.defers = a0.defers
  size : a.tmps.size = a0.tmps.size
  lsize : listed.size = ops.size
  frame : ∀ t, writes ops t = false → a.tmps.getD t undef = a0.tmps.getD t undef
  rel : ∀ j d, listed.getD j false = true → dstOf ops j = some d → R j w (a.tmps.getD d undef)

theorem dstOf_lt {i : Nat} {d : Tmp} (h : dstOf ops i = some d) : i < ops.size := by
  unfold dstOf at h
  rcases Nat.lt_or_ge i ops.size with hi | hi
  · exact hi
  · rw [Array.getElem?_eq_none hi] at h; cases h
theorem slotsOk_lt {n : Nat} (h : slotsOk ops n = true) {i : Nat} {d : Tmp} (hd : dstOf ops i = some d) : d < n := by
  have h1 := List.all_eq_true.1 h i (List.mem_range.2 (dstOf_lt hd))
  rw [hd] at h1
  simp only [Bool.and_eq_true, decide_eq_true_eq] at h1
  exact h1.1.1
theorem slotsOk_ne {n : Nat} (h : slotsOk ops n = true) {i j : Nat} {d : Tmp} (hd : dstOf ops i = some d) (hj : dstOf ops j = some d) : i = j := by
  have h1 := List.all_eq_true.1 h i (List.mem_range.2 (dstOf_lt hd))
  rw [hd] at h1
  simp only [Bool.and_eq_true, decide_eq_true_eq] at h1
  have h2 := List.all_eq_true.1 h1.1.2 j (List.mem_range.2 (dstOf_lt hj))
  simp only [Bool.or_eq_true, beq_iff_eq, bne_iff_ne] at h2
  rcases h2 with h2 | h2
  · exact h2
  · exact absurd hj h2
theorem slotsOk_back {n : Nat} (h : slotsOk ops n = true) {i : Nat} {o : Oper} (ho : ops[i]? = some o) (e : Edge) (he : e ∈ o.after) (hb : Region.binds .any e = true) : e.on < i := by
  have hi : i < ops.size := (Array.getElem?_eq_some_iff.1 ho).1
  have h1 := List.all_eq_true.1 h i (List.mem_range.2 hi)
  rw [ho] at h1
  simp only [Bool.and_eq_true] at h1
  have h2 := Array.all_eq_true_iff_forall_mem.1 h1.2 e he
  simpa [hb] using h2
theorem writes_of {j : Nat} {d : Tmp} (h : dstOf ops j = some d) : writes ops d = true :=
  List.any_eq_true.2 ⟨j, List.mem_range.2 (dstOf_lt h), by rw [h]; exact beq_self_eq_true _⟩
theorem yielded_eqF {n : Nat} (h : slotsOk ops n = true) (a : Act) (hs : a.tmps.size = n) : yielded ops a.tmps = yieldedF ops (fun t => a.tmps.getD t undef) := by
  funext j
  unfold yielded yieldedF
  show (match (dstOf ops j).bind (a.tmps[·]?) with | some (.bool b) => some b | _ => none) = _
  cases hd : dstOf ops j with
  | none => rfl
  | some d =>
    have hlt := slotsOk_lt h hd
    have e : a.tmps[d]? = some (a.tmps.getD d undef) := by
      rw [← hs] at hlt
      simp [hlt]
    simp only [Option.bind_some, e]
    generalize a.tmps.getD d undef = u
    cases u <;> rfl

theorem RInv.put {listed : Array Bool} {a : Act} {w w' : World} {i : Nat} {o : Oper} {v : Value} {n : Nat} (ho : ops[i]? = some o) (hok : slotsOk ops n = true) (hn : a0.tmps.size = n) (h : RInv ops G R a0 W0 listed a w)
    (ht : ∀ {a b c}, G a b → G b c → G a c) (hm : ∀ j {a b v}, R j a v → G a b → R j b v) (hg : G w w') (hr : R i w' v) (hi : i < ops.size) : RInv ops G R a0 W0 (listed.setIfInBounds i true) (a.put o.dst v) w' := by
  have hdo : dstOf ops i = o.dst := by unfold dstOf; rw [ho]; rfl
  have get : ∀ t, (a.put o.dst v).tmps.getD t undef = if o.dst = some t ∧ t < n then v else a.tmps.getD t undef := by
    intro t
    unfold Act.put
    cases hd : o.dst with
    | none => simp
    | some d =>
      by_cases e : d = t
      · subst e
        have hlt : d < n := slotsOk_lt hok (hdo.trans hd)
        have hlt2 : d < a.tmps.size := by rw [h.size, hn]; exact hlt
        simp [hlt, hlt2]
      · simp [e, Array.getElem?_setIfInBounds_ne e]
  refine ⟨ht h.grow hg, ?_, ?_, by simp [h.lsize], fun t hw => ?_, fun j d hl hd => ?_⟩
  · rw [← h.defers]; unfold Act.put; cases o.dst <;> rfl
  · rw [← h.size]; unfold Act.put; cases o.dst <;> simp
  · rw [get, if_neg, h.frame t hw]
    rintro ⟨e, _⟩
    have := writes_of (hdo.trans e)
    rw [hw] at this; cases this
  · rw [get]
    by_cases hji : j = i
    · subst hji
      rw [if_pos ⟨hdo.symm.trans hd, slotsOk_lt hok hd⟩]
      exact hr
    · rw [if_neg]
      · refine hm j (h.rel j d ?_ hd) hg
        rw [← hl]
        simp [Array.getElem?_setIfInBounds_ne (Ne.symm hji)]
      · rintro ⟨e, _⟩
        exact hji (slotsOk_ne hok hd (hdo.trans e))

/-- THE LAW. -/
theorem wp_region_rel (n : Nat) {id : Nat} {Q : Exit → Act → World → Prop} {a : Act} {w : World} (hm : P.follows .mixedOrders = true) (hn : a.tmps.size = n) (hok : slotsOk ops n = true)
    (G : World → World → Prop) (R : Nat → World → Value → Prop) (hr : ∀ w, G w w) (ht : ∀ {a b c}, G a b → G b c → G a c) (hmo : ∀ j {a b v}, R j a v → G a b → R j b v)
    (step : ∀ (i : Nat) (o : Oper), ops[i]? = some o → ∀ (f : Nat → Value) (w' : World), G w.drew w' → (∀ t, writes ops t = false → f t = a.tmps.getD t undef) →
      (∀ j d, depOn ops i j = true → dstOf ops j = some d → R j w' (f d)) → if Region.wanted o (yieldedF ops f) = true then Gives P o f w' (fun v w'' => G w' w'' ∧ R i w'' v) else R i w' undef)
    (fin : ∀ (f : Nat → Value) (w' : World), G w.drew w' → (∀ t, writes ops t = false → f t = a.tmps.getD t undef) → (∀ j d, dstOf ops j = some d → R j w' (f d)) → Q .normal ⟨((List.range n).map f).toArray, a.defers⟩ w') :
    (Code.region id ops true).wp P Q a w := by
  refine wp_region_any hm ?_
  have key : ∀ (fuel : Nat) (listed : Array Bool) (b : Act) (v : World), RInv ops G R a w.drew listed b v → ((List.range ops.size).countP (fun i => listed.getD i false == false)) ≤ fuel → wpAny P .any ops Q fuel listed b v := by
    intro fuel
    have done : ∀ (listed : Array Bool) (b : Act) (v : World), RInv ops G R a w.drew listed b v → Region.ready .any ops listed = [] → Q .normal b v := by
      intro listed b v h h0
      have all : ∀ i, i < ops.size → listed.getD i false = true := by
        intro i
        induction i using Nat.strongRecOn with
        | _ i ih =>
          intro hi
          cases hc : listed.getD i false with
          | true => rfl
          | false =>
            have hmem : i ∈ Region.ready .any ops listed := by
              refine mem_ready.2 ⟨?_, ops[i], by simp [hi], fun e he hb => ?_⟩
              · have : i < listed.size := by rw [h.lsize]; exact hi
                simp [this] at hc ⊢
                exact hc
              · have hlt := slotsOk_back hok (i := i) (o := ops[i]) (by simp [hi]) e he hb
                exact ih e.on hlt (by omega)
            rw [h0] at hmem; cases hmem
      have hb : b = ⟨((List.range n).map (fun t => b.tmps.getD t undef)).toArray, a.defers⟩ := by
        have hs : b.tmps.size = n := h.size.trans hn
        have e : b.tmps = ((List.range n).map (fun t => b.tmps.getD t undef)).toArray := by
          apply Array.ext
          · simp [hs]
          · intro i h1 h2
            simp [h1]
        rw [← h.defers, ← e]
      rw [hb]
      exact fin (fun t => b.tmps.getD t undef) v h.grow h.frame (fun j d hd => h.rel j d (all j (dstOf_lt hd)) hd)
    induction fuel with
    | zero =>
      intro listed b v h hc
      have h0 : Region.ready .any ops listed = [] := by
        apply List.eq_nil_iff_forall_not_mem.2
        intro i hi
        obtain ⟨h1, o, ho, _⟩ := mem_ready.1 hi
        have hlt : i < ops.size := (Array.getElem?_eq_some_iff.1 ho).1
        have h2 : listed.getD i false = false := by
          have : i < listed.size := by rw [h.lsize]; exact hlt
          simp [this] at h1 ⊢
          exact h1
        have := List.countP_eq_zero.1 (Nat.le_zero.1 hc) i (List.mem_range.2 hlt)
        rw [h2] at this
        exact this rfl
      exact ⟨h0, done listed b v h h0⟩
    | succ fuel ih =>
      intro listed b v h hc
      refine ⟨fun h0 => done listed b v h h0, fun i hi => ?_⟩
      obtain ⟨h1, o, ho, hall⟩ := mem_ready.1 hi
      have hlt : i < ops.size := (Array.getElem?_eq_some_iff.1 ho).1
      have hls : i < listed.size := by rw [h.lsize]; exact hlt
      have h2 : listed.getD i false = false := by
        simp [hls] at h1 ⊢
        exact h1
      have hcnt : (List.range ops.size).countP (fun k => (listed.setIfInBounds i true).getD k false == false) ≤ fuel := by
        have hsub : (List.range ops.size).countP (fun k => (listed.setIfInBounds i true).getD k false == false) < (List.range ops.size).countP (fun k => listed.getD k false == false) := by
          have gen : ∀ (l : List Nat), i ∈ l → l.countP (fun k => (listed.setIfInBounds i true).getD k false == false) < l.countP (fun k => listed.getD k false == false) := by
            have le : ∀ (l : List Nat), l.countP (fun k => (listed.setIfInBounds i true).getD k false == false) ≤ l.countP (fun k => listed.getD k false == false) := by
              intro l
              apply List.countP_mono_left
              intro k _ hk
              by_cases e : i = k
              · subst e; simp [hls] at hk
              · simpa [Array.getElem?_setIfInBounds_ne e] using hk
            intro l hl
            induction l with
            | nil => cases hl
            | cons k l ihl =>
              by_cases e : i = k
              · subst e
                have := le l
                have h2' : (listed.getD i false == false) = true := by rw [h2]; rfl
                rw [List.countP_cons_of_pos (p := fun k => listed.getD k false == false) (by exact h2'), List.countP_cons_of_neg (by simp [hls])]
                omega
              · have hl' : i ∈ l := by
                  rcases List.mem_cons.1 hl with h | h
                  · exact absurd h e
                  · exact h
                have := ihl hl'
                have e2 : (listed.setIfInBounds i true).getD k false = listed.getD k false := by simp [Array.getElem?_setIfInBounds_ne e]
                rw [List.countP_cons, List.countP_cons, e2]
                omega
          exact gen _ (List.mem_range.2 hlt)
        omega
      have hs := step i o ho (fun t => b.tmps.getD t undef) v h.grow h.frame (fun j d hj hd => by
        unfold depOn at hj
        rw [ho] at hj
        obtain ⟨q, hq, hb⟩ := Array.any_eq_true.1 hj
        have he : o.after[q] ∈ o.after := Array.getElem_mem hq
        generalize o.after[q] = e at he hb
        simp only [Bool.and_eq_true, beq_iff_eq] at hb
        have := hall e he hb.1
        rw [hb.2] at this
        exact h.rel j d this hd)
      unfold wpOp
      simp only [ho]
      rw [yielded_eqF hok b (h.size.trans hn)]
      split
      · rename_i hw
        rw [if_pos hw] at hs
        refine .inl (Gives.wp ?_)
        unfold Gives at hs ⊢
        generalize (execOp (evF fun t => b.tmps.getD t undef) o).run P v = r at hs
        cases r with
        | ok nx w' =>
          cases nx <;> simp only at hs ⊢
          case value u => exact ih _ _ _ (h.put ho hok hn ht hmo hs.1 hs.2 hlt) hcnt
          case skip => exact ih _ _ _ (h.put ho hok hn ht hmo hs.1 hs.2 hlt) hcnt
          case enter k args => exact Calls.mono hs fun e w'' ⟨u, he, hg, hR⟩ => ⟨u, he, ih _ _ _ (h.put ho hok hn ht hmo hg hR hlt) hcnt⟩
        | halt x w' => exact hs.elim
      · rename_i hw
        rw [if_neg hw] at hs
        exact ih _ _ _ (h.put ho hok hn ht hmo (hr v) hs hlt) hcnt
  refine key ops.size _ a _ ⟨hr _, rfl, rfl, by simp, fun t _ => rfl, fun j d hl hd => ?_⟩ ?_
  · have := dstOf_lt hd
    simp [this] at hl
  · refine Nat.le_trans List.countP_le_length ?_
    simp
end

/-! ### The relations as a list; the steps one by one -/
/-- A relation that stays true as the world grows. -/
structure Rl where
  R : World → Value → Prop
  mono : ∀ {a b : World} {v : Value}, R a v → Below a.heap.size a b → R b v
def Rl.eq (u : Value) : Rl := ⟨fun _ v => v = u, fun h _ => h⟩
def Rl.any : Rl := ⟨fun _ _ => True, fun h _ => h⟩
def relOf (l : List Rl) (i : Nat) : World → Value → Prop := (l.getD i Rl.any).R
def Gr (a b : World) : Prop := Below a.heap.size a b
theorem Gr.refl (a : World) : Gr a a := Below.refl _ _
theorem Gr.trans {a b c : World} (h : Gr a b) (k : Gr b c) : Gr a c := Below.trans h (Below.mono k h.size)
/-- Of each operation of the list, from number k on. -/
def AllFrom (Pr : Nat → Oper → Prop) : Nat → List Oper → Prop
  | _, [] => True
  | k, o :: l => Pr k o ∧ AllFrom Pr (k + 1) l
theorem AllFrom.nil_ {Pr : Nat → Oper → Prop} {k : Nat} : AllFrom Pr k [] := trivial
theorem AllFrom.cons_ {Pr : Nat → Oper → Prop} {k k' : Nat} {o : Oper} {l : List Oper} (hk : k' = k + 1) (h : Pr k o) (t : AllFrom Pr k' l) : AllFrom Pr k (o :: l) := by
  subst hk; exact ⟨h, t⟩
theorem AllFrom.out {Pr : Nat → Oper → Prop} : ∀ (l : List Oper) (k : Nat), AllFrom Pr k l → ∀ i o, l[i]? = some o → Pr (k + i) o
  | [], _, _, i, o, h => by simp at h
  | x :: l, k, h, 0, o, ho => by
    simp at ho; subst ho; exact h.1
  | x :: l, k, h, i + 1, o, ho => by
    have := AllFrom.out l (k + 1) h.2 i o (by simpa using ho)
    rwa [Nat.add_assoc, Nat.add_comm 1 i] at this
/-- One operation's step. -/
def Stp (P : Program) (ops : Array Oper) (a : Act) (W : World) (l : List Rl) (i : Nat) (o : Oper) : Prop :=
  ∀ (f : Nat → Value) (w : World), Gr W w → (∀ t, writes ops t = false → f t = a.tmps.getD t undef) →
      (∀ j d, depOn ops i j = true → dstOf ops j = some d → relOf l j w (f d)) → if Region.wanted o (yieldedF ops f) = true then Gives P o f w (fun v w'' => Gr w w'' ∧ relOf l i w'' v) else relOf l i w undef
theorem wp_region_rl {P : Program} (n : Nat) (l : List Rl) {id : Nat} {os : List Oper} {Q : Exit → Act → World → Prop} {a : Act} {w : World} (hm : P.follows .mixedOrders = true) (hn : a.tmps.size = n) (hok : slotsOk os.toArray n = true)
    (steps : AllFrom (Stp P os.toArray a w.drew l) 0 os)
    (fin : ∀ (f : Nat → Value) (w' : World), Gr w.drew w' → (∀ t, writes os.toArray t = false → f t = a.tmps.getD t undef) → (∀ j d, dstOf os.toArray j = some d → relOf l j w' (f d)) → Q .normal ⟨((List.range n).map f).toArray, a.defers⟩ w') :
    (Code.region id os.toArray true).wp P Q a w := by
  refine wp_region_rel n hm hn hok Gr (relOf l) Gr.refl Gr.trans (fun j _ _ _ h g => (l.getD j Rl.any).mono h g) (fun i o ho => ?_) fin
  have := AllFrom.out os 0 steps i o (by simpa using ho)
  rw [Nat.zero_add] at this
  exact this
theorem wanted_none {o : Oper} {y : Nat → Option Bool} (h : o.guard = none) : Region.wanted o y = true := by unfold Region.wanted; rw [h]
theorem wanted_some {ops : Array Oper} {o : Oper} {f : Nat → Value} {j : Nat} {b : Bool} {d : Tmp} (h : o.guard = some (j, b)) (hd : dstOf ops j = some d) (hf : f d = .bool b) : Region.wanted o (yieldedF ops f) = true := by
  unfold Region.wanted yieldedF; rw [h]; simp only [hd, hf, beq_self_eq_true]
theorem gives_val {P : Program} {o : Oper} {f : Nat → Value} {w w' : World} {v : Value} {K : Value → World → Prop} (h : (execOp (evF f) o).run P w = .ok (.value v) w') (hK : K v w') : Gives P o f w K := by
  unfold Gives; rw [h]; exact hK
theorem gives_call {P : Program} {o : Oper} {f : Nat → Value} {w w' : World} {k : FuncId} {args : Array Value} {K : Value → World → Prop} (h : (execOp (evF f) o).run P w = .ok (.enter k args) w') (hK : Calls P k args w' fun e w'' => ∃ v, e = .returned v ∧ K v w'') : Gives P o f w K := by
  unfold Gives; rw [h]; exact hK
/-- A call of a Go function with a body. -/
theorem gives_func {P : Program} {o : Oper} {f : Nat → Value} {w : World} {k : FuncId} {xs : Array Operand} {ats : Array TypeId} {fn : Func} {c : Code} {K : Value → World → Prop} (ho : o.op = .call { callee := .value (.func k), args := xs, argTypes := ats })
    (hf : P.funcs[k]? = some fn) (hname : (fn.name == "runtime.NumGoroutine") = false) (hb : fn.body = some c) {args : Array Value} (ha : xs.map (evF f) = args)
    (hK : Calls P k args w fun e w'' => ∃ v, e = .returned v ∧ K v w'') : Gives P o f w K := by
  subst ha
  refine gives_call (k := k) ?_ hK
  have h1 : fn.name ≠ "runtime.NumGoroutine" := by simpa using hname
  have e : execOp (evF f) o = callFunc k (#[] ++ xs.map (evF f) ++ #[]) := by
    unfold execOp; rw [ho]; rfl
  rw [e]
  simp [callFunc, hf, h1, hb]
/-- The slots of ws are written among these. -/
def putAll (f : Nat → Value) : List Nat → Array Value → Array Value
  | [], T => T
  | t :: l, T => putAll f l (T.setIfInBounds t (f t))
theorem putAll_size (f : Nat → Value) : ∀ (l : List Nat) (T : Array Value), (putAll f l T).size = T.size
  | [], _ => rfl
  | t :: l, T => by rw [putAll, putAll_size f l]; simp
theorem putAll_get (f : Nat → Value) : ∀ (l : List Nat) (T : Array Value) (t : Nat), t < T.size → (t ∈ l ∨ T.getD t undef = f t) → (putAll f l T).getD t undef = f t
  | [], _, _, _, h => by
    rcases h with h | h
    · cases h
    · exact h
  | x :: l, T, t, ht, h => by
    rw [putAll]
    refine putAll_get f l _ t (by simpa using ht) ?_
    by_cases e : x = t
    · subst e
      exact .inr (by simp [ht])
    · rcases h with h | h
      · rcases List.mem_cons.1 h with h | h
        · exact absurd h.symm e
        · exact .inl h
      · exact .inr (by rw [← h]; simp [Array.getElem?_setIfInBounds_ne e])
def allIn (ops : Array Oper) (ws : List Nat) : Bool := (List.range ops.size).all fun j => match dstOf ops j with | some d => ws.contains d | none => true
/-- THE LAW, the frame behind it told by the slots that are written. -/
theorem wp_region_rw {P : Program} (n : Nat) (l : List Rl) (ws : List Nat) {id : Nat} {os : List Oper} {Q : Exit → Act → World → Prop} {a : Act} {w : World} (hm : P.follows .mixedOrders = true) (hn : a.tmps.size = n) (hok : slotsOk os.toArray n = true) (hws : allIn os.toArray ws = true)
    (steps : AllFrom (Stp P os.toArray a w.drew l) 0 os)
    (fin : ∀ (f : Nat → Value) (w' : World), Gr w.drew w' → (∀ j d, dstOf os.toArray j = some d → relOf l j w' (f d)) → Q .normal ⟨putAll f ws a.tmps, a.defers⟩ w') :
    (Code.region id os.toArray true).wp P Q a w := by
  refine wp_region_rl n l hm hn hok steps (fun f w' g hF hD => ?_)
  have e : ((List.range n).map f).toArray = putAll f ws a.tmps := by
    apply Array.ext
    · rw [putAll_size, hn]; simp
    · intro t h1 h2
      have ht : t < n := by simpa using h1
      have h3 := putAll_get f ws a.tmps t (by rw [hn]; exact ht) (by
        by_cases hw : writes os.toArray t = true
        · left
          obtain ⟨j, hj, hd⟩ := List.any_eq_true.1 hw
          have hd := beq_iff_eq.1 hd
          have := List.all_eq_true.1 hws j hj
          rw [hd] at this
          simpa using this
        · right
          exact (hF t (by simpa using hw)).symm)
      have h4 : (putAll f ws a.tmps)[t] = f t := by
        rw [← h3]; simp [h2]
      rw [h4]; simp
  rw [e]
  exact fin f w' g hD
end Go.Proofs.Ytgnciejbhaebeaa

/- A region that draws its order and whose last operation waits for all others: the others by relations, the last one at the end. Conditions: each slot is written once; no operation ahead of the last one panics. -/
namespace Go.Proofs.Ytgnciejbhaebeaa
open Go Go.RowKit

/-- A value built of parts. -/
theorem gives_build {P : Program} {o : Oper} {f : Nat → Value} {w : World} {K : Value → World → Prop} (t : TypeId) (parts : Array (Nat × Operand)) (ho : o.op = .build t parts) (cells : Array Value)
    (hf : P.built t (parts.map fun (i, x) => (i, evF f x)).toList = some cells) (hK : K (.agg cells) w) : Gives P o f w K := by
  refine gives_val (v := .agg cells) ?_ hK
  unfold execOp
  simp only [ho]
  rw [Sem.run_bind, run_build w t _ cells hf]
  rfl

/-- A row of cells loaded whole. -/
theorem gives_load_row {P : Program} {o : Oper} {f : Nat → Value} {w : World} {K : Value → World → Prop} (ty : TypeId) (x : Operand) (ho : o.op = .load ty x)
    (g : Nat) (hx : evF f x = .pointer (some ⟨g, 0, none⟩)) (t : TypeId) (cs : Array Value) (fr : Nat × Nat) (d : TypeDesc) (hg : w.heap[g]? = some (.cells cs t fr))
    (hu : P.underlying ty = some d) (hd : (match d with | .struct _ | .array _ _ => true | _ => false) = true) (hi : (P.info? ty).map (·.size) = some cs.size) (hK : K (.agg cs) w) : Gives P o f w K := by
  refine gives_val (v := .agg cs) ?_ hK
  unfold execOp
  simp only [ho, hx, Instr.loadAt, Instr.sureAddr, Sem.run_bind, Sem.run_pure, Result.andThen_ok, run_loadVar_row w g t ty cs fr d hg hu hd hi]

/-- The operations that these wait for. -/
def ups (ops : Array Oper) : Nat → List Nat → List Nat
  | 0, S => S
  | k + 1, S => ups ops k (S ++ (List.range ops.size).filter (fun j => S.any (fun i => depOn ops i j) && !S.contains j))
def waitsAll (ops : Array Oper) (m : Nat) : Bool := (List.range m).all (fun j => (ups ops m [m]).contains j)
theorem ups_in (ops : Array Oper) (T : Nat → Prop) (hc : ∀ i j, T i → depOn ops i j = true → T j) : ∀ (k : Nat) (S : List Nat), (∀ j ∈ S, T j) → ∀ j ∈ ups ops k S, T j
  | 0, _, h, j, hj => h j hj
  | k + 1, S, h, j, hj => by
    refine ups_in ops T hc k _ (fun x hx => ?_) j hj
    rcases List.mem_append.1 hx with hx | hx
    · exact h x hx
    · have h1 := (List.mem_filter.1 hx).2
      simp only [Bool.and_eq_true, List.any_eq_true] at h1
      obtain ⟨⟨i, hi, hd⟩, _⟩ := h1
      exact hc i x (h i hi) hd

section
variable {P : Program} {ops : Array Oper} {G : World → World → Prop} {R : Nat → World → Value → Prop} {a0 : Act} {W0 : World}
theorem wp_region_rel_last (n m : Nat) {id : Nat} {Q : Exit → Act → World → Prop} {a : Act} {w : World} (hm : P.follows .mixedOrders = true) (hn : a.tmps.size = n) (hok : slotsOk ops n = true)
    (hsz : ops.size = m + 1) (hwa : waitsAll ops m = true) (ol : Oper) (hol : ops[m]? = some ol) (hgd : ol.guard = none)
    (G : World → World → Prop) (R : Nat → World → Value → Prop) (hr : ∀ w, G w w) (ht : ∀ {a b c}, G a b → G b c → G a c) (hmo : ∀ j {a b v}, R j a v → G a b → R j b v)
    (step : ∀ (i : Nat) (o : Oper), i < m → ops[i]? = some o → ∀ (f : Nat → Value) (w' : World), G w.drew w' → (∀ t, writes ops t = false → f t = a.tmps.getD t undef) →
      (∀ j d, depOn ops i j = true → dstOf ops j = some d → R j w' (f d)) → if Region.wanted o (yieldedF ops f) = true then Gives P o f w' (fun v w'' => G w' w'' ∧ R i w'' v) else R i w' undef)
    (fin : ∀ (f : Nat → Value) (w' : World), G w.drew w' → (∀ t, writes ops t = false → f t = a.tmps.getD t undef) → (∀ j d, j < m → dstOf ops j = some d → R j w' (f d)) → wpList P ops Q [ol] ⟨((List.range n).map f).toArray, a.defers⟩ w') :
    (Code.region id ops true).wp P Q a w := by
  refine wp_region_any hm ?_
  have fulls : ∀ (listed : Array Bool), (∀ i, i < ops.size → listed.getD i false = true) → listed.size = ops.size → Region.ready .any ops listed = [] := by
    intro listed hall hls
    apply List.eq_nil_iff_forall_not_mem.2
    intro i hi
    obtain ⟨h1, o, ho, _⟩ := mem_ready.1 hi
    have hlt : i < ops.size := (Array.getElem?_eq_some_iff.1 ho).1
    have h2 := hall i hlt
    have : i < listed.size := by rw [hls]; exact hlt
    simp [this] at h1 h2
    rw [h1] at h2; cases h2
  have full : ∀ (fuel : Nat) (listed : Array Bool) (b : Act) (v : World), (∀ i, i < ops.size → listed.getD i false = true) → listed.size = ops.size → Q .normal b v → wpAny P .any ops Q fuel listed b v := by
    intro fuel listed b v hall hls hq
    have h0 := fulls listed hall hls
    cases fuel with
    | zero => exact ⟨h0, hq⟩
    | succ k => exact ⟨fun _ => hq, fun i hi => by rw [h0] at hi; cases hi⟩
  have key : ∀ (fuel : Nat) (listed : Array Bool) (b : Act) (v : World), RInv ops G R a w.drew listed b v → (∀ i j, listed.getD i false = true → depOn ops i j = true → listed.getD j false = true) → listed.getD m false = false →
      ((List.range ops.size).countP (fun i => listed.getD i false == false)) ≤ fuel → wpAny P .any ops Q fuel listed b v := by
    have mready : ∀ (listed : Array Bool), listed.size = ops.size → listed.getD m false = false → Region.ready .any ops listed ≠ [] := by
      intro listed hls hml h0
      have all : ∀ i, i < ops.size → listed.getD i false = true := by
        intro i
        induction i using Nat.strongRecOn with
        | _ i ih =>
          intro hi
          cases hc : listed.getD i false with
          | true => rfl
          | false =>
            have hmem : i ∈ Region.ready .any ops listed := by
              refine mem_ready.2 ⟨?_, ops[i], by simp [hi], fun e he hb => ?_⟩
              · have : i < listed.size := by rw [hls]; exact hi
                simp [this] at hc ⊢
                exact hc
              · have hlt := slotsOk_back hok (i := i) (o := ops[i]) (by simp [hi]) e he hb
                exact ih e.on hlt (by omega)
            rw [h0] at hmem; cases hmem
      have := all m (by omega)
      rw [hml] at this; cases this
    intro fuel
    induction fuel with
    | zero =>
      intro listed b v h _ hml hc
      have := List.countP_eq_zero.1 (Nat.le_zero.1 hc) m (List.mem_range.2 (by omega))
      rw [hml] at this
      exact absurd rfl this
    | succ fuel ih =>
      intro listed b v h hcl hml hc
      refine ⟨fun h0 => absurd h0 (mready listed h.lsize hml), fun i hi => ?_⟩
      obtain ⟨h1, o, ho, hall⟩ := mem_ready.1 hi
      have hlt : i < ops.size := (Array.getElem?_eq_some_iff.1 ho).1
      have hls : i < listed.size := by rw [h.lsize]; exact hlt
      have h2 : listed.getD i false = false := by
        simp [hls] at h1 ⊢
        exact h1
      have hdep : ∀ j, depOn ops i j = true → listed.getD j false = true := by
        intro j hj
        unfold depOn at hj
        rw [ho] at hj
        obtain ⟨q, hq, hb⟩ := Array.any_eq_true.1 hj
        have he : o.after[q] ∈ o.after := Array.getElem_mem hq
        generalize o.after[q] = e at he hb
        simp only [Bool.and_eq_true, beq_iff_eq] at hb
        have := hall e he hb.1
        rw [hb.2] at this
        exact this
      have hcl' : ∀ p j, (listed.setIfInBounds i true).getD p false = true → depOn ops p j = true → (listed.setIfInBounds i true).getD j false = true := by
        intro p j hp hd
        have h3 : listed.getD j false = true := by
          by_cases e : i = p
          · subst e; exact hdep j hd
          · exact hcl p j (by rw [← hp]; simp [Array.getElem?_setIfInBounds_ne e]) hd
        by_cases e : i = j
        · subst e; simp [hls]
        · rw [← h3]; simp [Array.getElem?_setIfInBounds_ne e]
      have hcnt : (List.range ops.size).countP (fun k => (listed.setIfInBounds i true).getD k false == false) ≤ fuel := by
        have hsub : (List.range ops.size).countP (fun k => (listed.setIfInBounds i true).getD k false == false) < (List.range ops.size).countP (fun k => listed.getD k false == false) := by
          have gen : ∀ (l : List Nat), i ∈ l → l.countP (fun k => (listed.setIfInBounds i true).getD k false == false) < l.countP (fun k => listed.getD k false == false) := by
            have le : ∀ (l : List Nat), l.countP (fun k => (listed.setIfInBounds i true).getD k false == false) ≤ l.countP (fun k => listed.getD k false == false) := by
              intro l
              apply List.countP_mono_left
              intro k _ hk
              by_cases e : i = k
              · subst e; simp [hls] at hk
              · simpa [Array.getElem?_setIfInBounds_ne e] using hk
            intro l hl
            induction l with
            | nil => cases hl
            | cons k l ihl =>
              by_cases e : i = k
              · subst e
                have := le l
                have h2' : (listed.getD i false == false) = true := by rw [h2]; rfl
                rw [List.countP_cons_of_pos (p := fun k => listed.getD k false == false) (by exact h2'), List.countP_cons_of_neg (by simp [hls])]
                omega
              · have hl' : i ∈ l := by
                  rcases List.mem_cons.1 hl with h | h
                  · exact absurd h e
                  · exact h
                have := ihl hl'
                have e2 : (listed.setIfInBounds i true).getD k false = listed.getD k false := by simp [Array.getElem?_setIfInBounds_ne e]
                rw [List.countP_cons, List.countP_cons, e2]
                omega
          exact gen _ (List.mem_range.2 hlt)
        omega
      by_cases him : i = m
      · -- the last one
        subst him
        rw [hol] at ho
        injection ho with ho
        subst ho
        have others : ∀ j, j < i → listed.getD j false = true := by
          intro j hj
          have h4 := List.all_eq_true.1 hwa j (List.mem_range.2 hj)
          have h5 := ups_in ops (fun x => x = i ∨ listed.getD x false = true) (fun p q hp hd => by
            rcases hp with rfl | hp
            · exact .inr (hdep q hd)
            · exact .inr (hcl p q hp hd)) i [i] (fun x hx => .inl (by simpa using hx)) j (by simpa using h4)
          rcases h5 with h5 | h5
          · omega
          · exact h5
        have hallL : ∀ k, k < ops.size → (listed.setIfInBounds i true).getD k false = true := by
          intro k hk
          by_cases e : i = k
          · subst e; simp [hls]
          · rw [← others k (by omega)]; simp [Array.getElem?_setIfInBounds_ne e]
        have hb : b = ⟨((List.range n).map (fun t => b.tmps.getD t undef)).toArray, a.defers⟩ := by
          have hs : b.tmps.size = n := h.size.trans hn
          have e : b.tmps = ((List.range n).map (fun t => b.tmps.getD t undef)).toArray := by
            apply Array.ext
            · simp [hs]
            · intro i h1 h2
              simp [h1]
          rw [← h.defers, ← e]
        have hf := fin (fun t => b.tmps.getD t undef) v h.grow h.frame (fun j d hj hd => h.rel j d (others j hj) hd)
        rw [← hb] at hf
        unfold wpOp
        simp only [hol]
        unfold wpList at hf
        rw [if_pos (wanted_none hgd)] at hf ⊢
        exact hf.imp (Oper.wp_mono (fun b' v' hq => full fuel _ b' v' hallL (by simp [h.lsize]) hq)) (fun h => h)
      · have hml' : (listed.setIfInBounds i true).getD m false = false := by
          have e : (listed.setIfInBounds i true).getD m false = listed.getD m false := by simp [Array.getElem?_setIfInBounds_ne him]
          rw [e]; exact hml
        have hs := step i o (by omega) ho (fun t => b.tmps.getD t undef) v h.grow h.frame (fun j d hj hd => h.rel j d (hdep j hj) hd)
        unfold wpOp
        simp only [ho]
        rw [yielded_eqF hok b (h.size.trans hn)]
        split
        · rename_i hw
          rw [if_pos hw] at hs
          refine .inl (Gives.wp ?_)
          unfold Gives at hs ⊢
          generalize (execOp (evF fun t => b.tmps.getD t undef) o).run P v = r at hs
          cases r with
          | ok nx w' =>
            cases nx <;> simp only at hs ⊢
            case value u => exact ih _ _ _ (h.put ho hok hn ht hmo hs.1 hs.2 hlt) hcl' hml' hcnt
            case skip => exact ih _ _ _ (h.put ho hok hn ht hmo hs.1 hs.2 hlt) hcl' hml' hcnt
            case enter k args => exact Calls.mono hs fun e w'' ⟨u, he, hg, hR⟩ => ⟨u, he, ih _ _ _ (h.put ho hok hn ht hmo hg hR hlt) hcl' hml' hcnt⟩
          | halt x w' => exact hs.elim
        · rename_i hw
          rw [if_neg hw] at hs
          exact ih _ _ _ (h.put ho hok hn ht hmo (hr v) hs hlt) hcl' hml' hcnt
  have none0 : ∀ i, (Array.replicate ops.size false).getD i false = false := by
    intro i
    by_cases h : i < ops.size
    · simp [h]
    · simp [h]
  refine key ops.size _ a _ ⟨hr _, rfl, rfl, by simp, fun t _ => rfl, fun j d hl hd => ?_⟩ (fun i j hi _ => ?_) (none0 m) ?_
  · rw [none0] at hl; cases hl
  · rw [none0] at hi; cases hi
  · refine Nat.le_trans List.countP_le_length ?_
    simp
end

theorem AllFrom.outlt {Pr : Nat → Oper → Prop} (l l2 : List Oper) (h : AllFrom Pr 0 l) : ∀ i o, i < l.length → (l ++ l2)[i]? = some o → Pr i o := by
  intro i o hi ho
  rw [List.getElem?_append_left hi] at ho
  have := AllFrom.out l 0 h i o ho
  rwa [Nat.zero_add] at this
/-- THE LAW, the last operation apart: the frame told by the slots that are written. -/
theorem wp_region_rs {P : Program} (n m : Nat) (l : List Rl) (ws : List Nat) {id : Nat} {os : List Oper} {Q : Exit → Act → World → Prop} {a : Act} {w : World} (hm : P.follows .mixedOrders = true) (hn : a.tmps.size = n) (hok : slotsOk os.toArray n = true) (hws : allIn os.toArray ws = true)
    (o : Oper) (hos : os = os.take m ++ [o]) (hml : (os.take m).length = m) (hwa : waitsAll os.toArray m = true) (hgd : o.guard = none)
    (steps : AllFrom (Stp P os.toArray a w.drew l) 0 (os.take m))
    (fin : ∀ (f : Nat → Value) (w' : World), Gr w.drew w' → (∀ j d, j < m → dstOf os.toArray j = some d → relOf l j w' (f d)) → (∀ t, writes os.toArray t = false → f t = a.tmps.getD t undef) → wpList P os.toArray Q [o] ⟨putAll f ws a.tmps, a.defers⟩ w') :
    (Code.region id os.toArray true).wp P Q a w := by
  have hl : os.length = m + 1 := by rw [hos, List.length_append, hml]; rfl
  refine wp_region_rel_last n m hm hn hok (by simpa using hl) hwa o (by rw [List.getElem?_toArray, hos, List.getElem?_append_right (by omega), hml]; simp) hgd Gr (relOf l) Gr.refl Gr.trans (fun j _ _ _ h g => (l.getD j Rl.any).mono h g) (fun i o' hi ho => ?_) (fun f w' g hF hD => ?_)
  · refine AllFrom.outlt (os.take m) [o] steps i o' (by omega) ?_
    rw [← hos]
    simpa using ho
  · have e : ((List.range n).map f).toArray = putAll f ws a.tmps := by
      apply Array.ext
      · rw [putAll_size, hn]; simp
      · intro t h1 h2
        have ht : t < n := by simpa using h1
        have h3 := putAll_get f ws a.tmps t (by rw [hn]; exact ht) (by
          by_cases hw : writes os.toArray t = true
          · left
            obtain ⟨j, hj, hd⟩ := List.any_eq_true.1 hw
            have hd := beq_iff_eq.1 hd
            have := List.all_eq_true.1 hws j hj
            rw [hd] at this
            simpa using this
          · right
            exact (hF t (by simpa using hw)).symm)
        have h4 : (putAll f ws a.tmps)[t] = f t := by
          rw [← h3]; simp [h2]
        rw [h4]; simp
    rw [e]
    exact fin f w' g hD hF
end Go.Proofs.Ytgnciejbhaebeaa

/- A region that draws its order and ends in a tail that waits for all others: the others by relations, the tail one behind the other. Conditions: each slot is written once; no operation ahead of the tail panics. -/
namespace Go.Proofs.Ytgnciejbhaebeaa
open Go Go.RowKit

/-- Slots that operations ahead of number m write. -/
def writesTo (ops : Array Oper) (m t : Nat) : Bool := (List.range m).any (fun j => dstOf ops j == some t)
structure RInvT (ops : Array Oper) (m : Nat) (G : World → World → Prop) (R : Nat → World → Value → Prop) (a0 : Act) (W0 : World) (listed : Array Bool) (a : Act) (w : World) : Prop where
  grow : G W0 w
  defers : a.defers = a0.defers
  size : a.tmps.size = a0.tmps.size
  lsize : listed.size = ops.size
  frame : ∀ t, writesTo ops m t = false → a.tmps.getD t undef = a0.tmps.getD t undef
  rel : ∀ j d, listed.getD j false = true → dstOf ops j = some d → R j w (a.tmps.getD d undef)
theorem RInvT.put {ops : Array Oper} {m : Nat} {G : World → World → Prop} {R : Nat → World → Value → Prop} {a0 : Act} {W0 : World} {listed : Array Bool} {a : Act} {w w' : World} {i : Nat} {o : Oper} {v : Value} {n : Nat} (him : i < m) (ho : ops[i]? = some o) (hok : slotsOk ops n = true) (hn : a0.tmps.size = n) (h : RInvT ops m G R a0 W0 listed a w)
    (ht : ∀ {a b c}, G a b → G b c → G a c) (hm : ∀ j {a b v}, R j a v → G a b → R j b v) (hg : G w w') (hr : R i w' v) (hi : i < ops.size) : RInvT ops m G R a0 W0 (listed.setIfInBounds i true) (a.put o.dst v) w' := by
  have hdo : dstOf ops i = o.dst := by unfold dstOf; rw [ho]; rfl
  have get : ∀ t, (a.put o.dst v).tmps.getD t undef = if o.dst = some t ∧ t < n then v else a.tmps.getD t undef := by
    intro t
    unfold Act.put
    cases hd : o.dst with
    | none => simp
    | some d =>
      by_cases e : d = t
      · subst e
        have hlt : d < n := slotsOk_lt hok (hdo.trans hd)
        have hlt2 : d < a.tmps.size := by rw [h.size, hn]; exact hlt
        simp [hlt, hlt2]
      · simp [e, Array.getElem?_setIfInBounds_ne e]
  refine ⟨ht h.grow hg, ?_, ?_, by simp [h.lsize], fun t hw => ?_, fun j d hl hd => ?_⟩
  · rw [← h.defers]; unfold Act.put; cases o.dst <;> rfl
  · rw [← h.size]; unfold Act.put; cases o.dst <;> simp
  · rw [get, if_neg, h.frame t hw]
    rintro ⟨e, _⟩
    have : writesTo ops m t = true := List.any_eq_true.2 ⟨i, List.mem_range.2 him, by rw [hdo, e]; exact beq_self_eq_true _⟩
    rw [hw] at this; cases this
  · rw [get]
    by_cases hji : j = i
    · subst hji
      rw [if_pos ⟨hdo.symm.trans hd, slotsOk_lt hok hd⟩]
      exact hr
    · rw [if_neg]
      · refine hm j (h.rel j d ?_ hd) hg
        rw [← hl]
        simp [Array.getElem?_setIfInBounds_ne (Ne.symm hji)]
      · rintro ⟨e, _⟩
        exact hji (slotsOk_ne hok hd (hdo.trans e))
/-- One operation's step, ahead of the tail. -/
def StpT (P : Program) (ops : Array Oper) (m : Nat) (a : Act) (W : World) (l : List Rl) (i : Nat) (o : Oper) : Prop :=
  ∀ (f : Nat → Value) (w : World), Gr W w → (∀ t, writesTo ops m t = false → f t = a.tmps.getD t undef) →
      (∀ j d, depOn ops i j = true → dstOf ops j = some d → relOf l j w (f d)) → if Region.wanted o (yieldedF ops f) = true then Gives P o f w (fun v w'' => Gr w w'' ∧ relOf l i w'' v) else relOf l i w undef

/-- From m on each operation waits for the one ahead of it. -/
def chained (ops : Array Oper) (m : Nat) : Bool := (List.range ops.size).all (fun j => decide (j ≤ m) || depOn ops j (j - 1))
section
variable {P : Program} {ops : Array Oper} {Q : Exit → Act → World → Prop}
theorem not_ready_of {listed : Array Bool} {i : Nat} (hi : i ∈ Region.ready .any ops listed) : ∀ j, depOn ops i j = true → listed.getD j false = true := by
  obtain ⟨h1, o, ho, hall⟩ := mem_ready.1 hi
  intro j hj
  unfold depOn at hj
  rw [ho] at hj
  obtain ⟨q, hq, hb⟩ := Array.any_eq_true.1 hj
  have he : o.after[q] ∈ o.after := Array.getElem_mem hq
  generalize o.after[q] = e at he hb
  simp only [Bool.and_eq_true, beq_iff_eq] at hb
  have := hall e he hb.1
  rw [hb.2] at this
  exact this
theorem ready_open {listed : Array Bool} {i : Nat} (hls : listed.size = ops.size) (hi : i ∈ Region.ready .any ops listed) : listed.getD i false = false ∧ i < ops.size := by
  obtain ⟨h1, o, ho, _⟩ := mem_ready.1 hi
  have hlt : i < ops.size := (Array.getElem?_eq_some_iff.1 ho).1
  have : i < listed.size := by rw [hls]; exact hlt
  simp [this] at h1 ⊢
  exact ⟨h1, hlt⟩
theorem ready_mk {n : Nat} (hok : slotsOk ops n = true) {listed : Array Bool} (hls : listed.size = ops.size) {i : Nat} (hi : i < ops.size) (h0 : listed.getD i false = false) (hall : ∀ j, j < i → listed.getD j false = true) : i ∈ Region.ready .any ops listed := by
  refine mem_ready.2 ⟨?_, ops[i], by simp [hi], fun e he hb => ?_⟩
  · have : i < listed.size := by rw [hls]; exact hi
    simp [this] at h0 ⊢
    exact h0
  · have hlt := slotsOk_back hok (i := i) (o := ops[i]) (by simp [hi]) e he hb
    exact hall e.on hlt
theorem set_get (listed : Array Bool) (i j : Nat) (hls : i < listed.size) : (listed.setIfInBounds i true).getD j false = if i = j then true else listed.getD j false := by
  split
  · rename_i e; subst e; simp [hls]
  · rename_i e; simp [Array.getElem?_setIfInBounds_ne e]

theorem tailAny {n m : Nat} (hok : slotsOk ops n = true) (hch : chained ops m = true) : ∀ (r fuel : Nat) (listed : Array Bool) (b : Act) (v : World), listed.size = ops.size → r ≤ ops.size → m ≤ ops.size - r →
    (∀ i, i < ops.size → (listed.getD i false = true ↔ i < ops.size - r)) → r ≤ fuel → wpList P ops Q (ops.toList.drop (ops.size - r)) b v → wpAny P .any ops Q fuel listed b v := by
  intro r
  induction r with
  | zero =>
    intro fuel listed b v hls _ _ hl _ hq
    have h0 : Region.ready .any ops listed = [] := by
      apply List.eq_nil_iff_forall_not_mem.2
      intro i hi
      obtain ⟨h1, h2⟩ := ready_open hls hi
      have := (hl i h2).2 (by omega)
      rw [h1] at this; cases this
    have hq' : Q .normal b v := by
      rw [Nat.sub_zero, List.drop_of_length_le (by simp)] at hq
      exact hq
    cases fuel with
    | zero => exact ⟨h0, hq'⟩
    | succ k => exact ⟨fun _ => hq', fun i hi => by rw [h0] at hi; cases hi⟩
  | succ r ih =>
    intro fuel listed b v hls hr hm hl hf hq
    obtain ⟨j, ej⟩ : ∃ j, j = ops.size - (r + 1) := ⟨_, rfl⟩
    have hj : j < ops.size := by omega
    have hj0 : listed.getD j false = false := by
      cases h : listed.getD j false
      · rfl
      · have := (hl j hj).1 h; omega
    have hjr : j ∈ Region.ready .any ops listed := ready_mk hok hls hj hj0 (fun i hi => (hl i (by omega)).2 (by omega))
    cases fuel with
    | zero => omega
    | succ k =>
      refine ⟨fun h0 => (by rw [h0] at hjr; cases hjr), fun i hi => ?_⟩
      obtain ⟨h1, h2⟩ := ready_open hls hi
      have hij : i = j := by
        have hge : j ≤ i := by
          rcases Nat.lt_or_ge i j with h | h
          · have := (hl i h2).2 (by omega)
            rw [h1] at this; cases this
          · exact h
        rcases Nat.eq_or_lt_of_le hge with h | h
        · exact h.symm
        · have h3 := List.all_eq_true.1 hch i (List.mem_range.2 h2)
          simp only [Bool.or_eq_true, decide_eq_true_eq] at h3
          rcases h3 with h3 | h3
          · omega
          · have h4 := not_ready_of hi (i - 1) h3
            have := (hl (i - 1) (by omega)).1 h4
            omega
      subst hij
      have hd : ops.toList.drop i = ops[i] :: ops.toList.drop (i + 1) := by
        rw [List.drop_eq_getElem_cons (by simpa using hj)]
        simp
      rw [← ej, hd] at hq
      have hw : wpOp P ops Q i (wpList P ops Q (ops.toList.drop (i + 1))) b v := by
        unfold wpOp
        rw [Array.getElem?_eq_getElem hj]
        exact hq
      refine wpOp_mono (fun b' v' hq' => ih k _ b' v' (by simpa using hls) (by omega) (by omega) (fun q hqs => ?_) (by omega) ?_) hw
      · rw [set_get _ _ _ (by rw [hls]; exact hj)]
        split
        · simp; omega
        · rw [hl q hqs]; omega
      · rw [show ops.size - r = i + 1 by omega]; exact hq'

variable {G : World → World → Prop} {R : Nat → World → Value → Prop} {a0 : Act} {W0 : World}
theorem wp_region_rel_tail (n m : Nat) {id : Nat} {a : Act} {w : World} (hm : P.follows .mixedOrders = true) (hn : a.tmps.size = n) (hok : slotsOk ops n = true)
    (hsz : m < ops.size) (hwa : waitsAll ops m = true) (hch : chained ops m = true)
    (G : World → World → Prop) (R : Nat → World → Value → Prop) (hr : ∀ w, G w w) (ht : ∀ {a b c}, G a b → G b c → G a c) (hmo : ∀ j {a b v}, R j a v → G a b → R j b v)
    (step : ∀ (i : Nat) (o : Oper), i < m → ops[i]? = some o → ∀ (f : Nat → Value) (w' : World), G w.drew w' → (∀ t, writesTo ops m t = false → f t = a.tmps.getD t undef) →
      (∀ j d, depOn ops i j = true → dstOf ops j = some d → R j w' (f d)) → if Region.wanted o (yieldedF ops f) = true then Gives P o f w' (fun v w'' => G w' w'' ∧ R i w'' v) else R i w' undef)
    (fin : ∀ (f : Nat → Value) (w' : World), G w.drew w' → (∀ t, writesTo ops m t = false → f t = a.tmps.getD t undef) → (∀ j d, j < m → dstOf ops j = some d → R j w' (f d)) → wpList P ops Q (ops.toList.drop m) ⟨((List.range n).map f).toArray, a.defers⟩ w') :
    (Code.region id ops true).wp P Q a w := by
  refine wp_region_any hm ?_
  have key : ∀ (fuel : Nat) (listed : Array Bool) (b : Act) (v : World), RInvT ops m G R a w.drew listed b v → (∀ i j, listed.getD i false = true → depOn ops i j = true → listed.getD j false = true) → (∀ i, m ≤ i → i < ops.size → listed.getD i false = false) →
      ((List.range ops.size).countP (fun i => listed.getD i false == false)) ≤ fuel → wpAny P .any ops Q fuel listed b v := by
    intro fuel
    induction fuel with
    | zero =>
      intro listed b v h _ hml hc
      have := List.countP_eq_zero.1 (Nat.le_zero.1 hc) m (List.mem_range.2 hsz)
      rw [hml m (Nat.le_refl _) hsz] at this
      exact absurd rfl this
    | succ fuel ih =>
      intro listed b v h hcl hml hc
      by_cases hall : ∀ i, i < m → listed.getD i false = true
      · have hcount : ops.size - m ≤ fuel + 1 := by
          refine Nat.le_trans ?_ hc
          have e : (List.range ops.size) = List.range m ++ (List.range (ops.size - m)).map (m + ·) := by
            rw [← List.range_add]; congr 1; omega
          rw [e, List.countP_append]
          have : ((List.range (ops.size - m)).map (m + ·)).countP (fun i => listed.getD i false == false) = ops.size - m := by
            rw [List.countP_eq_length.2]
            · simp
            · intro i hi
              obtain ⟨q, hq, rfl⟩ := List.mem_map.1 hi
              have := List.mem_range.1 hq
              rw [hml (m + q) (by omega) (by omega)]
              rfl
          omega
        have hb : b = ⟨((List.range n).map (fun t => b.tmps.getD t undef)).toArray, a.defers⟩ := by
          have hs : b.tmps.size = n := h.size.trans hn
          have e : b.tmps = ((List.range n).map (fun t => b.tmps.getD t undef)).toArray := by
            apply Array.ext
            · simp [hs]
            · intro i h1 h2
              simp [h1]
          rw [← h.defers, ← e]
        have hf := fin (fun t => b.tmps.getD t undef) v h.grow h.frame (fun j d hj hd => h.rel j d (hall j hj) hd)
        rw [← hb] at hf
        have e1 : ops.size - (ops.size - m) = m := by omega
        refine tailAny hok hch (ops.size - m) (fuel + 1) listed b v h.lsize (by omega) (by omega) (fun i hi => ?_) hcount (by rw [e1]; exact hf)
        rw [e1]
        constructor
        · intro h1
          rcases Nat.lt_or_ge i m with h2 | h2
          · exact h2
          · rw [hml i h2 hi] at h1; cases h1
        · exact hall i
      · have lessm : ∀ i, i ∈ Region.ready .any ops listed → i < m := by
          intro i hi
          obtain ⟨h1, h2⟩ := ready_open h.lsize hi
          rcases Nat.lt_trichotomy i m with h3 | h3 | h3
          · exact h3
          · exfalso
            subst h3
            apply hall
            intro j hj
            have h4 := List.all_eq_true.1 hwa j (List.mem_range.2 hj)
            have h5 := ups_in ops (fun x => x = i ∨ listed.getD x false = true) (fun p q hp hd => by
              rcases hp with rfl | hp
              · exact .inr (not_ready_of hi q hd)
              · exact .inr (hcl p q hp hd)) i [i] (fun x hx => .inl (by simpa using hx)) j (by simpa using h4)
            rcases h5 with h5 | h5
            · omega
            · exact h5
          · have h4 := List.all_eq_true.1 hch i (List.mem_range.2 h2)
            simp only [Bool.or_eq_true, decide_eq_true_eq] at h4
            rcases h4 with h4 | h4
            · omega
            · have h5 := not_ready_of hi (i - 1) h4
              rw [hml (i - 1) (by omega) (by omega)] at h5; cases h5
        refine ⟨fun h0 => ?_, fun i hi => ?_⟩
        · exfalso
          apply hall
          intro i
          induction i using Nat.strongRecOn with
          | _ i ih2 =>
            intro hi
            cases hc2 : listed.getD i false with
            | true => rfl
            | false =>
              have := ready_mk hok h.lsize (by omega : i < ops.size) hc2 (fun j hj => ih2 j hj (by omega))
              rw [h0] at this; cases this
        · have him := lessm i hi
          obtain ⟨h2, hlt⟩ := ready_open h.lsize hi
          obtain ⟨h1, o, ho, _⟩ := mem_ready.1 hi
          have hls : i < listed.size := by rw [h.lsize]; exact hlt
          have hdep := not_ready_of hi
          have hcl' : ∀ p j, (listed.setIfInBounds i true).getD p false = true → depOn ops p j = true → (listed.setIfInBounds i true).getD j false = true := by
            intro p j hp hd
            rw [set_get _ _ _ hls] at hp ⊢
            split
            · rfl
            · split at hp
              · rename_i e; subst e; exact hdep j hd
              · exact hcl p j hp hd
          have hml' : ∀ q, m ≤ q → q < ops.size → (listed.setIfInBounds i true).getD q false = false := by
            intro q h3 h4
            rw [set_get _ _ _ hls, if_neg (by omega)]
            exact hml q h3 h4
          have hcnt : (List.range ops.size).countP (fun k => (listed.setIfInBounds i true).getD k false == false) ≤ fuel := by
            have gen : ∀ (l : List Nat), i ∈ l → l.countP (fun k => (listed.setIfInBounds i true).getD k false == false) < l.countP (fun k => listed.getD k false == false) := by
              have le : ∀ (l : List Nat), l.countP (fun k => (listed.setIfInBounds i true).getD k false == false) ≤ l.countP (fun k => listed.getD k false == false) := by
                intro l
                apply List.countP_mono_left
                intro k _ hk
                rw [set_get _ _ _ hls] at hk
                split at hk
                · cases hk
                · exact hk
              intro l hl
              induction l with
              | nil => cases hl
              | cons k l ihl =>
                by_cases e : i = k
                · subst e
                  have := le l
                  have h2' : (listed.getD i false == false) = true := by rw [h2]; rfl
                  rw [List.countP_cons_of_pos (p := fun k => listed.getD k false == false) (by exact h2'), List.countP_cons_of_neg (by simp [hls])]
                  omega
                · have hl' : i ∈ l := by
                    rcases List.mem_cons.1 hl with h | h
                    · exact absurd h e
                    · exact h
                  have := ihl hl'
                  have e2 : (listed.setIfInBounds i true).getD k false = listed.getD k false := by rw [set_get _ _ _ hls, if_neg e]
                  rw [List.countP_cons, List.countP_cons, e2]
                  omega
            have := gen _ (List.mem_range.2 hlt)
            omega
          have hs := step i o him ho (fun t => b.tmps.getD t undef) v h.grow h.frame (fun j d hj hd => h.rel j d (hdep j hj) hd)
          unfold wpOp
          simp only [ho]
          rw [yielded_eqF hok b (h.size.trans hn)]
          split
          · rename_i hw
            rw [if_pos hw] at hs
            refine .inl (Gives.wp ?_)
            unfold Gives at hs ⊢
            generalize (execOp (evF fun t => b.tmps.getD t undef) o).run P v = r at hs
            cases r with
            | ok nx w' =>
              cases nx <;> simp only at hs ⊢
              case value u => exact ih _ _ _ (h.put him ho hok hn ht hmo hs.1 hs.2 hlt) hcl' hml' hcnt
              case skip => exact ih _ _ _ (h.put him ho hok hn ht hmo hs.1 hs.2 hlt) hcl' hml' hcnt
              case enter k args => exact Calls.mono hs fun e w'' ⟨u, he, hg, hR⟩ => ⟨u, he, ih _ _ _ (h.put him ho hok hn ht hmo hg hR hlt) hcl' hml' hcnt⟩
            | halt x w' => exact hs.elim
          · rename_i hw
            rw [if_neg hw] at hs
            exact ih _ _ _ (h.put him ho hok hn ht hmo (hr v) hs hlt) hcl' hml' hcnt
  have none0 : ∀ i, (Array.replicate ops.size false).getD i false = false := by
    intro i
    by_cases h : i < ops.size
    · simp [h]
    · simp [h]
  refine key ops.size _ a _ ⟨hr _, rfl, rfl, by simp, fun t _ => rfl, fun j d hl hd => ?_⟩ (fun i j hi _ => ?_) (fun i _ _ => none0 i) ?_
  · rw [none0] at hl; cases hl
  · rw [none0] at hi; cases hi
  · refine Nat.le_trans List.countP_le_length ?_
    simp
end

theorem AllFrom.outT {Pr : Nat → Oper → Prop} (l : List Oper) (m : Nat) (h : AllFrom Pr 0 (l.take m)) : ∀ i o, i < m → l[i]? = some o → Pr i o := by
  intro i o hi ho
  have h2 : (l.take m)[i]? = some o := by rw [List.getElem?_take, if_pos hi]; exact ho
  have := AllFrom.out _ 0 h i o h2
  rwa [Nat.zero_add] at this
/-- THE LAW, the tail apart: the frame told by the slots that are written. -/
theorem wp_region_rt {P : Program} (n m : Nat) (l : List Rl) (ws : List Nat) {id : Nat} {os : List Oper} {Q : Exit → Act → World → Prop} {a : Act} {w : World} (hm : P.follows .mixedOrders = true) (hn : a.tmps.size = n) (hok : slotsOk os.toArray n = true) (hws : allIn os.toArray ws = true)
    (hsz : m < os.toArray.size) (hwa : waitsAll os.toArray m = true) (hch : chained os.toArray m = true)
    (steps : AllFrom (StpT P os.toArray m a w.drew l) 0 (os.take m))
    (fin : ∀ (f : Nat → Value) (w' : World), Gr w.drew w' → (∀ j d, j < m → dstOf os.toArray j = some d → relOf l j w' (f d)) → wpList P os.toArray Q (os.drop m) ⟨putAll f ws a.tmps, a.defers⟩ w') :
    (Code.region id os.toArray true).wp P Q a w := by
  refine wp_region_rel_tail n m hm hn hok hsz hwa hch Gr (relOf l) Gr.refl Gr.trans (fun j _ _ _ h g => (l.getD j Rl.any).mono h g) (fun i o' hi ho => ?_) (fun f w' g hF hD => ?_)
  · exact AllFrom.outT os m steps i o' hi (by simpa using ho)
  · have e : ((List.range n).map f).toArray = putAll f ws a.tmps := by
      apply Array.ext
      · rw [putAll_size, hn]; simp
      · intro t h1 h2
        have ht : t < n := by simpa using h1
        have h3 := putAll_get f ws a.tmps t (by rw [hn]; exact ht) (by
          by_cases hw : writesTo os.toArray m t = true
          · left
            obtain ⟨j, hj, hd⟩ := List.any_eq_true.1 hw
            have hd := beq_iff_eq.1 hd
            have := List.all_eq_true.1 hws j (List.mem_range.2 (by have := List.mem_range.1 hj; omega))
            rw [hd] at this
            simpa using this
          · right
            exact (hF t (by simpa using hw)).symm)
        have h4 : (putAll f ws a.tmps)[t] = f t := by
          rw [← h3]; simp [h2]
        rw [h4]; simp
    rw [e]
    simpa using fin f w' g hD
/-- A slice of n bytes at a row's head. -/
def Rl.rdb (n : Nat) (bs : List UInt8) : Rl := ⟨fun w v => ∃ g, v = .slice (some ⟨g, 0, none⟩) n n ∧ Rd w (some ⟨g, 0, none⟩) (bs.map bv), fun ⟨g, h, r⟩ hb => ⟨g, h, r.below hb⟩⟩
theorem rdb_lit (w : World) (bs : List UInt8) (n : Nat) (t : TypeId) : (Rl.rdb n bs).R (w.alloc (.cells (bs.map bv).toArray t)) (.slice (some ⟨w.heap.size, 0, none⟩) n n) := ⟨_, rfl, Rd.lit w _ t⟩
end Go.Proofs.Ytgnciejbhaebeaa
