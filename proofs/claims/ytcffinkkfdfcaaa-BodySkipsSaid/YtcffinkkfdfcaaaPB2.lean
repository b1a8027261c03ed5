/- Parts one behind the other: Plain law: how numbers are laid as bytes; no program in sight; What the layer wire's and its reference's Var answer: a number laid by as few bytes as can be; The bytes of a list of items, in plain words; Words of 32 bits as values that the walk does not look into, and what the program's operations do with them; What the small functions of sha and of its reference do with words; What sha.turn makes of eight words and a block of 64 bytes, in plain lists; Eight words built into an array; What sha.turn computes; The sum in plain lists: padding, blocks one behind the other, the bytes of the words; What sha.first and sha.Sum answer; What the reference's turned, root and block answer; What the reference's block answers; What the reference's Padded answers; A store of one cell, the world left open: what is known of the block goes on; What the reference's Sum answers: the same as sha.Sum; A sum as one value: held against another one; the two sums of the chapter's example, worked out. Conditions: as told at each. -/
import Derived.WalkKit
import Derived.Laws.BitsAllLaws
import Derived.Test.YtcffinkkfdfcaaaPB1
import Derived.Great.BuildSlice
import Derived.StillTailTactics
import Derived.Deep.RegionHeld3
import Derived.Deep.MidRow
import Derived.DeepKeys

set_option linter.unusedVariables false
set_option linter.unusedSimpArgs false
/- Plain law: how numbers are laid as bytes; no program in sight. Conditions: none. -/
namespace Go.Proofs.Ytcffinkkfdfcaaa
open Go Go.RowKit

/-- The lowest byte; a digit of 128 that is not the last. -/
def lo (n : Nat) : UInt8 := UInt8.ofNat n
def dig (n : Nat) : UInt8 := UInt8.ofNat (n % 128 + 128)
theorem lo_nat (n : Nat) : (lo n).toNat = n % 256 := by simp [lo]
theorem dig_nat (n : Nat) : (dig n).toNat = n % 128 + 128 := by
  simp only [dig, UInt8.toNat_ofNat']; omega
/-- A number by digits of 128, the lowest first. -/
def varL (n : Nat) : List UInt8 := if n < 128 then [lo n] else dig n :: varL (n / 128)
termination_by n
decreasing_by omega

theorem varL_lo {n : Nat} (h : n < 128) : varL n = [lo n] := by rw [varL, if_pos h]
theorem varL_hi {n : Nat} (h : 128 ≤ n) : varL n = dig n :: varL (n / 128) := by rw [varL, if_neg (by omega)]

theorem varL_len (k : Nat) : ∀ n, n < 128 ^ (k + 1) → (varL n).length ≤ k + 1 := by
  induction k with
  | zero => intro n h; rw [varL_lo (by simpa using h)]; simp
  | succ k ih =>
    intro n h
    by_cases h0 : n < 128
    · rw [varL_lo h0]; simp
    · rw [varL_hi (by omega), List.length_cons]
      have := ih (n / 128) (by rw [Nat.div_lt_iff_lt_mul (by decide)]; rw [Nat.pow_succ] at h; exact h)
      omega

def U64 (n : Nat) : Prop := n < 2 ^ 64
theorem U64.out {n : Nat} (h : U64 n) : n < 18446744073709551616 := h
theorem U64.le {n m : Nat} (h : U64 n) (hm : m ≤ n) : U64 m := Nat.lt_of_le_of_lt hm h
theorem u64_div {x : Nat} (h : U64 x) (d : Nat) : IntKind.u64.wrap ((x : Int) / (d : Int)) = (x : Int) / (d : Int) := by
  have h1 := h.out
  have h2 : x / d ≤ x := Nat.div_le_self _ _
  rw [← Int.natCast_ediv]
  generalize x / d = q at *
  simp only [IntKind.wrap_u64]; omega
theorem varL_len10 {n : Nat} (h : U64 n) : (varL n).length ≤ 10 := varL_len 9 n (Nat.lt_trans h (by decide))

theorem or128 (n : Nat) : (UInt8.ofNat n ||| 128) = dig n := by
  unfold dig
  apply UInt8.toNat_inj.1
  have h : ∀ a : Fin 256, a.val ||| 128 = a.val % 128 + 128 := by decide +kernel
  have h2 := h ⟨n % 256, by omega⟩
  simp only [] at h2
  simp only [UInt8.toNat_or, UInt8.toNat_ofNat']
  show n % 256 ||| 128 = _
  rw [h2]
  omega

/-- The size lowest bytes, the highest of them first. -/
def numL (n size : Nat) : List UInt8 := (List.range size).map fun i => lo (n / 256 ^ (size - 1 - i))
theorem numL_length (n size : Nat) : (numL n size).length = size := by simp [numL]

/-! ### Numbers read -/
inductive VR where
  | bad (e : Nat)
  | ok (n k : Nat)

/-- What bytes say as a number, the i-th of them first. -/
def varGo : List UInt8 → Nat → VR
  | [], _ => .bad 2
  | d :: l, i => if (i = 9 ∧ 1 < d.toNat) ∨ (0 < i ∧ d.toNat = 0) then .bad 3
    else if d.toNat < 128 then .ok d.toNat 1
    else match varGo l (i + 1) with
      | .bad e => .bad e
      | .ok n k => .ok (d.toNat % 128 + 128 * n) (k + 1)

def VR.after (x i : Nat) : VR → VR
  | .bad e => .bad e
  | .ok n k => .ok (x + 128 ^ i * n) (i + k)

theorem VR.after_zero (v : VR) : v.after 0 0 = v := by cases v <;> simp [VR.after]
theorem varGo_end {l : List UInt8} {i : Nat} (h : l.length ≤ i) (x : Nat) : (varGo (l.drop i) i).after x i = .bad 2 := by
  rw [List.drop_of_length_le h]; rfl
theorem varGo_form {l : List UInt8} {i : Nat} (h : i < l.length) (x : Nat) (hb : (i = 9 ∧ 1 < (l[i]).toNat) ∨ (0 < i ∧ (l[i]).toNat = 0)) : (varGo (l.drop i) i).after x i = .bad 3 := by
  rw [List.drop_eq_getElem_cons h, varGo, if_pos hb]; rfl
theorem varGo_last {l : List UInt8} {i : Nat} (h : i < l.length) (x : Nat) (hb : ¬ ((i = 9 ∧ 1 < (l[i]).toNat) ∨ (0 < i ∧ (l[i]).toNat = 0))) (hd : (l[i]).toNat < 128) :
    (varGo (l.drop i) i).after x i = .ok (x + 128 ^ i * (l[i]).toNat) (i + 1) := by
  rw [List.drop_eq_getElem_cons h, varGo, if_neg hb, if_pos hd]; rfl
theorem varGo_more {l : List UInt8} {i : Nat} (h : i < l.length) (x : Nat) (hb : ¬ ((i = 9 ∧ 1 < (l[i]).toNat) ∨ (0 < i ∧ (l[i]).toNat = 0))) (hd : 128 ≤ (l[i]).toNat) :
    (varGo (l.drop i) i).after x i = (varGo (l.drop (i + 1)) (i + 1)).after (x + 128 ^ i * ((l[i]).toNat % 128)) (i + 1) := by
  rw [List.drop_eq_getElem_cons h, varGo, if_neg hb, if_neg (by omega)]
  cases varGo (l.drop (i + 1)) (i + 1) with
  | bad e => rfl
  | ok n k =>
    simp only [VR.after, VR.ok.injEq]
    constructor
    · rw [Nat.mul_add, Nat.pow_succ, Nat.mul_assoc]; omega
    · omega

/-- The next digit is put by or. -/
theorem or_digit {x i d : Nat} (hx : x < 128 ^ i) : x ||| (d <<< (7 * i)) = x + 128 ^ i * d := by
  have e : 128 ^ i = 2 ^ (7 * i) := by rw [Nat.pow_mul]
  rw [e] at hx ⊢
  rw [Nat.shiftLeft_eq, Nat.or_comm, Nat.mul_comm d, ← Nat.two_pow_add_eq_or_of_lt hx]
  omega
theorem digit_lt {x i d : Nat} (hx : x < 128 ^ i) (hd : d < 128) : x + 128 ^ i * d < 128 ^ (i + 1) := by
  rw [Nat.pow_succ]
  have : 128 ^ i * d ≤ 128 ^ i * 127 := Nat.mul_le_mul_left _ (by omega)
  omega
theorem digit_u64 {x i d : Nat} (hi : i ≤ 9) (hx : x < 128 ^ i) (hd : d < 128) (h9 : i = 9 → d ≤ 1) : U64 (x + 128 ^ i * d) := by
  rcases Nat.lt_or_ge i 9 with h | h
  · exact Nat.lt_of_lt_of_le (digit_lt hx hd) (Nat.le_trans (Nat.pow_le_pow_right (by decide) (show i + 1 ≤ 9 by omega)) (by decide))
  · obtain rfl : i = 9 := by omega
    have := h9 rfl
    have h2 : 128 ^ 9 * d ≤ 128 ^ 9 * 1 := Nat.mul_le_mul_left _ this
    show _ < 2 ^ 64
    have h3 : (128 : Nat) ^ 9 + 128 ^ 9 * 1 ≤ 2 ^ 64 := by decide
    omega

def badD (i d : Nat) : Prop := (i = 9 ∧ 1 < d) ∨ (0 < i ∧ d = 0)
theorem varGo_form' {l : List UInt8} {i d : Nat} (h : i < l.length) (hd : d = (l[i]).toNat) (x : Nat) (hb : badD i d) : (varGo (l.drop i) i).after x i = .bad 3 := by
  subst hd; exact varGo_form h x hb
theorem varGo_last' {l : List UInt8} {i d : Nat} (h : i < l.length) (hd : d = (l[i]).toNat) (x : Nat) (hb : ¬ badD i d) (h8 : d < 128) : (varGo (l.drop i) i).after x i = .ok (x + 128 ^ i * (d % 128)) (i + 1) := by
  subst hd; rw [varGo_last h x hb h8, Nat.mod_eq_of_lt h8]
theorem varGo_more' {l : List UInt8} {i d : Nat} (h : i < l.length) (hd : d = (l[i]).toNat) (x : Nat) (hb : ¬ badD i d) (h8 : 128 ≤ d) : (varGo (l.drop i) i).after x i = (varGo (l.drop (i + 1)) (i + 1)).after (x + 128 ^ i * (d % 128)) (i + 1) := by
  subst hd; exact varGo_more h x hb h8

theorem and127 (d : Nat) (h : d < 256) : bits BinOp.and .u8 (d : Int) 127 = ((d : Int) % 128) := by
  rw [show (127 : Int) = ((127 : Nat) : Int) from rfl, u8_and_nat d 127 h (by decide)]
  rw [show (127 : Nat) = 2 ^ 7 - 1 from rfl, Nat.and_two_pow_sub_one_eq_mod]
  rfl
theorem or_walk {x k d : Nat} (hx : x < 128 ^ k) (hk : k ≤ 9) (h9 : k = 9 → d % 128 ≤ 1) (hu : U64 x) :
    bits BinOp.or .u64 (x : Int) (IntKind.u64.wrap ((d : Int) % 128 * 2 ^ (7 * k))) = ((x + 128 ^ k * (d % 128) : Nat) : Int) := by
  have h1 := digit_u64 (x := 0) hk (Nat.pow_pos (by decide)) (show d % 128 < 128 by omega) h9
  rw [Nat.zero_add] at h1
  have e : ((d : Int) % 128 * 2 ^ (7 * k)) = ((128 ^ k * (d % 128) : Nat) : Int) := by
    rw [show (128 : Nat) ^ k = 2 ^ (7 * k) by rw [Nat.pow_mul]]
    rw [Int.natCast_mul, Int.mul_comm]
    congr 1
  rw [e, IntWalk.u64_in _ ⟨by omega, by have := h1.out; omega⟩, u64_or_nat _ _ hu.out h1.out]
  congr 1
  have h2 := or_digit (d := d % 128) hx
  rw [Nat.shiftLeft_eq, Nat.mul_comm] at h2
  rw [show (128 : Nat) ^ k = 2 ^ (7 * k) by rw [Nat.pow_mul]] at h2 ⊢
  exact h2

/-- Bytes as a number, the highest first. -/
def beN (l : List UInt8) : Nat := l.foldl (fun a d => a * 256 + d.toNat) 0
theorem beN_snoc (l : List UInt8) (d : UInt8) : beN (l ++ [d]) = beN l * 256 + d.toNat := by simp [beN]
theorem beN_lt (l : List UInt8) : beN l < 256 ^ l.length := by
  rw [← List.reverse_reverse l]
  induction l.reverse with
  | nil => decide
  | cons d l ih =>
    rw [List.reverse_cons, beN_snoc, List.length_append, List.length_singleton, Nat.pow_succ]
    have := UInt8.toNat_lt d
    omega
theorem beN_u64 {l : List UInt8} (h : l.length ≤ 8) : U64 (beN l) :=
  Nat.lt_of_lt_of_le (beN_lt l) (Nat.le_trans (Nat.pow_le_pow_right (by decide) h) (by decide))
theorem or_byte (x d : Nat) (hd : d < 256) : (x * 256) ||| d = x * 256 + d := by
  rw [show (256 : Nat) = 2 ^ 8 from rfl, Nat.mul_comm] at *
  rw [Nat.two_pow_add_eq_or_of_lt hd]
theorem or_walk8 {x d : Nat} (hx : U64 (x * 256)) (hd : d < 256) : bits BinOp.or .u64 ((x : Int) * 256) (d : Int) = ((x * 256 + d : Nat) : Int) := by
  have h1 := u64_or_nat (x * 256) d hx.out (by omega)
  rw [Int.natCast_mul] at h1
  rw [show ((256 : Nat) : Int) = 256 from rfl] at h1
  rw [h1, or_byte x d hd]

theorem varGo_bd : ∀ (l : List UInt8) (i n k : Nat), i ≤ 9 → varGo l i = .ok n k → n < 2 ^ (64 - 7 * i) ∧ k ≤ l.length ∧ 1 ≤ k
  | [], _, _, _, _, h => by cases h
  | d :: l, i, n, k, hi, h => by
    rw [varGo] at h
    by_cases hb : (i = 9 ∧ 1 < d.toNat) ∨ (0 < i ∧ d.toNat = 0)
    · rw [if_pos hb] at h; cases h
    · rw [if_neg hb] at h
      by_cases h8 : d.toNat < 128
      · rw [if_pos h8] at h
        injection h with h1 h2
        subst h1; subst h2
        refine ⟨?_, by simp, by omega⟩
        rcases Nat.lt_or_ge i 9 with h9 | h9
        · exact Nat.lt_of_lt_of_le h8 (Nat.le_trans (show 128 ≤ 2 ^ 7 by decide) (Nat.pow_le_pow_right (by decide) (by omega)))
        · obtain rfl : i = 9 := by omega
          have : ¬ 1 < d.toNat := fun h => hb (.inl ⟨rfl, h⟩)
          show d.toNat < 2
          omega
      · rw [if_neg h8] at h
        have hi8 : i < 9 := by
          rcases Nat.lt_or_ge i 9 with h9 | h9
          · exact h9
          · exact absurd (.inl ⟨by omega, by omega⟩) hb
        cases hv : varGo l (i + 1) with
        | bad e => rw [hv] at h; cases h
        | ok n' k' =>
          rw [hv] at h
          injection h with h1 h2
          obtain ⟨g1, g2, g3⟩ := varGo_bd l (i + 1) n' k' (by omega) hv
          subst h1; subst h2
          refine ⟨?_, by simp; omega, by omega⟩
          have e : 2 ^ (64 - 7 * i) = 128 * 2 ^ (64 - 7 * (i + 1)) := by
            rw [show (128 : Nat) = 2 ^ 7 from rfl, ← Nat.pow_add]; congr 1; omega
          rw [e]
          omega
theorem varGo_u64 {l : List UInt8} {n k : Nat} (h : varGo l 0 = .ok n k) : U64 n ∧ k ≤ l.length ∧ 1 ≤ k := varGo_bd l 0 n k (by decide) h
theorem varGo_err {l : List UInt8} {i e : Nat} (h : varGo l i = .bad e) : e = 2 ∨ e = 3 := by
  induction l generalizing i with
  | nil => injection h with h; exact .inl h.symm
  | cons d l ih =>
    rw [varGo] at h
    split at h
    · injection h with h; exact .inr h.symm
    · split at h
      · cases h
      · cases hv : varGo l (i + 1) with
        | bad e' => rw [hv] at h; injection h with h; subst h; exact ih hv
        | ok _ _ => rw [hv] at h; cases h

end Go.Proofs.Ytcffinkkfdfcaaa

/- What the layer wire's and its reference's Var answer: a number laid by as few bytes as can be. Conditions: a number of 64 bits. -/
namespace Go.Proofs.Ytcffinkkfdfcaaa
open Go Go.RowKit

theorem varStep_hi {n x : Nat} {bs : List UInt8} (h : varL n = bs ++ varL x) (hx : 128 ≤ x) : varL n = (bs ++ [dig x]) ++ varL (x / 128) := by
  rw [h, varL_hi hx, List.append_assoc]; rfl
theorem varStep_len {n x : Nat} {bs : List UInt8} (hn : U64 n) (h : varL n = bs ++ varL x) : bs.length ≤ 10 := by
  have h1 := varL_len10 hn
  rw [h, List.length_append] at h1
  omega

theorem bits_or128 (x : Nat) : Value.int .u8 (bits BinOp.or .u8 (((x : Nat) : Int) % 256) 128) = bv (dig x) := by
  have h := u8_or_nat (x % 256) 128 (by omega) (by omega)
  rw [show ((x % 256 : Nat) : Int) = (x : Int) % 256 by omega] at h
  have h2 := congrArg UInt8.toNat (or128 x)
  simp only [UInt8.toNat_or, UInt8.toNat_ofNat'] at h2
  rw [show (128 : UInt8).toNat = 128 from rfl] at h2
  unfold bv
  rw [show ((128 : Int)) = ((128 : Nat) : Int) from rfl, h, show (256 : Nat) = 2 ^ 8 from rfl, h2]

theorem int_lo {x : Int} {n : Nat} (h : x = ((n % 256 : Nat) : Int)) : Value.int .u8 x = bv (lo n) := by rw [h, bv, lo_nat]

set_option maxRecDepth 100000 in
set_option maxHeartbeats 400000 in
theorem Var_c (n : Nat) (w : World) (hn : U64 n) :
    Calls Try.prog 35 #[.int .u64 n] w fun e w' => ∃ v, e = .returned v ∧ OwnB w' w.heap.size v (varL n) ∧ Below w.heap.size w w' := by
  go_enter Try.func35, Try.ntmps35
  go_wp2
  go_loopw [0, 3] (fun m v wr => ∃ (x : Nat) (bs : List UInt8), m = .int .u64 x ∧ varL n = bs ++ varL x ∧ U64 x ∧ OwnB wr w.heap.size v bs ∧ Below w.heap.size w wr) (fun m v _ => (intOf m).toNat)
  case atStart => exact ⟨n, [], rfl, rfl, hn, Own.nil_ _ _ _, Below.refl _ _⟩
  case round =>
    obtain ⟨x, bs, rfl, hv, hx, hown, hb⟩ := hrel
    have hl := varStep_len hn hv
    have hz := hb.size
    have HV := Lib.hid hv; clear hv
    rcases Int.lt_or_le (x : Int) 128 with hlt | hle
    · go_wp2_with (first | (at_builtin; refine wpList_appB1 _ rfl (.tmp 14) (.tmp 17) rfl w.heap.size _ bs rfl hown _ rfl (lo x) ?_ (by omega) (by omega) ?_))
      · exact int_lo (by omega)
      · intro v' w' h1 h2 _
        go_wp2
        go_ret
        refine ⟨_, rfl, ?_, ?_⟩
        · rw [HV.out, varL_lo (by omega)]; exact h1
        · exact (hb.alloc (by omega) _).grown h2 (by simp; omega) (fun k hk => (hown.lt k hk).1)
    · go_wp2_with (first | (at_builtin; refine wpList_appB1 _ rfl (.tmp 6) (.tmp 10) rfl w.heap.size _ bs rfl hown _ rfl (dig x) ?_ (by omega) (by omega) ?_))
      · exact bits_or128 x
      · intro v' w' h1 h2 _
        go_wp2
        go_roundw
        case rel => exact ⟨x / 128, _, by go_num, varStep_hi HV.out (by omega), hx.le (by omega), h1, (hb.alloc (by omega) _).grown h2 (by simp; omega) (fun k hk => (hown.lt k hk).1)⟩
        case measure => simp [intOf]; omega

/-! ### The reference's Var: the same by division -/
set_option maxRecDepth 100000 in
set_option maxHeartbeats 400000 in
theorem refVar_c (n : Nat) (w : World) (hn : U64 n) :
    Calls Try.prog 39 #[.int .u64 n] w fun e w' => ∃ v, e = .returned v ∧ OwnB w' w.heap.size v (varL n) ∧ Below w.heap.size w w' := by
  go_enter Try.func39, Try.ntmps39
  go_wp2
  go_loopw [0, 3] (fun m v wr => ∃ (x : Nat) (bs : List UInt8), m = .int .u64 x ∧ varL n = bs ++ varL x ∧ U64 x ∧ OwnB wr w.heap.size v bs ∧ Below w.heap.size w wr) (fun m v _ => (intOf m).toNat)
  case atStart => exact ⟨n, [], rfl, rfl, hn, World.ownsRow_made w #[] 0 (Nat.le_refl _) (Nat.zero_le _) rfl, (Below.refl _ _).alloc (Nat.le_refl _) _⟩
  case round =>
    obtain ⟨x, bs, rfl, hv, hx, hown, hb⟩ := hrel
    have hl := varStep_len hn hv
    have hz := hb.size
    have HV := Lib.hid hv; clear hv
    have hw : IntKind.u64.wrap ((x : Int) / 128) = (x : Int) / 128 := u64_div hx 128
    rcases Int.lt_or_le (x : Int) 128 with hlt | hle
    · have hq : (((x : Int) / 128) == 0) = true := by rw [beq_iff_eq]; omega
      go_wp2_with (first | (at_builtin; refine wpList_appB1 _ rfl (.tmp 8) (.tmp 11) rfl w.heap.size _ bs rfl hown _ rfl (lo x) ?_ (by omega) (by omega) ?_))
      · exact int_lo (by omega)
      · intro v' w' h1 h2 _
        go_wp2
        go_ret
        refine ⟨_, rfl, ?_, ?_⟩
        · rw [HV.out, varL_lo (by omega)]; exact h1
        · exact (hb.alloc (by omega) _).grown h2 (by simp; omega) (fun k hk => (hown.lt k hk).1)
    · have hq : (((x : Int) / 128) == 0) = false := by rw [beq_eq_false_iff_ne]; omega
      go_wp2_with (first | (at_builtin; refine wpList_appB1 _ rfl (.tmp 13) (.tmp 18) rfl w.heap.size _ bs rfl hown _ rfl (dig x) ?_ (by omega) (by omega) ?_))
      · unfold bv; rw [dig_nat]; congr 1
      · intro v' w' h1 h2 _
        go_wp2
        go_roundw
        case rel => exact ⟨x / 128, _, by go_num, varStep_hi HV.out (by omega), hx.le (by omega), h1, (hb.alloc (by omega) _).grown h2 (by simp; omega) (fun k hk => (hown.lt k hk).1)⟩
        case measure => simp [intOf]; omega
end Go.Proofs.Ytcffinkkfdfcaaa

/- The bytes of a list of items, in plain words. Conditions: none. -/
namespace Go.Proofs.Ytcffinkkfdfcaaa
open Go Go.RowKit

/-- An item's number: its kind, whether critical, whether a list. -/
def numI (k : Int) (cr li : Bool) : Nat := (4 * k).toNat + (if cr then 2 else 0) + (if li then 1 else 0)
def layL : Fo → List UInt8
  | .nil => []
  | .cons k cr li bs sub rest => varL (numI k cr li) ++ varL (if li then layL sub else bs).length ++ (if li then layL sub else bs) ++ layL rest
/-- Kinds and bytes that may be, all told. -/
def Fo.good : Fo → Prop
  | .nil => True
  | .cons k _ _ bs sub rest => 1 ≤ k ∧ k ≤ 1000 ∧ bs.length ≤ 4096 ∧ sub.good ∧ rest.good
theorem numI_le {k : Int} (cr li : Bool) (h1 : 1 ≤ k) (h2 : k ≤ 1000) : numI k cr li ≤ 4003 := by
  unfold numI
  cases cr <;> cases li <;> simp <;> omega
theorem varL_10 {n : Nat} (h : n ≤ 1000000000) : (varL n).length ≤ 10 := varL_len10 (by unfold U64; omega)
theorem layL_le : ∀ (f : Fo), f.good → f.size ≤ 100000 → (layL f).length ≤ 4116 * f.size
  | .nil, _, _ => by simp [layL]
  | .cons k cr li bs sub rest, h, hs => by
    obtain ⟨h1, h2, h3, h4, h5⟩ := h
    simp only [Fo.size] at hs
    have i1 := layL_le sub h4 (by omega)
    have i2 := layL_le rest h5 (by omega)
    have n1 := varL_10 (n := numI k cr li) (by have := numI_le cr li h1 h2; omega)
    have hin : (if li then layL sub else bs).length ≤ 4116 * sub.size + 4096 := by
      cases li
      · simp only [Bool.false_eq_true, if_false]; omega
      · simp only [if_true]; omega
    have n2 := varL_10 (n := (if li then layL sub else bs).length) (by omega)
    rw [layL, List.length_append, List.length_append, List.length_append]
    simp only [Fo.size]
    cases li
    · simp only [Bool.false_eq_true, if_false] at *; omega
    · simp only [if_true] at *; omega
end Go.Proofs.Ytcffinkkfdfcaaa

/- Words of 32 bits as values that the walk does not look into, and what the program's operations do with them. Conditions: none. -/
namespace Go.Proofs.Ytcffinkkfdfcaaa
open Go Go.RowKit

/-- A word as a value; the walk does not look into it. -/
def wv (x : BitVec 32) : Value := .int .u32 (x.toNat : Int)

theorem wrap_bv (r : BitVec 32) : IntKind.u32.wrap ((r.toNat : Nat) : Int) = (r.toNat : Int) := by
  have := r.isLt
  simp only [IntKind.wrap_u32]; omega
theorem ofInt_bv (x : BitVec 32) : BitVec.ofInt 32 ((x.toNat : Nat) : Int) = x := by
  rw [BitVec.ofInt_natCast]; simp

theorem wv_add (t : TypeId) (x y : BitVec 32) : binOp .add t (wv x) (wv y) = pure (wv (x + y)) := by
  simp only [wv, binOp, Op.intArith, ne_eq, not_true_eq_false, if_false]
  congr 2
theorem wv_sub (t : TypeId) (x y : BitVec 32) : binOp .sub t (wv x) (wv y) = pure (wv (x - y)) := by
  have h1 := x.isLt
  have h2 := y.isLt
  simp only [wv, binOp, Op.intArith, ne_eq, not_true_eq_false, if_false]
  congr 2
  rw [IntKind.wrap_u32, BitVec.toNat_sub]; omega
theorem wv_mul (t : TypeId) (x y : BitVec 32) : binOp .mul t (wv x) (wv y) = pure (wv (x * y)) := by
  simp only [wv, binOp, Op.intArith, ne_eq, not_true_eq_false, if_false]
  congr 2
theorem wv_xor (t : TypeId) (x y : BitVec 32) : binOp .xor t (wv x) (wv y) = pure (wv (x ^^^ y)) := by
  simp only [wv, binOp, Op.intBits, ne_eq, not_true_eq_false, if_false]
  show pure (Value.int .u32 (IntKind.u32.wrap (((BitVec.ofInt 32 (x.toNat : Int) ^^^ BitVec.ofInt 32 (y.toNat : Int)).toNat : Nat) : Int))) = _
  rw [ofInt_bv, ofInt_bv, wrap_bv]
theorem wv_and (t : TypeId) (x y : BitVec 32) : binOp .and t (wv x) (wv y) = pure (wv (x &&& y)) := by
  simp only [wv, binOp, Op.intBits, ne_eq, not_true_eq_false, if_false]
  show pure (Value.int .u32 (IntKind.u32.wrap (((BitVec.ofInt 32 (x.toNat : Int) &&& BitVec.ofInt 32 (y.toNat : Int)).toNat : Nat) : Int))) = _
  rw [ofInt_bv, ofInt_bv, wrap_bv]
theorem wv_or (t : TypeId) (x y : BitVec 32) : binOp .or t (wv x) (wv y) = pure (wv (x ||| y)) := by
  simp only [wv, binOp, Op.intBits, ne_eq, not_true_eq_false, if_false]
  show pure (Value.int .u32 (IntKind.u32.wrap (((BitVec.ofInt 32 (x.toNat : Int) ||| BitVec.ofInt 32 (y.toNat : Int)).toNat : Nat) : Int))) = _
  rw [ofInt_bv, ofInt_bv, wrap_bv]
theorem wv_shr (t : TypeId) (x : BitVec 32) (k : IntKind) (n : Int) (h0 : 0 ≤ n) (h1 : n ≤ 32) : binOp .shr t (wv x) (.int k n) = pure (wv (x >>> n.toNat)) := by
  obtain ⟨m, rfl⟩ := Int.eq_ofNat_of_zero_le h0
  simp only [wv, binOp, Op.shift, Int.toNat_natCast]
  rw [if_neg (by omega)]
  congr 2
  rw [BitVec.toNat_ushiftRight, Nat.shiftRight_eq_div_pow, show min m IntKind.u32.bits = m from Nat.min_eq_left (by show m ≤ 32; omega)]
  rw [show ((2 : Int) ^ m) = ((2 ^ m : Nat) : Int) by rw [Int.natCast_pow]; rfl, Int.ofNat_fdiv]
theorem wv_shl (t : TypeId) (x : BitVec 32) (k : IntKind) (n : Int) (h0 : 0 ≤ n) (h1 : n ≤ 32) : binOp .shl t (wv x) (.int k n) = pure (wv (x <<< n.toNat)) := by
  obtain ⟨m, rfl⟩ := Int.eq_ofNat_of_zero_le h0
  simp only [wv, binOp, Op.shift, Int.toNat_natCast]
  rw [if_neg (by omega)]
  congr 2
  rw [BitVec.toNat_shiftLeft, Nat.shiftLeft_eq, show min m IntKind.u32.bits = m from Nat.min_eq_left (by show m ≤ 32; omega)]
  rw [show ((2 : Int) ^ m) = ((2 ^ m : Nat) : Int) by rw [Int.natCast_pow]; rfl, ← Int.natCast_mul, IntKind.wrap_u32]
  generalize x.toNat * 2 ^ m = q
  omega

theorem wv_not (x : BitVec 32) : Op.unary .xor (wv x) = pure (wv (~~~x)) := by
  simp only [wv, Op.unary, Op.intBits]
  show pure (Value.int .u32 (IntKind.u32.wrap (((BitVec.ofInt 32 4294967295 ^^^ BitVec.ofInt 32 (x.toNat : Int)).toNat : Nat) : Int))) = _
  rw [ofInt_bv, wrap_bv, show BitVec.ofInt 32 4294967295 = BitVec.allOnes 32 from rfl, BitVec.allOnes_xor]
theorem wv_store (P : Program) (w : World) (a : Addr) (m : Mode) (x : BitVec 32) : (store a (wv x) m).run P w = stored P w a (wv x) m := run_store P w a _ m rfl
theorem bv_store (P : Program) (w : World) (a : Addr) (m : Mode) (x : UInt8) : (store a (bv x) m).run P w = stored P w a (bv x) m := run_store P w a _ m rfl
theorem wv_cells (a : Addr) (i : Nat) (x : BitVec 32) (rest : List Value) : storeCells a (wv x :: rest) i = (do store (a.add i) (wv x); storeCells a rest (i + 1)) := rfl
theorem bv_cells (a : Addr) (i : Nat) (x : UInt8) (rest : List Value) : storeCells a (bv x :: rest) i = (do store (a.add i) (bv x); storeCells a rest (i + 1)) := rfl
theorem wv_cellsOf (x : BitVec 32) : (wv x).cells = #[wv x] := rfl
theorem bv_cellsOf (x : UInt8) : (bv x).cells = #[bv x] := rfl
theorem no_cells (a : Addr) (i : Nat) : storeCells a [] i = pure () := rfl
/-- A byte as a word, a word's lowest byte. -/
def bw (b : UInt8) : BitVec 32 := b.toBitVec.setWidth 32
def wb (x : BitVec 32) : UInt8 := ⟨x.setWidth 8⟩
theorem bv_conv (w : World) (b : UInt8) : (convert 5 24 (bv b)).run Try.prog w = .ok (wv (bw b)) w := by
  have h := b.toNat_lt
  have e := run_convert_int (P := Try.prog) w 5 24 .u8 (b.toNat : Int) (by rw [Try.underlying5]; rfl) (by kernel_rfl)
  rw [show Try.prog.intKind 24 = .u32 by kernel_rfl] at e
  unfold bv
  rw [e, IntWalk.u32_in _ ⟨by omega, by omega⟩]
  unfold wv bw
  rw [BitVec.toNat_setWidth, UInt8.toNat_toBitVec, Nat.mod_eq_of_lt (by omega)]
theorem wv_conv (w : World) (x : BitVec 32) : (convert 24 5 (wv x)).run Try.prog w = .ok (bv (wb x)) w := by
  have e := run_convert_int (P := Try.prog) w 24 5 .u32 (x.toNat : Int) (by rw [Try.underlying24]; rfl) (by kernel_rfl)
  rw [show Try.prog.intKind 5 = .u8 by kernel_rfl] at e
  unfold wv
  rw [e]
  unfold bv wb
  congr 2
end Go.Proofs.Ytcffinkkfdfcaaa

/- What the small functions of sha and of its reference do with words. Conditions: counts below 32. -/
namespace Go.Proofs.Ytcffinkkfdfcaaa
open Go Go.RowKit
attribute [local go_sem] wv_add wv_sub wv_mul wv_xor wv_and wv_or wv_shr wv_shl wv_not wv_store bv_store bv_conv wv_conv

/-- Turned right. -/
def ror (x : BitVec 32) (n : Nat) : BitVec 32 := x >>> n ||| x <<< (32 - n)

theorem and31 (n : Nat) (h0 : 0 < n) (h : n < 32) : bits BinOp.and .u64 (18446744073709551616 - (n : Int)) 31 = ((32 - n : Nat) : Int) := by
  have h1 := u64_and_nat (18446744073709551616 - n) 31 (by omega) (by omega)
  rw [show (31 : Nat) = 2 ^ 5 - 1 from rfl, Nat.and_two_pow_sub_one_eq_mod] at h1
  rw [show ((18446744073709551616 - n : Nat) : Int) = 18446744073709551616 - (n : Int) by omega] at h1
  rw [show (31 : Int) = ((2 ^ 5 - 1 : Nat) : Int) from rfl, h1]
  omega

end Go.Proofs.Ytcffinkkfdfcaaa

/- What sha.turn makes of eight words and a block of 64 bytes, in plain lists. Rows of words in a block of their own. Conditions: the table of 64 words stands. -/
namespace Go.Proofs.Ytcffinkkfdfcaaa
open Go Go.RowKit

def getW (l : List (BitVec 32)) (i : Nat) : BitVec 32 := l.getD i 0
def getB (l : List UInt8) (i : Nat) : UInt8 := l.getD i 0
def be4 (b : List UInt8) (t : Nat) : BitVec 32 := bw (getB b (4 * t)) <<< 24 ||| bw (getB b (4 * t + 1)) <<< 16 ||| bw (getB b (4 * t + 2)) <<< 8 ||| bw (getB b (4 * t + 3))
def sig0 (x : BitVec 32) : BitVec 32 := ror x 7 ^^^ ror x 18 ^^^ x >>> 3
def sig1 (y : BitVec 32) : BitVec 32 := ror y 17 ^^^ ror y 19 ^^^ y >>> 10
def nxt (l : List (BitVec 32)) (k : Nat) : BitVec 32 := getW l k + getW l (k + 9) + sig0 (getW l (k + 1)) + sig1 (getW l (k + 14))
def sch1 (b : List UInt8) : Nat → List (BitVec 32)
  | 0 => List.replicate 64 0
  | k + 1 => (sch1 b k).set k (be4 b k)
def sch2 (b : List UInt8) : Nat → List (BitVec 32)
  | 0 => sch1 b 16
  | k + 1 => (sch2 b k).set (k + 16) (nxt (sch2 b k) k)
def pW (k x : BitVec 32) (v : List (BitVec 32)) : BitVec 32 :=
  getW v 7 + (ror (getW v 4) 6 ^^^ ror (getW v 4) 11 ^^^ ror (getW v 4) 25) + (getW v 4 &&& getW v 5 ^^^ ~~~(getW v 4) &&& getW v 6) + k + x
def qW (v : List (BitVec 32)) : BitVec 32 :=
  (ror (getW v 0) 2 ^^^ ror (getW v 0) 13 ^^^ ror (getW v 0) 22) + (getW v 0 &&& getW v 1 ^^^ getW v 0 &&& getW v 2 ^^^ getW v 1 &&& getW v 2)
def rnd (k x : BitVec 32) (v : List (BitVec 32)) : List (BitVec 32) :=
  [pW k x v + qW v, getW v 0, getW v 1, getW v 2, getW v 3 + pW k x v, getW v 4, getW v 5, getW v 6]
def rounds (ks xs h : List (BitVec 32)) : Nat → List (BitVec 32)
  | 0 => h
  | t + 1 => rnd (getW ks t) (getW xs t) (rounds ks xs h t)
def addL (h v : List (BitVec 32)) : Nat → List (BitVec 32)
  | 0 => h
  | t + 1 => (addL h v t).set t (getW (addL h v t) t + getW v t)
def rootL : List (BitVec 32) := [
  0x428a2f98, 0x71374491, 0xb5c0fbcf, 0xe9b5dba5, 0x3956c25b, 0x59f111f1, 0x923f82a4, 0xab1c5ed5,
  0xd807aa98, 0x12835b01, 0x243185be, 0x550c7dc3, 0x72be5d74, 0x80deb1fe, 0x9bdc06a7, 0xc19bf174,
  0xe49b69c1, 0xefbe4786, 0x0fc19dc6, 0x240ca1cc, 0x2de92c6f, 0x4a7484aa, 0x5cb0a9dc, 0x76f988da,
  0x983e5152, 0xa831c66d, 0xb00327c8, 0xbf597fc7, 0xc6e00bf3, 0xd5a79147, 0x06ca6351, 0x14292967,
  0x27b70a85, 0x2e1b2138, 0x4d2c6dfc, 0x53380d13, 0x650a7354, 0x766a0abb, 0x81c2c92e, 0x92722c85,
  0xa2bfe8a1, 0xa81a664b, 0xc24b8b70, 0xc76c51a3, 0xd192e819, 0xd6990624, 0xf40e3585, 0x106aa070,
  0x19a4c116, 0x1e376c08, 0x2748774c, 0x34b0bcb5, 0x391c0cb3, 0x4ed8aa4a, 0x5b9cca4f, 0x682e6ff3,
  0x748f82ee, 0x78a5636f, 0x84c87814, 0x8cc70208, 0x90befffa, 0xa4506ceb, 0xbef9a3f7, 0xc67178f2]
def blk (h : List (BitVec 32)) (b : List UInt8) : List (BitVec 32) := addL h (rounds rootL (sch2 b 48) h 64) 8
def startL : List (BitVec 32) := [0x6a09e667, 0xbb67ae85, 0x3c6ef372, 0xa54ff53a, 0x510e527f, 0x9b05688c, 0x1f83d9ab, 0x5be0cd19]

theorem sch1_len (b : List UInt8) : ∀ k, (sch1 b k).length = 64
  | 0 => by simp [sch1]
  | k + 1 => by simp [sch1, sch1_len b k]
theorem sch2_len (b : List UInt8) : ∀ k, (sch2 b k).length = 64
  | 0 => sch1_len b 16
  | k + 1 => by simp [sch2, sch2_len b k]
theorem rounds_len (ks xs h : List (BitVec 32)) (hh : h.length = 8) : ∀ k, (rounds ks xs h k).length = 8
  | 0 => hh
  | k + 1 => by simp [rounds, rnd]
theorem addL_len (h v : List (BitVec 32)) (hh : h.length = 8) : ∀ k, (addL h v k).length = 8
  | 0 => hh
  | k + 1 => by simp [addL, addL_len h v hh k]
theorem blk_len (h : List (BitVec 32)) (b : List UInt8) (hh : h.length = 8) : (blk h b).length = 8 := addL_len _ _ hh 8

/-- Block g holds the words l and nothing else. -/
def Ws (w : World) (g : Nat) (t : TypeId) (l : List (BitVec 32)) : Prop := w.heap[g]? = some (.cells (l.map wv).toArray t (0, 0))
section
variable {w w' : World} {g : Nat} {t : TypeId} {l : List (BitVec 32)}
theorem Ws.cell (h : Ws w g t l) (i : Nat) (hi : i < l.length) : w.cell? ⟨g, i, none⟩ = some (wv (getW l i)) := by
  rw [heap_cell h]
  simp [getW, List.getD, hi]
theorem Ws.free (h : Ws w g t l) (i : Nat) : w.frozen? ⟨g, i, none⟩ = false := heap_free h i
theorem Ws.set (h : Ws w g t l) (i : Nat) (x : BitVec 32) : Ws (w.setCell ⟨g, i, none⟩ (wv x)) g t (l.set i x) := by
  unfold Ws
  rw [heap_set h, List.map_set]
  simp
theorem Ws.far (h : Ws w g t l) {p : Addr} (u : Value) (hp : g ≠ p.block) : Ws (w.setCell p u) g t l := (heap_far u hp).trans h
theorem Ws.lt (h : Ws w g t l) : g < w.heap.size := heap_lt h
theorem Ws.below (h : Ws w g t l) (hb : Below w.heap.size w w') : Ws w' g t l := (hb.block g h.lt).trans h
theorem Ws.drewN (h : Ws w g t l) (n : Nat) : Ws (w.drewN n) g t l := h
theorem Ws.alloc (h : Ws w g t l) (o : Obj) : Ws (w.alloc o) g t l := (Below.heap_alloc w o g h.lt).trans h
end

/-- The table of the 64 words. -/
def Tab (w : World) : Prop := 0 < w.heap.size ∧ ∀ i, i < 64 → w.cell? ⟨0, i, none⟩ = some (wv (getW rootL i))
theorem Tab.below {w w' : World} {B : Nat} (h : Tab w) (hb : Below B w w') (hB : 0 < B) : Tab w' :=
  ⟨Nat.lt_of_lt_of_le h.1 hb.size, fun i hi => (World.cell?_of_block (w := w) (a := ⟨0, i, none⟩) (hb.block 0 hB)).trans (h.2 i hi)⟩
theorem getB_rd {b : Nat} {off : Nat} {w : World} {l : List UInt8} (g : ∀ k (h : k < l.length), w.cell? ⟨b, off + k, none⟩ = some (bv l[k])) (k : Nat) (hk : k < l.length) : w.cell? ⟨b, off + k, none⟩ = some (bv (getB l k)) := by
  rw [g k hk]
  simp [getB, List.getD, hk]
end Go.Proofs.Ytcffinkkfdfcaaa

/- Eight words built into an array. Conditions: none. -/
namespace Go.Proofs.Ytcffinkkfdfcaaa
open Go Go.RowKit
theorem info_u32 : (Try.prog.info? 24).map (·.size) = some 1 := by kernel_rfl
end Go.Proofs.Ytcffinkkfdfcaaa

/- What sha.turn computes. Conditions: eight words, 64 bytes, the table stands. -/
namespace Go.Proofs.Ytcffinkkfdfcaaa
open Go Go.RowKit
attribute [local go_sem] wv_add wv_sub wv_mul wv_xor wv_and wv_or wv_shr wv_shl wv_not wv_store bv_store bv_conv wv_conv wv_cells bv_cells no_cells wv_cellsOf bv_cellsOf

end Go.Proofs.Ytcffinkkfdfcaaa

/- The sum in plain lists: padding, blocks one behind the other, the bytes of the words. Conditions: none. -/
namespace Go.Proofs.Ytcffinkkfdfcaaa
open Go Go.RowKit

def lo8 (n : Nat) : UInt8 := UInt8.ofNat n
theorem lo8_nat (n : Nat) : (lo8 n).toNat = n % 256 := by simp [lo8]
def padZ (n : Nat) : Nat := (119 - n % 64) % 64
theorem padZ_le (n : Nat) : padZ n ≤ 63 := by unfold padZ; omega
/-- The length's bytes, k of them. -/
def be8 (n k : Nat) : List UInt8 := (List.range k).map fun i => lo8 (n / 256 ^ (7 - i))
theorem be8_len (n k : Nat) : (be8 n k).length = k := by simp [be8]
theorem be8_succ (n k : Nat) : be8 n (k + 1) = be8 n k ++ [lo8 (n / 256 ^ (7 - k))] := by simp [be8, List.range_succ]
def padHead (b : List UInt8) (z : Nat) : List UInt8 := b ++ [128] ++ List.replicate z 0
def padL (b : List UInt8) : List UInt8 := padHead b (padZ b.length) ++ be8 (8 * b.length) 8
theorem padHead_len (b : List UInt8) (z : Nat) : (padHead b z).length = b.length + 1 + z := by simp [padHead]; omega
theorem padHead_succ (b : List UInt8) (z : Nat) : padHead b (z + 1) = padHead b z ++ [0] := by
  simp [padHead, List.replicate_succ']
theorem padL_len (b : List UInt8) : (padL b).length = b.length + 1 + padZ b.length + 8 := by simp [padL, padHead_len, be8_len]
theorem padL_mod (b : List UInt8) : (padL b).length % 64 = 0 := by rw [padL_len]; unfold padZ; omega
def blocksN (h : List (BitVec 32)) (l : List UInt8) : Nat → List (BitVec 32)
  | 0 => h
  | n + 1 => blocksN (blk h (l.take 64)) (l.drop 64) n
theorem blocksN_len (h : List (BitVec 32)) (l : List UInt8) (hh : h.length = 8) : ∀ n, (blocksN h l n).length = 8
  | 0 => hh
  | n + 1 => blocksN_len (blk h (l.take 64)) (l.drop 64) (blk_len _ _ hh) n
def outB (h : List (BitVec 32)) (i : Nat) : UInt8 := wb (getW h (i / 4) >>> (24 - 8 * (i % 4)))
def outP (h : List (BitVec 32)) : Nat → List UInt8
  | 0 => List.replicate 32 0
  | k + 1 => (outP h k).set k (outB h k)
theorem outP_len (h : List (BitVec 32)) : ∀ k, (outP h k).length = 32
  | 0 => by simp [outP]
  | k + 1 => by simp [outP, outP_len h k]
def hashL (l : List UInt8) : List (BitVec 32) := blocksN startL l (l.length / 64)
def sumL (b : List UInt8) : List UInt8 := outP (hashL (padL b)) 32
theorem sumL_len (b : List UInt8) : (sumL b).length = 32 := outP_len _ _
theorem startL_len : startL.length = 8 := rfl

/-- Block g holds the bytes l and nothing else. -/
def Bs (w : World) (g : Nat) (t : TypeId) (l : List UInt8) : Prop := w.heap[g]? = some (.cells (l.map bv).toArray t (0, 0))
section
variable {w w' : World} {g : Nat} {t : TypeId} {l : List UInt8}
theorem Bs.cell (h : Bs w g t l) (i : Nat) (hi : i < l.length) : w.cell? ⟨g, i, none⟩ = some (bv (getB l i)) := by
  rw [heap_cell h]
  simp [getB, List.getD, hi]
theorem Bs.free (h : Bs w g t l) (i : Nat) : w.frozen? ⟨g, i, none⟩ = false := heap_free h i
theorem Bs.set (h : Bs w g t l) (i : Nat) (x : UInt8) : Bs (w.setCell ⟨g, i, none⟩ (bv x)) g t (l.set i x) := by
  unfold Bs
  rw [heap_set h, List.map_set]
  simp
theorem Bs.far (h : Bs w g t l) {p : Addr} (u : Value) (hp : g ≠ p.block) : Bs (w.setCell p u) g t l := (heap_far u hp).trans h
theorem Bs.lt (h : Bs w g t l) : g < w.heap.size := heap_lt h
theorem Bs.below (h : Bs w g t l) (hb : Below w.heap.size w w') : Bs w' g t l := (hb.block g h.lt).trans h
theorem Bs.grown (h : Bs w g t l) {r : Option Nat} (hb : w.grownBy w' r) (hr : r ≠ some g) : Bs w' g t l := (hb.block g h.lt (fun e => hr e.symm)).trans h
theorem Bs.drewN (h : Bs w g t l) (n : Nat) : Bs (w.drewN n) g t l := h
theorem Bs.alloc (h : Bs w g t l) (o : Obj) : Bs (w.alloc o) g t l := (Below.heap_alloc w o g h.lt).trans h
end
theorem Ws.grown {w w' : World} {g : Nat} {t : TypeId} {l : List (BitVec 32)} (h : Ws w g t l) {r : Option Nat} (hb : w.grownBy w' r) (hr : r ≠ some g) : Ws w' g t l := (hb.block g h.lt (fun e => hr e.symm)).trans h

/-- The address reads as slices of bytes. -/
def RdS (w : World) (A : Option Addr) (bss : List (List UInt8)) : Prop :=
  bss = [] ∨ ∃ b off, A = some ⟨b, off, none⟩ ∧ b < w.heap.size ∧ ∀ k (h : k < bss.length), ∃ Ak ck, w.cell? ⟨b, off + k, none⟩ = some (.slice Ak bss[k].length ck) ∧ Rd w Ak (bss[k].map bv) ∧ bss[k].length ≤ ck ∧ ck ≤ maxLen
section
variable {w w' : World} {A : Option Addr} {bss : List (List UInt8)}
theorem RdS.nil_ : RdS w A [] := .inl rfl
theorem RdS.below (h : RdS w A bss) (hb : Below w.heap.size w w') : RdS w' A bss := by
  rcases h with h | ⟨b, off, hA, hlt, hc⟩
  · exact .inl h
  · refine .inr ⟨b, off, hA, Nat.lt_of_lt_of_le hlt hb.size, fun k hk => ?_⟩
    obtain ⟨Ak, ck, h1, h2, h3, h4⟩ := hc k hk
    exact ⟨Ak, ck, (hb.cell (p := ⟨b, _, none⟩) hlt).trans h1, h2.below hb, h3, h4⟩
theorem RdS.drewN (h : RdS w A bss) (n : Nat) : RdS (w.drewN n) A bss := h
theorem RdS.alloc (h : RdS w A bss) (o : Obj) : RdS (w.alloc o) A bss := h.below ((Below.refl _ _).alloc (Nat.le_refl _) o)
theorem RdS.addr (h : RdS w A bss) (h0 : 0 < bss.length) : ∃ b off, A = some ⟨b, off, none⟩ ∧ b < w.heap.size ∧ ∀ k (h : k < bss.length), ∃ Ak ck, w.cell? ⟨b, off + k, none⟩ = some (.slice Ak bss[k].length ck) ∧ Rd w Ak (bss[k].map bv) ∧ bss[k].length ≤ ck ∧ ck ≤ maxLen := by
  rcases h with rfl | h
  · simp at h0
  · exact h
end
theorem flatten_take_succ (bss : List (List UInt8)) (k : Nat) (h : k < bss.length) : (bss.take (k + 1)).flatten = (bss.take k).flatten ++ bss[k] := by
  rw [List.take_succ_eq_append_getElem h, List.flatten_append]; simp
theorem flatten_take_le (bss : List (List UInt8)) (k : Nat) : (bss.take k).flatten.length ≤ bss.flatten.length := by
  have h := congrArg (fun l => l.flatten.length) (List.take_append_drop k bss)
  simp only [List.flatten_append, List.length_append] at h
  omega

/-! ### Arrays of 32 bytes -/
theorem info_a32 : (Try.prog.info? 47).map (·.size) = some 32 := by kernel_rfl
theorem wpList_loadA (w : World) {ops : Array Oper} {rest : List Oper} {o : Oper} {a : Act} {Q : Exit → Act → World → Prop} (hgd : o.guard = none) (x : Operand) (ho : o.op = .load 47 x)
    (g : Nat) (l : List UInt8) (hx : a.eval x = .pointer (some ⟨g, 0, none⟩)) (t : TypeId) (hW : Bs w g t l) (h8 : l.length = 32)
    (h : wpList Try.prog ops Q rest (a.put o.dst (.agg (l.map bv).toArray)) w) : wpList Try.prog ops Q (o :: rest) a w :=
  wpList_load_row hgd 47 x ho g hx _ _ _ _ hW Try.underlying47 rfl (by rw [info_a32]; simp [h8]) h
theorem wpList_storeA (w : World) {ops : Array Oper} {rest : List Oper} {o : Oper} {a : Act} {Q : Exit → Act → World → Prop} (hgd : o.guard = none) (x y : Operand) (ho : o.op = .store 47 x y)
    (g : Nat) (C : Array Value) (hx : a.eval x = .pointer (some ⟨g, 0, none⟩)) (hy : a.eval y = .agg C) (t : TypeId) (l old : List UInt8) (hC : C = (l.map bv).toArray) (hW : Bs w g t old) (h8 : l.length = 32) (o8 : old.length = 32)
    (h : ∀ w', Bs w' g t l → w.grownBy w' (some g) → wpList Try.prog ops Q rest (a.put o.dst undef) w') : wpList Try.prog ops Q (o :: rest) a w := by
  subst hC
  refine wpList_store_row hgd 47 x y ho g _ hx hy t _ hW (by rw [info_a32]; simp [h8]) (by simp [h8, o8]) ?_ (h _ (setRow_heap w g _ _ _ _ hW) ⟨rfl, rfl, rfl, by simp, fun k _ hk => setRow_other w g k _ (fun e => hk (by rw [e]))⟩)
  simp only [Array.all_eq_true_iff_forall_mem]
  intro u hu
  simp only [List.mem_toArray, List.mem_map] at hu
  obtain ⟨_, _, rfl⟩ := hu
  rfl
theorem results_a32 {fn : Func} {p : Tmp} (h : fn.results = #[.cell p 47]) (tmps : Array Value) (w : World) (g : Nat) (t : TypeId) (l : List UInt8) (hp : tmps.getD p undef = .pointer (some ⟨g, 0, none⟩)) (hW : Bs w g t l) (h8 : l.length = 32) :
    (results fn tmps).run Try.prog w = .ok (.agg (l.map bv).toArray) w :=
  results_cell_row h tmps w g _ _ _ _ hp hW Try.underlying47 rfl (by rw [info_a32]; simp [h8])
end Go.Proofs.Ytcffinkkfdfcaaa

/- What sha.first and sha.Sum answer. Conditions: the table stands; the parts' lengths fit. -/
namespace Go.Proofs.Ytcffinkkfdfcaaa
open Go Go.RowKit
attribute [local go_sem] wv_add wv_sub wv_mul wv_xor wv_and wv_or wv_shr wv_shl wv_not wv_store bv_store bv_conv wv_conv wv_cells bv_cells no_cells wv_cellsOf bv_cellsOf

theorem zeros_8 : #[wv 0, wv 0, wv 0, wv 0, wv 0, wv 0, wv 0, wv 0] = ((List.replicate 8 (0 : BitVec 32)).map wv).toArray := rfl

theorem be8_val (n t : Nat) : Value.int .u8 ((n : Int) * 8 / 2 ^ (8 * t) % 256) = bv (lo8 (8 * n / 256 ^ t)) := by
  unfold bv
  rw [lo8_nat, show (256 : Nat) ^ t = 2 ^ (8 * t) by rw [Nat.pow_mul], Nat.mul_comm 8 n]
  congr 1
theorem zero8_len : (List.replicate 8 (0 : BitVec 32)).length = 8 := rfl
def sliceLen : Value → Nat
  | .slice _ n _ => n
  | _ => 0

end Go.Proofs.Ytcffinkkfdfcaaa

/- What the reference's turned, root and block answer. Conditions: eight words, 64 bytes. -/
namespace Go.Proofs.Ytcffinkkfdfcaaa
open Go Go.RowKit

theorem c24 : Value.int .u32 16777216 = wv (BitVec.twoPow 32 24) := by kernel_rfl
theorem c16 : Value.int .u32 65536 = wv (BitVec.twoPow 32 16) := by kernel_rfl
theorem c8 : Value.int .u32 256 = wv (BitVec.twoPow 32 8) := by kernel_rfl
theorem cFF : Value.int .u32 4294967295 = wv (BitVec.allOnes 32) := by kernel_rfl
theorem wv_mul24 (t : TypeId) (x : BitVec 32) : binOp .mul t (wv x) (.int .u32 16777216) = pure (wv (x <<< 24)) := by
  rw [c24, wv_mul, BitVec.mul_twoPow_eq_shiftLeft]
theorem wv_mul16 (t : TypeId) (x : BitVec 32) : binOp .mul t (wv x) (.int .u32 65536) = pure (wv (x <<< 16)) := by
  rw [c16, wv_mul, BitVec.mul_twoPow_eq_shiftLeft]
theorem wv_mul8 (t : TypeId) (x : BitVec 32) : binOp .mul t (wv x) (.int .u32 256) = pure (wv (x <<< 8)) := by
  rw [c8, wv_mul, BitVec.mul_twoPow_eq_shiftLeft]
theorem not_all (x : BitVec 32) : BitVec.allOnes 32 - x = ~~~x := by
  apply BitVec.eq_of_toNat_eq
  have := x.isLt
  rw [BitVec.toNat_sub, BitVec.toNat_not, BitVec.toNat_allOnes]
  omega
theorem wv_subc (t : TypeId) (x : BitVec 32) : binOp .sub t (.int .u32 4294967295) (wv x) = pure (wv (~~~x)) := by
  rw [cFF, wv_sub, not_all]
theorem wv_quo (t : TypeId) (x : BitVec 32) (k : Nat) (n : Int) (hn : n = ((2 ^ k : Nat) : Int)) : binOp .quo t (wv x) (.int .u32 n) = pure (wv (x >>> k)) := by
  subst hn
  have h2 : 0 < 2 ^ k := Nat.pow_pos (by decide)
  have hx := x.isLt
  simp only [wv, binOp, ne_eq, not_true_eq_false, if_false]
  unfold Op.intDiv
  rw [if_neg (by omega)]
  simp only
  congr 2
  rw [← Int.ofNat_tdiv, BitVec.toNat_ushiftRight, Nat.shiftRight_eq_div_pow]
  have h3 : x.toNat / 2 ^ k ≤ x.toNat := Nat.div_le_self _ _
  generalize x.toNat / 2 ^ k = q at h3
  simp only [IntKind.wrap_u32]
  omega
theorem wv_quo24 (t : TypeId) (x : BitVec 32) : binOp .quo t (wv x) (.int .u32 16777216) = pure (wv (x >>> 24)) := wv_quo t x 24 _ (by decide)
theorem wv_quo16 (t : TypeId) (x : BitVec 32) : binOp .quo t (wv x) (.int .u32 65536) = pure (wv (x >>> 16)) := wv_quo t x 16 _ (by decide)
theorem wv_quo8 (t : TypeId) (x : BitVec 32) : binOp .quo t (wv x) (.int .u32 256) = pure (wv (x >>> 8)) := wv_quo t x 8 _ (by decide)

theorem bw_bit (b : UInt8) (i : Nat) (h : 8 ≤ i) : (bw b).getLsbD i = false := by
  unfold bw
  rw [BitVec.getLsbD_setWidth, BitVec.getLsbD_of_ge _ _ h]; simp
theorem shl_or (x : BitVec 32) (b : UInt8) (k : Nat) (h : ∀ i, i < k + 8 → x.getLsbD i = false) : x + bw b <<< k = x ||| bw b <<< k := by
  refine BitVec.add_eq_or_of_and_eq_zero _ _ ?_
  apply BitVec.eq_of_getLsbD_eq
  intro i hi
  rw [BitVec.getLsbD_and, BitVec.getLsbD_shiftLeft]
  by_cases h1 : i < k + 8
  · rw [h i h1]; simp
  · rw [bw_bit b (i - k) (by omega)]; simp
theorem shl_bit (b : UInt8) (k i : Nat) (h : i < k) : (bw b <<< k).getLsbD i = false := by
  rw [BitVec.getLsbD_shiftLeft]; simp [h]
theorem be4_sum (b0 b1 b2 b3 : UInt8) : bw b0 <<< 24 + bw b1 <<< 16 + bw b2 <<< 8 + bw b3 = bw b0 <<< 24 ||| bw b1 <<< 16 ||| bw b2 <<< 8 ||| bw b3 := by
  rw [shl_or (bw b0 <<< 24) b1 16 (fun i h => shl_bit _ _ _ h)]
  rw [shl_or _ b2 8 (fun i h => by rw [BitVec.getLsbD_or, shl_bit _ _ _ (by omega), shl_bit _ _ _ (by omega)]; rfl)]
  have := shl_or (bw b0 <<< 24 ||| bw b1 <<< 16 ||| bw b2 <<< 8) b3 0 (fun i h => by rw [BitVec.getLsbD_or, BitVec.getLsbD_or, shl_bit _ _ _ (by omega), shl_bit _ _ _ (by omega), shl_bit _ _ _ (by omega)]; rfl)
  rw [BitVec.shiftLeft_zero] at this
  exact this

attribute [local go_sem] wv_add wv_xor wv_and wv_or wv_shr wv_shl wv_store bv_store bv_conv wv_conv wv_cells bv_cells no_cells wv_cellsOf bv_cellsOf wv_mul24 wv_mul16 wv_mul8 wv_subc

def rootV : List (Nat × Value) := rootL.zipIdx.map fun (x, i) => (i, .int .u32 (x.toNat : Int))
theorem rootL_len : rootL.length = 64 := rfl
theorem zero64_len : (List.replicate 64 (0 : BitVec 32)).length = 64 := rfl

end Go.Proofs.Ytcffinkkfdfcaaa

/- What the reference's block answers. Conditions: eight words, 64 bytes. -/
namespace Go.Proofs.Ytcffinkkfdfcaaa
open Go Go.RowKit
attribute [local go_sem] wv_add wv_xor wv_and wv_or wv_shr wv_shl wv_store bv_store bv_conv wv_conv wv_cells bv_cells no_cells wv_cellsOf bv_cellsOf wv_mul24 wv_mul16 wv_mul8 wv_subc

end Go.Proofs.Ytcffinkkfdfcaaa

/- What the reference's Padded answers. Conditions: the length fits. -/
namespace Go.Proofs.Ytcffinkkfdfcaaa
open Go Go.RowKit

theorem be8_val2 (n t : Nat) (h : t ≤ 7) (s : Nat) (hs : s = 56 - 8 * t) : Value.int .u8 ((n : Int) * 8 / 2 ^ s % 256) = bv (lo8 (8 * n / 256 ^ (7 - t))) := by
  unfold bv
  rw [lo8_nat, show (256 : Nat) ^ (7 - t) = 2 ^ s by rw [hs, show 56 - 8 * t = 8 * (7 - t) by omega, Nat.pow_mul], Nat.mul_comm 8 n]
  congr 1
def sliceLen2 : Value → Nat
  | .slice _ n _ => n
  | _ => 0

end Go.Proofs.Ytcffinkkfdfcaaa

/- A store of one cell, the world left open: what is known of the block goes on. Conditions: none. -/
namespace Go.Proofs.Ytcffinkkfdfcaaa
open Go Go.RowKit

theorem run_put1 {P : Program} (w : World) (b o : Nat) (ty : TypeId) (v : Value) (ht : w.there b o 1) (hi : (P.info? ty).map (·.size) = some 1) (h1 : v.oneCell' = true) :
    (storeVar ty ⟨b, o, none⟩ v).run P w = .ok () (w.setCells b o [v]) := by
  have := run_storeCells_cells (P := P) b o [v] 0 w (fun j hj => by simpa using (ht j (by simpa using hj)).1) (fun j hj => by simpa using (ht j (by simpa using hj)).2) (fun x hx => by simp at hx; subst hx; exact h1)
  have hc : v.cells = #[v] := by cases v <;> first | rfl | cases h1
  cases hq : P.info? ty with
  | none => simp [hq] at hi
  | some i =>
    have hs : i.size = 1 := by simpa [hq] using hi
    simp only [Nat.add_zero] at this
    simp [storeVar, sizeOf, typeInfo, hq, hc, hs, this]
theorem there_one {w : World} {g i : Nat} {cs : Array Value} {t : TypeId} (h : w.heap[g]? = some (.cells cs t (0, 0))) (hi : i < cs.size) : w.there g i 1 := by
  intro j hj
  obtain rfl : j = 0 := by omega
  rw [Nat.add_zero]
  exact ⟨by rw [heap_cell h, Array.getElem?_eq_getElem hi]; rfl, heap_free h i⟩
/-- A store of one cell into a block that is known whole. -/
theorem wpList_put1 {P : Program} (w : World) {ops : Array Oper} {rest : List Oper} {o : Oper} {a : Act} {Q : Exit → Act → World → Prop} (hgd : o.guard = none) (ty : TypeId) (x y : Operand) (ho : o.op = .store ty x y)
    (g i : Nat) (v : Value) (hx : a.eval x = .pointer (some ⟨g, i, none⟩)) (hy : a.eval y = v) (t : TypeId) (cs : Array Value) (hB : w.heap[g]? = some (.cells cs t (0, 0))) (hi : i < cs.size)
    (hs : (P.info? ty).map (·.size) = some 1) (h1 : v.oneCell' = true)
    (h : ∀ w', w'.heap[g]? = some (.cells (cs.setIfInBounds i v) t (0, 0)) → w.grownBy w' (some g) → wpList P ops Q rest (a.put o.dst undef) w') : wpList P ops Q (o :: rest) a w := by
  refine wpList_plain hgd fun K hK => ?_
  unfold Oper.wp execOp
  simp only [ho, hx, hy, Instr.storeAt, Instr.sureAddr, Sem.run_bind, Sem.run_pure, Result.andThen_ok, run_put1 w g i ty v (there_one hB hi) hs h1]
  refine hK _ _ (h _ ?_ ?_)
  · exact heap_set hB i v
  · exact only_set g i v
theorem info_b : (Try.prog.info? 5).map (·.size) = some 1 := by kernel_rfl
theorem wpList_putB (w : World) {ops : Array Oper} {rest : List Oper} {o : Oper} {a : Act} {Q : Exit → Act → World → Prop} (hgd : o.guard = none) (x y : Operand) (ho : o.op = .store 5 x y)
    (g i : Nat) (b : UInt8) (hx : a.eval x = .pointer (some ⟨g, i, none⟩)) (hy : a.eval y = bv b) (t : TypeId) (l : List UInt8) (hB : Bs w g t l) (hi : i < l.length)
    (h : ∀ w', Bs w' g t (l.set i b) → w.grownBy w' (some g) → wpList Try.prog ops Q rest (a.put o.dst undef) w') : wpList Try.prog ops Q (o :: rest) a w := by
  refine wpList_put1 w hgd 5 x y ho g i (bv b) hx hy t _ hB (by simpa using hi) info_b rfl fun w' h1 h2 => h w' ?_ h2
  unfold Bs
  rw [h1, List.map_set]
  simp
theorem far_cell {w w' : World} {r g i : Nat} {v : Value} (hg : w.grownBy w' (some r)) (hc : w.cell? ⟨g, i, none⟩ = some v) (hne : r ≠ g) : w'.cell? ⟨g, i, none⟩ = some v :=
  (World.cell?_of_block (w := w) (a := ⟨g, i, none⟩) (hg.block g (World.block_lt_of_cell? w ⟨g, i, none⟩ hc) (fun e => hne (by injection e with e; exact e.symm)))).trans hc
end Go.Proofs.Ytcffinkkfdfcaaa

/- What the reference's Sum answers: the same as sha.Sum. Conditions: the parts' lengths fit. -/
namespace Go.Proofs.Ytcffinkkfdfcaaa
open Go Go.RowKit
attribute [local go_sem] wv_store bv_store bv_conv wv_conv wv_cells bv_cells no_cells wv_cellsOf bv_cellsOf wv_quo24 wv_quo16 wv_quo8

theorem outP_four (h : List (BitVec 32)) (t : Nat) :
    (((((outP h (4 * t)).set (4 * t) (wb (getW h t >>> 24))).set (4 * t + 1) (wb (getW h t >>> 16))).set (4 * t + 2) (wb (getW h t >>> 8))).set (4 * t + 3) (wb (getW h t))) = outP h (4 * (t + 1)) := by
  rw [show 4 * (t + 1) = 4 * t + 1 + 1 + 1 + 1 by omega]
  simp only [outP, outB]
  rw [show 4 * t / 4 = t by omega, show (4 * t + 1) / 4 = t by omega, show (4 * t + 1 + 1) / 4 = t by omega, show (4 * t + 1 + 1 + 1) / 4 = t by omega]
  rw [show 24 - 8 * (4 * t % 4) = 24 by omega, show 24 - 8 * ((4 * t + 1) % 4) = 16 by omega, show 24 - 8 * ((4 * t + 1 + 1) % 4) = 8 by omega, show 24 - 8 * ((4 * t + 1 + 1 + 1) % 4) = 0 by omega]
  rw [BitVec.ushiftRight_zero]
theorem zeroBs32 (w : World) : Bs (w.alloc (.cells #[.int .u8 0, .int .u8 0, .int .u8 0, .int .u8 0, .int .u8 0, .int .u8 0, .int .u8 0, .int .u8 0, .int .u8 0, .int .u8 0, .int .u8 0, .int .u8 0, .int .u8 0, .int .u8 0, .int .u8 0, .int .u8 0, .int .u8 0, .int .u8 0, .int .u8 0, .int .u8 0, .int .u8 0, .int .u8 0, .int .u8 0, .int .u8 0, .int .u8 0, .int .u8 0, .int .u8 0, .int .u8 0, .int .u8 0, .int .u8 0, .int .u8 0, .int .u8 0] 47)) w.heap.size 47 (List.replicate 32 0) := heap_alloc_new w _
theorem ownsNew (w : World) (o : Obj) : OwnB ((w.alloc o).alloc (.cells #[] 5)) (w.heap.size + 1) (.slice (some ⟨w.heap.size + 1, 0, none⟩) 0 0) ([] : List UInt8) := by
  have h : OwnB ((w.alloc o).alloc (.cells #[] 5)) (w.heap.size + 1) (.slice (some ⟨(w.alloc o).heap.size, 0, none⟩) 0 0) ([] : List UInt8) := World.ownsRow_made (w.alloc o) #[] 0 (by simp) (Nat.zero_le _) rfl
  rw [World.size_alloc] at h
  exact h
end Go.Proofs.Ytcffinkkfdfcaaa

/- A sum as one value: held against another one; the two sums of the chapter's example, worked out. Conditions: none. -/
namespace Go.Proofs.Ytcffinkkfdfcaaa
open Go Go.RowKit

def bl (b : UInt8) : Lit := .int .u8 (b.toNat : Int)
theorem bl_inj {x y : UInt8} (h : bl x = bl y) : x = y := by
  simp only [bl, Lit.int.injEq, true_and] at h
  exact UInt8.toNat_inj.1 (by omega)
theorem bl_map {a b : List UInt8} (h : a.map bl = b.map bl) : a = b := by
  induction a generalizing b with
  | nil => cases b with
    | nil => rfl
    | cons y b => simp at h
  | cons x a ih => cases b with
    | nil => simp at h
    | cons y b =>
      simp only [List.map_cons, List.cons.injEq] at h
      rw [bl_inj h.1, ih h.2]
theorem mapM_range {α : Type} (n : Nat) (f : Nat → Option α) (g : Nat → α) (h : ∀ i, i < n → f i = some (g i)) : (List.range n).mapM f = some ((List.range n).map g) := by
  have go : ∀ (is : List Nat), (∀ i ∈ is, i < n) → is.mapM f = some (is.map g) := by
    intro is
    induction is with
    | nil => intro _; rfl
    | cons i is ih =>
      intro hi
      rw [List.mapM_cons, h i (hi i (by simp)), ih (fun j hj => hi j (by simp [hj]))]
      rfl
  exact go _ (fun i hi => List.mem_range.1 hi)
theorem flat1 {α : Type} (g : Nat → α) (is : List Nat) : (is.map fun i => [g i]).flatten = is.map g := by
  induction is with
  | nil => rfl
  | cons i is ih => rw [List.map_cons, List.flatten_cons, ih]; rfl
theorem cells_a32 : Try.prog.cellsOf 47 = 32 := by kernel_rfl
theorem cells_u8 : Try.prog.cellsOf 5 = 1 := by kernel_rfl
theorem key_a32 : Try.prog.keyTypeAt 2 47 = true := by kernel_rfl
theorem guard_a32 : Try.prog.eqGuardType Try.prog.depth 47 = false := by kernel_rfl
theorem keyLits_a32 (l : List UInt8) (h : l.length = 32) : Try.prog.keyLits 2 47 (l.map bv) = some (l.map bl) := by
  unfold Program.keyLits
  rw [Try.underlying47]
  simp only [List.length_map, h, cells_a32, cells_u8, if_true]
  rw [mapM_range 32 _ (fun i => [bl (getB l i)]) (fun i hi => ?_)]
  · rw [Option.map_some]
    congr 1
    rw [flat1 (fun i => bl (getB l i))]
    apply List.ext_getElem (by simp [h])
    intro i h1 h2
    simp only [List.getElem_map, List.getElem_range]
    simp at h2
    simp [getB, List.getD, h2]
  · unfold Program.keyLits
    rw [Try.underlying5]
    have hi' : i < (l.map bv).length := by simp [h, hi]
    rw [Nat.mul_one, List.drop_eq_getElem_cons hi', List.take_succ_cons, List.take_zero]
    have hb := (l[i]'(by simpa using hi')).toNat_lt
    have hw : (Lit.int .u8 ((l[i]'(by simpa using hi')).toNat : Int)).wf = true := by
      simp [Lit.wf, IntKind.min, IntKind.max, IntKind.signed, IntKind.bits] at hb ⊢; omega
    simp only [List.getElem_map, bv]
    simp [hw, getB, List.getD, bl, h, hi]
set_option maxRecDepth 100000 in
theorem run_eqA (w : World) (a b : List UInt8) (ha : a.length = 32) (hb : b.length = 32) :
    (Op.equalIn 10000 47 (.agg (a.map bv).toArray) (.agg (b.map bv).toArray)).run Try.prog w = .ok (decide (a = b)) w := by
  have fa : (Value.agg (a.map bv).toArray).formed Try.prog 47 = true := by simp [Value.formed, Try.underlying47, cells_a32, ha]
  have fb : (Value.agg (b.map bv).toArray).formed Try.prog 47 = true := by simp [Value.formed, Try.underlying47, cells_a32, hb]
  obtain ⟨r, hr, hiff⟩ := run_equalIn_deep (P := Try.prog) 9998 2 47 key_a32 w 2 2 _ _ (a.map bl) (b.map bl) fa fb (by simpa [Value.cells] using keyLits_a32 a ha) (by simpa [Value.cells] using keyLits_a32 b hb)
  rw [show 10000 = 9998 + 2 from rfl, hr]
  congr 1
  rw [Bool.eq_iff_iff, hiff, decide_eq_true_iff]
  exact ⟨bl_map, fun h => by rw [h]⟩

/-- The sum of bytes, as one value. -/
def sumV (b : List UInt8) : Value := .agg ((sumL b).map bv).toArray
theorem run_eq_sumV (w : World) (a b : List UInt8) : (binOp .eql 47 (sumV a) (sumV b)).run Try.prog w = .ok (.bool (decide (sumL a = sumL b))) w := by
  unfold sumV
  rw [run_eql_struct, run_eqA w _ _ (sumL_len a) (sumL_len b)]
  rfl
theorem run_guard_sumV (w : World) (op : BinOp) (x y : Operand) (a b : List UInt8) : (eqGuard op 47 x y (sumV a) (sumV b)).run Try.prog w = .ok () w := by
  unfold sumV
  exact run_eqGuard_agg w op _ x y _ _ guard_a32
set_option maxRecDepth 100000 in
theorem sum_none : (sumL [])[0]? = some 0xe3 ∧ (sumL [])[31]? = some 0x55 := by decide +kernel
set_option maxRecDepth 100000 in
theorem sum_abc : (sumL [97, 98, 99])[0]? = some 0xba ∧ (sumL [97, 98, 99])[1]? = some 0x78 ∧ (sumL [97, 98, 99])[31]? = some 0xad := by decide +kernel
end Go.Proofs.Ytcffinkkfdfcaaa
