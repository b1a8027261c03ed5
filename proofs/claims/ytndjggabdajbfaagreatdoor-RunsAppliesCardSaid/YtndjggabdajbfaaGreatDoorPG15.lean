/- Parts one behind the other: Plain law: how numbers are laid as bytes; no program in sight; What the layer wire's and its reference's Var answer: a number laid by as few bytes as can be; What the layer wire's and its reference's Num answer: a number by so many bytes, the highest first; Copy and Same of the first reference: bytes copied, bytes held against each other; Plain: which screens the first version can show, a cell's bytes, the diff by rows; Plain: to which screen a diff by rows leads; that a diff laid leads where it should; that a diff cut off leads nowhere; Plain: which screens the second version can show; the diff by runs; Plain law: what is read as a number is just what is laid for it, and the other way round; Plain: to which screen a diff by runs leads; that a diff laid leads where it should; Plain: the runs laid of two rows of cells are read back; the things of a diff by runs, and where they lead; Plain: a diff by runs laid leads where it should; What rows.Fits and the reference's Fits (16) answer; slices.Equal on cells; What runs.Fits and the reference's Fits (17) answer; The features' bits, and what the reference's Has answers; What law 15's great and fixed answer; What law 17's great and runs.put answer; Plain: the runs by their places, as runs.layRuns goes; What slices.Equal on cells answers. Conditions: as told at each. -/
import Derived.WalkKit
import Derived.Laws.BitsAllLaws
import Derived.Test.YtndjggabdajbfaaGreatDoorPG1
import Derived.Test.YtndjggabdajbfaaGreatDoorPG14
import Derived.Test.YtndjggabdajbfaaGreatDoorPG13
import Derived.Test.YtndjggabdajbfaaGreatDoorPG9

set_option linter.unusedVariables false
set_option linter.unusedSimpArgs false
/- Plain law: how numbers are laid as bytes; no program in sight. Conditions: none. -/
namespace Go.Proofs.YtndjggabdajbfaaGreatDoor
open Go Go.RowKit

/-- The lowest byte; a digit of 128 that is not the last. -/
def lo (n : Nat) : UInt8 := UInt8.ofNat n
def dig (n : Nat) : UInt8 := UInt8.ofNat (n % 128 + 128)
theorem lo_nat (n : Nat) : (lo n).toNat = n % 256 := by simp [lo]
/-- A number by digits of 128, the lowest first. -/
def varL (n : Nat) : List UInt8 := if n < 128 then [lo n] else dig n :: varL (n / 128)
termination_by n
decreasing_by omega

theorem varL_lo {n : Nat} (h : n < 128) : varL n = [lo n] := by rw [varL, if_pos h]
theorem varL_hi {n : Nat} (h : 128 ≤ n) : varL n = dig n :: varL (n / 128) := by rw [varL, if_neg (by omega)]

theorem varL_len (k : Nat) : ∀ n, n < 128 ^ (k + 1) → (varL n).length ≤ k + 1 := by
  induction k with
  | zero => intro n h; rw [varL_lo (by simpa using h)]; simp
  | succ k ih =>
    intro n h
    by_cases h0 : n < 128
    · rw [varL_lo h0]; simp
    · rw [varL_hi (by omega), List.length_cons]
      have := ih (n / 128) (by rw [Nat.div_lt_iff_lt_mul (by decide)]; rw [Nat.pow_succ] at h; exact h)
      omega

def U64 (n : Nat) : Prop := n < 2 ^ 64
theorem U64.out {n : Nat} (h : U64 n) : n < 18446744073709551616 := h
theorem U64.le {n m : Nat} (h : U64 n) (hm : m ≤ n) : U64 m := Nat.lt_of_le_of_lt hm h
theorem varL_len10 {n : Nat} (h : U64 n) : (varL n).length ≤ 10 := varL_len 9 n (Nat.lt_trans h (by decide))

theorem or128 (n : Nat) : (UInt8.ofNat n ||| 128) = dig n := by
  unfold dig
  apply UInt8.toNat_inj.1
  have h : ∀ a : Fin 256, a.val ||| 128 = a.val % 128 + 128 := by decide +kernel
  have h2 := h ⟨n % 256, by omega⟩
  simp only [] at h2
  simp only [UInt8.toNat_or, UInt8.toNat_ofNat']
  show n % 256 ||| 128 = _
  rw [h2]
  omega

/-! ### Numbers read -/
inductive VR where
  | bad (e : Nat)
  | ok (n k : Nat)

/-- What bytes say as a number, the i-th of them first. -/
def varGo : List UInt8 → Nat → VR
  | [], _ => .bad 2
  | d :: l, i => if (i = 9 ∧ 1 < d.toNat) ∨ (0 < i ∧ d.toNat = 0) then .bad 3
    else if d.toNat < 128 then .ok d.toNat 1
    else match varGo l (i + 1) with
      | .bad e => .bad e
      | .ok n k => .ok (d.toNat % 128 + 128 * n) (k + 1)

def VR.after (x i : Nat) : VR → VR
  | .bad e => .bad e
  | .ok n k => .ok (x + 128 ^ i * n) (i + k)

theorem VR.after_zero (v : VR) : v.after 0 0 = v := by cases v <;> simp [VR.after]
theorem varGo_end {l : List UInt8} {i : Nat} (h : l.length ≤ i) (x : Nat) : (varGo (l.drop i) i).after x i = .bad 2 := by
  rw [List.drop_of_length_le h]; rfl
theorem varGo_form {l : List UInt8} {i : Nat} (h : i < l.length) (x : Nat) (hb : (i = 9 ∧ 1 < (l[i]).toNat) ∨ (0 < i ∧ (l[i]).toNat = 0)) : (varGo (l.drop i) i).after x i = .bad 3 := by
  rw [List.drop_eq_getElem_cons h, varGo, if_pos hb]; rfl
theorem varGo_last {l : List UInt8} {i : Nat} (h : i < l.length) (x : Nat) (hb : ¬ ((i = 9 ∧ 1 < (l[i]).toNat) ∨ (0 < i ∧ (l[i]).toNat = 0))) (hd : (l[i]).toNat < 128) :
    (varGo (l.drop i) i).after x i = .ok (x + 128 ^ i * (l[i]).toNat) (i + 1) := by
  rw [List.drop_eq_getElem_cons h, varGo, if_neg hb, if_pos hd]; rfl
theorem varGo_more {l : List UInt8} {i : Nat} (h : i < l.length) (x : Nat) (hb : ¬ ((i = 9 ∧ 1 < (l[i]).toNat) ∨ (0 < i ∧ (l[i]).toNat = 0))) (hd : 128 ≤ (l[i]).toNat) :
    (varGo (l.drop i) i).after x i = (varGo (l.drop (i + 1)) (i + 1)).after (x + 128 ^ i * ((l[i]).toNat % 128)) (i + 1) := by
  rw [List.drop_eq_getElem_cons h, varGo, if_neg hb, if_neg (by omega)]
  cases varGo (l.drop (i + 1)) (i + 1) with
  | bad e => rfl
  | ok n k =>
    simp only [VR.after, VR.ok.injEq]
    constructor
    · rw [Nat.mul_add, Nat.pow_succ, Nat.mul_assoc]; omega
    · omega

/-- The next digit is put by or. -/
theorem or_digit {x i d : Nat} (hx : x < 128 ^ i) : x ||| (d <<< (7 * i)) = x + 128 ^ i * d := by
  have e : 128 ^ i = 2 ^ (7 * i) := by rw [Nat.pow_mul]
  rw [e] at hx ⊢
  rw [Nat.shiftLeft_eq, Nat.or_comm, Nat.mul_comm d, ← Nat.two_pow_add_eq_or_of_lt hx]
  omega
theorem digit_lt {x i d : Nat} (hx : x < 128 ^ i) (hd : d < 128) : x + 128 ^ i * d < 128 ^ (i + 1) := by
  rw [Nat.pow_succ]
  have : 128 ^ i * d ≤ 128 ^ i * 127 := Nat.mul_le_mul_left _ (by omega)
  omega
theorem digit_u64 {x i d : Nat} (hi : i ≤ 9) (hx : x < 128 ^ i) (hd : d < 128) (h9 : i = 9 → d ≤ 1) : U64 (x + 128 ^ i * d) := by
  rcases Nat.lt_or_ge i 9 with h | h
  · exact Nat.lt_of_lt_of_le (digit_lt hx hd) (Nat.le_trans (Nat.pow_le_pow_right (by decide) (show i + 1 ≤ 9 by omega)) (by decide))
  · obtain rfl : i = 9 := by omega
    have := h9 rfl
    have h2 : 128 ^ 9 * d ≤ 128 ^ 9 * 1 := Nat.mul_le_mul_left _ this
    show _ < 2 ^ 64
    have h3 : (128 : Nat) ^ 9 + 128 ^ 9 * 1 ≤ 2 ^ 64 := by decide
    omega

def badDg (i d : Nat) : Prop := (i = 9 ∧ 1 < d) ∨ (0 < i ∧ d = 0)
theorem varGo_form' {l : List UInt8} {i d : Nat} (h : i < l.length) (hd : d = (l[i]).toNat) (x : Nat) (hb : badDg i d) : (varGo (l.drop i) i).after x i = .bad 3 := by
  subst hd; exact varGo_form h x hb
theorem varGo_last' {l : List UInt8} {i d : Nat} (h : i < l.length) (hd : d = (l[i]).toNat) (x : Nat) (hb : ¬ badDg i d) (h8 : d < 128) : (varGo (l.drop i) i).after x i = .ok (x + 128 ^ i * (d % 128)) (i + 1) := by
  subst hd; rw [varGo_last h x hb h8, Nat.mod_eq_of_lt h8]
theorem varGo_more' {l : List UInt8} {i d : Nat} (h : i < l.length) (hd : d = (l[i]).toNat) (x : Nat) (hb : ¬ badDg i d) (h8 : 128 ≤ d) : (varGo (l.drop i) i).after x i = (varGo (l.drop (i + 1)) (i + 1)).after (x + 128 ^ i * (d % 128)) (i + 1) := by
  subst hd; exact varGo_more h x hb h8

theorem and127 (d : Nat) (h : d < 256) : bits BinOp.and .u8 (d : Int) 127 = ((d : Int) % 128) := by
  rw [show (127 : Int) = ((127 : Nat) : Int) from rfl, u8_and_nat d 127 h (by decide)]
  rw [show (127 : Nat) = 2 ^ 7 - 1 from rfl, Nat.and_two_pow_sub_one_eq_mod]
  rfl
theorem or_walk {x k d : Nat} (hx : x < 128 ^ k) (hk : k ≤ 9) (h9 : k = 9 → d % 128 ≤ 1) (hu : U64 x) :
    bits BinOp.or .u64 (x : Int) (IntKind.u64.wrap ((d : Int) % 128 * 2 ^ (7 * k))) = ((x + 128 ^ k * (d % 128) : Nat) : Int) := by
  have h1 := digit_u64 (x := 0) hk (Nat.pow_pos (by decide)) (show d % 128 < 128 by omega) h9
  rw [Nat.zero_add] at h1
  have e : ((d : Int) % 128 * 2 ^ (7 * k)) = ((128 ^ k * (d % 128) : Nat) : Int) := by
    rw [show (128 : Nat) ^ k = 2 ^ (7 * k) by rw [Nat.pow_mul]]
    rw [Int.natCast_mul, Int.mul_comm]
    congr 1
  rw [e, IntWalk.u64_in _ ⟨by omega, by have := h1.out; omega⟩, u64_or_nat _ _ hu.out h1.out]
  congr 1
  have h2 := or_digit (d := d % 128) hx
  rw [Nat.shiftLeft_eq, Nat.mul_comm] at h2
  rw [show (128 : Nat) ^ k = 2 ^ (7 * k) by rw [Nat.pow_mul]] at h2 ⊢
  exact h2

/-- Bytes as a number, the highest first. -/
def beN (l : List UInt8) : Nat := l.foldl (fun a d => a * 256 + d.toNat) 0
theorem beN_snoc (l : List UInt8) (d : UInt8) : beN (l ++ [d]) = beN l * 256 + d.toNat := by simp [beN]
theorem beN_lt (l : List UInt8) : beN l < 256 ^ l.length := by
  rw [← List.reverse_reverse l]
  induction l.reverse with
  | nil => decide
  | cons d l ih =>
    rw [List.reverse_cons, beN_snoc, List.length_append, List.length_singleton, Nat.pow_succ]
    have := UInt8.toNat_lt d
    omega
theorem or_byte (x d : Nat) (hd : d < 256) : (x * 256) ||| d = x * 256 + d := by
  rw [show (256 : Nat) = 2 ^ 8 from rfl, Nat.mul_comm] at *
  rw [Nat.two_pow_add_eq_or_of_lt hd]
theorem or_walk8 {x d : Nat} (hx : U64 (x * 256)) (hd : d < 256) : bits BinOp.or .u64 ((x : Int) * 256) (d : Int) = ((x * 256 + d : Nat) : Int) := by
  have h1 := u64_or_nat (x * 256) d hx.out (by omega)
  rw [Int.natCast_mul] at h1
  rw [show ((256 : Nat) : Int) = 256 from rfl] at h1
  rw [h1, or_byte x d hd]

theorem varGo_bd : ∀ (l : List UInt8) (i n k : Nat), i ≤ 9 → varGo l i = .ok n k → n < 2 ^ (64 - 7 * i) ∧ k ≤ l.length ∧ 1 ≤ k
  | [], _, _, _, _, h => by cases h
  | d :: l, i, n, k, hi, h => by
    rw [varGo] at h
    by_cases hb : (i = 9 ∧ 1 < d.toNat) ∨ (0 < i ∧ d.toNat = 0)
    · rw [if_pos hb] at h; cases h
    · rw [if_neg hb] at h
      by_cases h8 : d.toNat < 128
      · rw [if_pos h8] at h
        injection h with h1 h2
        subst h1; subst h2
        refine ⟨?_, by simp, by omega⟩
        rcases Nat.lt_or_ge i 9 with h9 | h9
        · exact Nat.lt_of_lt_of_le h8 (Nat.le_trans (show 128 ≤ 2 ^ 7 by decide) (Nat.pow_le_pow_right (by decide) (by omega)))
        · obtain rfl : i = 9 := by omega
          have : ¬ 1 < d.toNat := fun h => hb (.inl ⟨rfl, h⟩)
          show d.toNat < 2
          omega
      · rw [if_neg h8] at h
        have hi8 : i < 9 := by
          rcases Nat.lt_or_ge i 9 with h9 | h9
          · exact h9
          · exact absurd (.inl ⟨by omega, by omega⟩) hb
        cases hv : varGo l (i + 1) with
        | bad e => rw [hv] at h; cases h
        | ok n' k' =>
          rw [hv] at h
          injection h with h1 h2
          obtain ⟨g1, g2, g3⟩ := varGo_bd l (i + 1) n' k' (by omega) hv
          subst h1; subst h2
          refine ⟨?_, by simp; omega, by omega⟩
          have e : 2 ^ (64 - 7 * i) = 128 * 2 ^ (64 - 7 * (i + 1)) := by
            rw [show (128 : Nat) = 2 ^ 7 from rfl, ← Nat.pow_add]; congr 1; omega
          rw [e]
          omega
theorem varGo_u64 {l : List UInt8} {n k : Nat} (h : varGo l 0 = .ok n k) : U64 n ∧ k ≤ l.length ∧ 1 ≤ k := varGo_bd l 0 n k (by decide) h
theorem varGo_err {l : List UInt8} {i e : Nat} (h : varGo l i = .bad e) : e = 2 ∨ e = 3 := by
  induction l generalizing i with
  | nil => injection h with h; exact .inl h.symm
  | cons d l ih =>
    rw [varGo] at h
    split at h
    · injection h with h; exact .inr h.symm
    · split at h
      · cases h
      · cases hv : varGo l (i + 1) with
        | bad e' => rw [hv] at h; injection h with h; subst h; exact ih hv
        | ok _ _ => rw [hv] at h; cases h

end Go.Proofs.YtndjggabdajbfaaGreatDoor



/- What the layer wire's and its reference's Var answer: a number laid by as few bytes as can be. Conditions: a number of 64 bits. -/
namespace Go.Proofs.YtndjggabdajbfaaGreatDoor
open Go Go.RowKit

theorem varStep_hi {n x : Nat} {bs : List UInt8} (h : varL n = bs ++ varL x) (hx : 128 ≤ x) : varL n = (bs ++ [dig x]) ++ varL (x / 128) := by
  rw [h, varL_hi hx, List.append_assoc]; rfl
theorem varStep_len {n x : Nat} {bs : List UInt8} (hn : U64 n) (h : varL n = bs ++ varL x) : bs.length ≤ 10 := by
  have h1 := varL_len10 hn
  rw [h, List.length_append] at h1
  omega

theorem bits_or128 (x : Nat) : Value.int .u8 (bits BinOp.or .u8 (((x : Nat) : Int) % 256) 128) = bv (dig x) := by
  have h := u8_or_nat (x % 256) 128 (by omega) (by omega)
  rw [show ((x % 256 : Nat) : Int) = (x : Int) % 256 by omega] at h
  have h2 := congrArg UInt8.toNat (or128 x)
  simp only [UInt8.toNat_or, UInt8.toNat_ofNat'] at h2
  rw [show (128 : UInt8).toNat = 128 from rfl] at h2
  unfold bv
  rw [show ((128 : Int)) = ((128 : Nat) : Int) from rfl, h, show (256 : Nat) = 2 ^ 8 from rfl, h2]

theorem int_lo {x : Int} {n : Nat} (h : x = ((n % 256 : Nat) : Int)) : Value.int .u8 x = bv (lo n) := by rw [h, bv, lo_nat]

set_option maxRecDepth 100000 in
set_option maxHeartbeats 400000 in
theorem Var_c (n : Nat) (w : World) (hn : U64 n) :
    Calls Tryz.prog 70 #[.int .u64 n] w fun e w' => ∃ v, e = .returned v ∧ OwnB w' w.heap.size v (varL n) ∧ Below w.heap.size w w' := by
  go_enter Tryz.func70, Tryz.ntmps70
  go_wp2
  go_loopw [0, 3] (fun m v wr => ∃ (x : Nat) (bs : List UInt8), m = .int .u64 x ∧ varL n = bs ++ varL x ∧ U64 x ∧ OwnB wr w.heap.size v bs ∧ Below w.heap.size w wr) (fun m v _ => (intOf m).toNat)
  case atStart => exact ⟨n, [], rfl, rfl, hn, Own.nil_ _ _ _, Below.refl _ _⟩
  case round =>
    obtain ⟨x, bs, rfl, hv, hx, hown, hb⟩ := hrel
    have hl := varStep_len hn hv
    have hz := hb.size
    have HV := Lib.hid hv; clear hv
    rcases Int.lt_or_le (x : Int) 128 with hlt | hle
    · go_wp2_with (first | (at_builtin; refine wpList_appB1 _ rfl (.tmp 14) (.tmp 17) rfl w.heap.size _ bs rfl hown _ rfl (lo x) ?_ (by omega) (by omega) ?_))
      · exact int_lo (by omega)
      · intro v' w' h1 h2 _
        go_wp2
        go_ret
        refine ⟨_, rfl, ?_, ?_⟩
        · rw [HV.out, varL_lo (by omega)]; exact h1
        · exact (hb.alloc (by omega) _).grown h2 (by simp; omega) (fun k hk => (hown.lt k hk).1)
    · go_wp2_with (first | (at_builtin; refine wpList_appB1 _ rfl (.tmp 6) (.tmp 10) rfl w.heap.size _ bs rfl hown _ rfl (dig x) ?_ (by omega) (by omega) ?_))
      · exact bits_or128 x
      · intro v' w' h1 h2 _
        go_wp2
        go_roundw
        case rel => exact ⟨x / 128, _, by go_num, varStep_hi HV.out (by omega), hx.le (by omega), h1, (hb.alloc (by omega) _).grown h2 (by simp; omega) (fun k hk => (hown.lt k hk).1)⟩
        case measure => simp [intOf]; omega

/-! ### The reference's Var: the same by division -/
end Go.Proofs.YtndjggabdajbfaaGreatDoor



/- What the layer wire's and its reference's Num answer: a number by so many bytes, the highest first. Conditions: a number of 64 bits. -/
namespace Go.Proofs.YtndjggabdajbfaaGreatDoor
open Go Go.RowKit

/-! ### Num -/
end Go.Proofs.YtndjggabdajbfaaGreatDoor



/- Copy and Same of the first reference: bytes copied, bytes held against each other. Conditions: lengths that fit. -/
namespace Go.Proofs.YtndjggabdajbfaaGreatDoor
open Go Go.RowKit

def sameB (xs ys : List UInt8) : Bool := decide (xs = ys)
/-! ### Copy -/
set_option maxRecDepth 100000 in
set_option maxHeartbeats 400000 in
theorem Copy_c (A : Option Addr) (n c : Nat) (bs : List UInt8) (w : World) (hn : bs.length = n) (hr : Rd w A (bs.map bv)) (hl : n ≤ 140737488355328) :
    Calls Tryz.prog 7 #[.slice A n c] w fun e w' => ∃ v, e = .returned v ∧ OwnB w' w.heap.size v bs ∧ Below w.heap.size w w' := by
  have HN := Lib.hid hn; clear hn
  go_enter Tryz.func7, Tryz.ntmps7
  go_wp2_with (first | (at_make; refine wpList_makeB _ rfl (.tmp 5) (.tmp 5) rfl _ _ _ _ n rfl rfl rfl rfl hl ?_))
  intro w1 h1 h2 h3
  go_wp2_with (with_reducible refine wpList_copyB _ rfl (.tmp 7) (.tmp 8) rfl w.heap.size w.heap.size n n _ rfl h1 A n c bs rfl HN.out (hr.below h2) ?_; intro w2 h4 h5 _; have H4 := Lib.hid h4; clear h4)
  go_wp2
  go_ret
  refine ⟨_, rfl, ?_, h2.trans h5⟩
  have e : List.take n bs ++ List.drop n (List.replicate n 0) = bs := by
    rw [List.take_of_length_le (by rw [HN.out]; exact Nat.le_refl _), List.drop_of_length_le (by simp), List.append_nil]
  have h4 := H4.out
  rw [e] at h4
  exact h4

/-! ### Same -/
theorem take_succ_eq {xs ys : List UInt8} {k : Nat} (h : xs.take k = ys.take k) (hx : k < xs.length) (hy : k < ys.length) (he : xs[k] = ys[k]) : xs.take (k + 1) = ys.take (k + 1) := by
  rw [List.take_succ_eq_append_getElem hx, List.take_succ_eq_append_getElem hy, h, he]
theorem bv_bne {x y : UInt8} : (((x.toNat : Int) != (y.toNat : Int)) = true) ↔ x ≠ y := by
  rw [bne_iff_ne]
  constructor
  · rintro h rfl; exact h rfl
  · intro h e; exact h (UInt8.toNat_inj.1 (by omega))
theorem bv_bne_f {x y : UInt8} : (((x.toNat : Int) != (y.toNat : Int)) = false) ↔ x = y := by
  constructor
  · intro h
    apply Classical.byContradiction
    intro hn
    rw [bv_bne.2 hn] at h
    cases h
  · rintro rfl; simp

set_option maxRecDepth 100000 in
set_option maxHeartbeats 400000 in
theorem Same_c (A1 A2 : Option Addr) (n1 n2 c1 c2 : Nat) (xs ys : List UInt8) (w : World) (l1 : xs.length = n1) (l2 : ys.length = n2) (h1 : Rd w A1 (xs.map bv)) (h2 : Rd w A2 (ys.map bv)) (m1 : n1 ≤ maxLen) :
    Calls Tryz.prog 11 #[.slice A1 n1 c1, .slice A2 n2 c2] w fun e w' => e = .returned (.bool (sameB xs ys)) ∧ ∃ q, w' = w.drewN q := by
  unfold maxLen at m1
  by_cases hne : n1 = n2
  · subst hne
    rcases Nat.eq_zero_or_pos n1 with h0 | h0
    · subst h0
      have e1 : sameB xs ys = true := by rw [List.eq_nil_of_length_eq_zero l1, List.eq_nil_of_length_eq_zero l2]; rfl
      rw [e1]
      go_enter Tryz.func11, Tryz.ntmps11
      go_wp2
      go_loopw [13] (fun i wr => i = .int .i64 (0 : Nat) ∧ wr = w) (fun i _ => 0)
      case atStart => exact ⟨rfl, rfl⟩
      case round =>
        obtain ⟨rfl, rfl⟩ := hrel
        go_wp2
        go_ret
        exact ⟨rfl, 0, rfl⟩
    · obtain ⟨b1, o1, rfl, _, g1⟩ := h1.addrB (by omega)
      obtain ⟨b2, o2, rfl, _, g2⟩ := h2.addrB (by omega)
      have H1 : Hid (∀ k (h : k < xs.length), w.cell? ⟨b1, o1 + k, none⟩ = some (bv xs[k])) := g1
      have H2 : Hid (∀ k (h : k < ys.length), w.cell? ⟨b2, o2 + k, none⟩ = some (bv ys[k])) := g2
      clear g1 g2 h1 h2
      have L1 := Lib.hid l1; clear l1
      have L2 := Lib.hid l2; clear l2
      go_enter Tryz.func11, Tryz.ntmps11
      go_wp2
      go_loopw [13] (fun i wr => ∃ k : Nat, k ≤ n1 ∧ i = .int .i64 k ∧ (∃ q, wr = w.drewN q) ∧ xs.take k = ys.take k) (fun i _ => n1 - (intOf i).toNat)
      case atStart => exact ⟨0, Nat.zero_le _, rfl, ⟨0, rfl⟩, rfl⟩
      case round =>
        obtain ⟨k, hk, rfl, ⟨q, rfl⟩, ht⟩ := hrel
        have HT := Lib.hid ht; clear ht
        by_cases hlt : k < n1
        · have hx : k < xs.length := by rw [L1.out]; exact hlt
          have hy : k < ys.length := by rw [L2.out]; exact hlt
          obtain ⟨x, ex⟩ : ∃ x, x = xs[k] := ⟨_, rfl⟩
          obtain ⟨y, ey⟩ : ∃ y, y = ys[k] := ⟨_, rfl⟩
          have c1 : w.cell? ⟨b1, o1 + k, none⟩ = some (.int .u8 (x.toNat : Int)) := by rw [ex]; exact H1.out k hx
          have c2 : w.cell? ⟨b2, o2 + k, none⟩ = some (.int .u8 (y.toNat : Int)) := by rw [ey]; exact H2.out k hy
          have EX := Lib.hid ex; clear ex
          have EY := Lib.hid ey; clear ey
          by_cases hxy : x = y
          · have hb := bv_bne_f.2 hxy
            have HXY := Lib.hid hxy; clear hxy
            go_wp2
            go_quiet (fail)
            go_wp2
            go_roundw
            case rel => exact ⟨k + 1, by omega, by go_num, ⟨_, rfl⟩, take_succ_eq HT.out (by rw [L1.out]; exact hlt) (by rw [L2.out]; exact hlt) (by rw [← EX.out, ← EY.out]; exact HXY.out)⟩
            case measure => simp [intOf]; omega
          · have hb := bv_bne.2 hxy
            have HXY := Lib.hid hxy; clear hxy
            have e1 : sameB xs ys = false := by
              unfold sameB
              refine decide_eq_false fun e => HXY.out ?_
              subst e
              rw [EX.out, EY.out]
            go_wp2
            go_quiet (fail)
            go_wp2
            go_ret
            exact ⟨by rw [e1]; rfl, _, World.drewN_drewN _ _ _⟩
        · obtain rfl : k = n1 := by omega
          have e1 : sameB xs ys = true := by
            unfold sameB
            refine decide_eq_true ?_
            have := HT.out
            rw [List.take_of_length_le (by rw [L1.out]; exact Nat.le_refl _), List.take_of_length_le (by rw [L2.out]; exact Nat.le_refl _)] at this
            exact this
          go_wp2
          go_ret
          exact ⟨by rw [e1]; rfl, _, rfl⟩
  · have hb : ((n1 : Int) != (n2 : Int)) = true := by rw [bne_iff_ne]; omega
    have e1 : sameB xs ys = false := by
      unfold sameB
      refine decide_eq_false fun e => hne ?_
      rw [← l1, ← l2, e]
    rw [e1]
    clear e1
    have L1 := Lib.hid l1; clear l1
    have L2 := Lib.hid l2; clear l2
    go_enter Tryz.func11, Tryz.ntmps11
    go_wp2
    go_ret
    exact ⟨rfl, 0, rfl⟩
theorem sameB_true {xs ys : List UInt8} (h : xs = ys) : sameB xs ys = true := decide_eq_true h
theorem Same_t (A1 A2 : Option Addr) (n1 n2 c1 c2 : Nat) (xs : List UInt8) (w : World) (l1 : xs.length = n1) (l2 : xs.length = n2) (h1 : Rd w A1 (xs.map bv)) (h2 : Rd w A2 (xs.map bv)) (m1 : n1 ≤ maxLen) :
    Calls Tryz.prog 11 #[.slice A1 n1 c1, .slice A2 n2 c2] w fun e w' => e = .returned (.bool true) ∧ ∃ q, w' = w.drewN q := by
  have h := Same_c A1 A2 n1 n2 c1 c2 xs xs w l1 l2 h1 h2 m1
  rw [sameB_true rfl] at h
  exact h
end Go.Proofs.YtndjggabdajbfaaGreatDoor



/- Plain: which screens the first version can show, a cell's bytes, the diff by rows. Conditions: none. -/
namespace Go.Proofs.YtndjggabdajbfaaGreatDoor
open Go Go.RowKit Go.Lib

theorem widI_pos {r : Int} (h : widI r = 1) : 32 ≤ r ∧ r ≤ 1114111 := by
  unfold widI at h
  split at h
  · cases h
  · rename_i h2
    simp only [Bool.or_eq_true, not_or] at h2
    have := h2.1
    simp only [badW, Bool.or_eq_true, not_or, decide_eq_true_eq] at this
    omega
end Go.Proofs.YtndjggabdajbfaaGreatDoor



/- Plain: to which screen a diff by rows leads; that a diff laid leads where it should; that a diff cut off leads nowhere. Conditions: none. -/
namespace Go.Proofs.YtndjggabdajbfaaGreatDoor
open Go Go.RowKit Go.Lib

/-- The cell of nine bytes. -/
def cellAt (l : List UInt8) : CeD := ⟨IntKind.i32.wrap (beN (l.take 4) : Int), 0, (beN ((l.drop 4).take 2) : Int), (beN ((l.drop 6).take 2) : Int), (beN ((l.drop 8).take 1) : Int), 0⟩
/-! ### What leads anywhere fits -/
/-! ### What holds of each cell -/
/-! ### Cut off -/
/-! ### What was laid is read -/
end Go.Proofs.YtndjggabdajbfaaGreatDoor



/- Plain: which screens the second version can show; the diff by runs. Conditions: none. -/
namespace Go.Proofs.YtndjggabdajbfaaGreatDoor
open Go Go.RowKit Go.Lib

/-- Is there anything that the second version can't show? -/
def bad17 (d : CeD) : Bool := !(d.w == 0)
def fit17 (s : ScD) : Bool := rightS s && ((s.links.length == 0) && !s.cells.any bad17)
/-- What a screen that fits is like. -/
structure Fit17 (s : ScD) (C R : Nat) : Prop where
  c : s.cols = (C : Int)
  r : s.rows = (R : Int)
  c1 : 1 ≤ C
  c2 : C ≤ 80
  r1 : 1 ≤ R
  r2 : R ≤ 24
  len : s.cells.length = C * R
  x0 : 0 ≤ s.x
  x1 : s.x < (C : Int)
  y0 : 0 ≤ s.y
  y1 : s.y < (R : Int)
  tl : s.title.size ≤ 64
  lk : s.links = []
  mo : s.mouse ≤ 2
  ce : ∀ d ∈ s.cells, mayC d = true ∧ d.w = 0
theorem fit17_right {s : ScD} (h : fit17 s = true) : rightS s = true := by
  unfold fit17 at h
  rw [Bool.and_eq_true] at h
  exact h.1
theorem fit17_of {s : ScD} (h : fit17 s = true) : ∃ C R, Fit17 s C R := by
  have hr := fit17_right h
  have hg := gridP_may (rightS_grid hr)
  have hg2 := rightS_grid hr
  unfold gridP at hg2
  simp only [Bool.and_eq_true, decide_eq_true_eq] at hg2
  obtain ⟨C, R, e1, e2, c1, c2, r1, r2⟩ := fitsI_nat hg2.1
  unfold rightS at hr
  simp only [Bool.and_eq_true, Bool.not_eq_true', decide_eq_false_iff_not] at hr
  obtain ⟨-, -, h3, h4, h5, h6, h7, h8, -, -⟩ := hr
  unfold fit17 at h
  simp only [Bool.and_eq_true, beq_iff_eq, Bool.not_eq_true', List.any_eq_false] at h
  obtain ⟨-, g1, g3⟩ := h
  refine ⟨C, R, e1, e2, c1, c2, r1, r2, ?_, by omega, by omega, by omega, by omega, by omega, List.eq_nil_of_length_eq_zero g1, by omega, fun d hd => ⟨hg d hd, ?_⟩⟩
  · have := hg2.2.1
    rw [e1, e2] at this
    have e : (s.cells.length : Int) = ((C * R : Nat) : Int) := by rw [this]; exact (Int.natCast_mul C R).symm
    exact_mod_cast e
  · have := g3 d hd
    simp only [bad17, Bool.not_eq_true, Bool.not_eq_false', beq_iff_eq] at this
    exact this
theorem Fit17.rune {s : ScD} {C R : Nat} (h : Fit17 s C R) : ∀ d ∈ s.cells, 32 ≤ d.r ∧ d.r ≤ 1114111 := fun d hd => by
  obtain ⟨h1, h2⟩ := h.ce d hd
  simp only [mayC, Bool.and_eq_true, Bool.or_eq_true, decide_eq_true_eq] at h1
  refine widI_pos ?_
  rcases h1.2 with (⟨_, b⟩ | ⟨a, _⟩) | ⟨a, _⟩
  · exact b
  · omega
  · omega

/-! ### The runs -/
/-- How far a run of pen p goes on. -/
def runEnd (p : CeD) : List CeD → List CeD → Nat
  | x :: a, y :: b => if cellEq x y then 0 else if penEq y p then runEnd p a b + 1 else 0
  | _, _ => 0
theorem runEnd_le (p : CeD) : ∀ (a b : List CeD), runEnd p a b ≤ b.length ∧ runEnd p a b ≤ a.length
  | [], [] => ⟨Nat.le_refl _, Nat.le_refl _⟩
  | [], _ :: _ => ⟨Nat.zero_le _, Nat.le_refl _⟩
  | _ :: _, [] => ⟨Nat.le_refl _, Nat.zero_le _⟩
  | x :: a, y :: b => by
    have ih := runEnd_le p a b
    rw [runEnd]
    split
    · exact ⟨Nat.zero_le _, Nat.zero_le _⟩
    · split
      · simp only [List.length_cons]; omega
      · exact ⟨Nat.zero_le _, Nat.zero_le _⟩
def runesB (l : List CeD) : List UInt8 := l.flatMap fun d => varL d.r.toNat
/-- A run's bytes: the gap ahead of it, how long, its pen, its runes. -/
def runB (g : Nat) (y : CeD) (l : List CeD) : List UInt8 := varL g ++ (varL l.length ++ (varL y.fg.toNat ++ (varL y.bg.toNat ++ (varL y.at_.toNat ++ runesB l))))
/-- The runs: how many, their bytes. -/
def runsG : Nat → Nat → List CeD → List CeD → Nat × List UInt8
  | 0, _, _, _ => (0, [])
  | f + 1, g, x :: a, y :: b => if cellEq x y then runsG f (g + 1) a b else ((runsG f 0 (a.drop (runEnd y a b)) (b.drop (runEnd y a b))).1 + 1, runB g y (y :: b.take (runEnd y a b)) ++ (runsG f 0 (a.drop (runEnd y a b)) (b.drop (runEnd y a b))).2)
  | _ + 1, _, _, _ => (0, [])
def runsD (a b : List CeD) : Nat × List UInt8 := runsG b.length 0 a b
/-- More fuel changes nothing. -/
theorem runsG_fuel : ∀ (f f' g : Nat) (a b : List CeD), b.length ≤ f → b.length ≤ f' → runsG f g a b = runsG f' g a b
  | 0, f', g, a, b, h, _ => by
    have hb : b = [] := List.eq_nil_of_length_eq_zero (by omega)
    subst hb
    cases f' with
    | zero => rfl
    | succ f' => cases a <;> rfl
  | f + 1, 0, g, a, b, _, h => by
    have hb : b = [] := List.eq_nil_of_length_eq_zero (by omega)
    subst hb
    cases a <;> rfl
  | f + 1, f' + 1, g, [], [], _, _ => rfl
  | f + 1, f' + 1, g, [], _ :: _, _, _ => rfl
  | f + 1, f' + 1, g, _ :: _, [], _, _ => rfl
  | f + 1, f' + 1, g, x :: a, y :: b, h, h' => by
    rw [List.length_cons] at h h'
    rw [runsG, runsG, runsG_fuel f f' (g + 1) a b (by omega) (by omega), runsG_fuel f f' 0 (a.drop (runEnd y a b)) (b.drop (runEnd y a b)) (by rw [List.length_drop]; omega) (by rw [List.length_drop]; omega)]
/-! ### The diff -/
def curB (base b : ScD) : List UInt8 := if (b.x != base.x || (b.y != base.y || b.hid != base.hid)) then 2 :: (varL b.x.toNat ++ (varL b.y.toNat ++ [if b.hid then 1 else 0])) else []
def titB17 (base b : ScD) : List UInt8 := if (b.title.toList == base.title.toList) then [] else 3 :: (varL b.title.size ++ strB b.title)
def mouB (base b : ScD) : List UInt8 := if b.mouse != base.mouse then [4, lo b.mouse.toNat] else []
def celB (base b : ScD) : List UInt8 := if (runsD base.cells b.cells).1 = 0 then [] else 5 :: (varL (runsD base.cells b.cells).1 ++ (runsD base.cells b.cells).2)
def lay17 (base b : ScD) : List UInt8 := curB base b ++ (titB17 base b ++ (mouB base b ++ celB base b))
def full17 (b : ScD) : List UInt8 × Nat := if fit17 b then (1 :: (varL b.cols.toNat ++ varL b.rows.toNat) ++ lay17 (blankS b.cols b.rows) b, 0) else ([], 1)
def enc17 (a b : ScD) : List UInt8 × Nat := if fit17 a && fit17 b then (if (a.cols == b.cols) && (a.rows == b.rows) then (lay17 a b, 0) else full17 b) else ([], 1)
end Go.Proofs.YtndjggabdajbfaaGreatDoor



/- Plain law: what is read as a number is just what is laid for it, and the other way round. Conditions: none. -/
namespace Go.Proofs.YtndjggabdajbfaaGreatDoor
open Go Go.RowKit

/-- Digits of 128, the lowest first, as a number. -/
def valL : List UInt8 → Nat
  | [] => 0
  | d :: l => d.toNat % 128 + 128 * valL l
theorem valL_snoc (l : List UInt8) (d : UInt8) : valL (l ++ [d]) = valL l + 128 ^ l.length * (d.toNat % 128) := by
  induction l with
  | nil => simp [valL]
  | cons e l ih =>
    rw [List.cons_append, valL, ih, valL, List.length_cons, Nat.pow_succ, Nat.mul_add, Nat.mul_comm (128 ^ l.length) 128, Nat.mul_assoc, Nat.add_assoc]
theorem valL_drop_le (l : List UInt8) (j : Nat) : valL (l.drop j) ≤ valL l := by
  induction l generalizing j with
  | nil => simp
  | cons d l ih =>
    cases j with
    | zero => simp
    | succ j =>
      rw [List.drop_succ_cons]
      have := ih j
      simp only [valL]; omega
end Go.Proofs.YtndjggabdajbfaaGreatDoor



/- Plain: to which screen a diff by runs leads; that a diff laid leads where it should. Conditions: none. -/
namespace Go.Proofs.YtndjggabdajbfaaGreatDoor
open Go Go.RowKit Go.Lib

/-- A number that is at most so great: the error, the number, the bytes behind it. -/
def num17 (most : Int) (l : List UInt8) : Nat × Nat × List UInt8 :=
  match varGo l 0 with
  | .bad e => (e, 0, l)
  | .ok n k => if most < 0 ∨ most < (n : Int) then (3, 0, l.drop k) else (0, n, l.drop k)
/-- So many runes of one pen, from the place p on. -/
def runesP (fg bg at_ : Int) : Nat → Nat → List UInt8 → List CeD → Nat × List UInt8 × List CeD
  | 0, _, l, cs => (0, l, cs)
  | n + 1, p, l, cs =>
    if (num17 1114111 l).1 = 0 then
      (if mayC ⟨(num17 1114111 l).2.1, 0, fg, bg, at_, 0⟩ then runesP fg bg at_ n (p + 1) (num17 1114111 l).2.2 (cs.set p ⟨(num17 1114111 l).2.1, 0, fg, bg, at_, 0⟩) else (3, (num17 1114111 l).2.2, cs))
    else ((num17 1114111 l).1, (num17 1114111 l).2.2, cs)
/-- One run from the place at on: the error, the place behind it, the bytes, the cells. -/
def oneP (at_ : Nat) (l : List UInt8) (cs : List CeD) : Nat × Nat × List UInt8 × List CeD :=
  let a := num17 ((cs.length : Int) - (at_ : Int)) l
  if a.1 ≠ 0 then (a.1, 0, l, cs) else
  let k := num17 ((cs.length : Int) - ((at_ + a.2.1 : Nat) : Int)) a.2.2
  if k.1 ≠ 0 then (k.1, 0, l, cs) else
  if k.2.1 = 0 then (3, 0, l, cs) else
  let f := num17 4294967295 k.2.2
  if f.1 ≠ 0 then (f.1, 0, l, cs) else
  if colMay (f.2.1 : Int) = false then (3, 0, l, cs) else
  let b := num17 4294967295 f.2.2
  if b.1 ≠ 0 then (b.1, 0, l, cs) else
  if colMay (b.2.1 : Int) = false then (3, 0, l, cs) else
  let t := num17 255 b.2.2
  if t.1 ≠ 0 then (t.1, 0, l, cs) else
  let r := runesP (f.2.1 : Int) (b.2.1 : Int) (t.2.1 : Int) k.2.1 (at_ + a.2.1) t.2.2 cs
  (r.1, at_ + a.2.1 + k.2.1, r.2.1, r.2.2)
def runsP : Nat → Nat → List UInt8 → List CeD → Nat × List UInt8 × List CeD
  | 0, _, l, cs => (0, l, cs)
  | n + 1, at_, l, cs => if (oneP at_ l cs).1 = 0 then runsP n (oneP at_ l cs).2.1 (oneP at_ l cs).2.2.1 (oneP at_ l cs).2.2.2 else ((oneP at_ l cs).1, (oneP at_ l cs).2.2.1, (oneP at_ l cs).2.2.2)
end Go.Proofs.YtndjggabdajbfaaGreatDoor



/- Plain: the runs laid of two rows of cells are read back; the things of a diff by runs, and where they lead. Conditions: none. -/
namespace Go.Proofs.YtndjggabdajbfaaGreatDoor
open Go Go.RowKit Go.Lib

/-! ### The things of a diff -/
/-- One thing of kind k: the error, the screen, the bytes behind it. -/
def thing17 (k : Nat) (s : ScD) (l : List UInt8) : Nat × ScD × List UInt8 :=
  match k with
  | 1 => match varGo l 0 with
    | .bad e => (e, s, l)
    | .ok c kc => match varGo (l.drop kc) 0 with
      | .bad e => (e, s, l)
      | .ok r kr => if c < 1 ∨ 80 < c ∨ r < 1 ∨ 24 < r then (3, s, l) else (0, blankS (c : Int) (r : Int), (l.drop kc).drop kr)
  | 2 =>
    let x := num17 (s.cols - 1) l
    if x.1 ≠ 0 then (x.1, s, l) else
    let y := num17 (s.rows - 1) x.2.2
    if y.1 ≠ 0 then (y.1, s, l) else
    let h := num17 1 y.2.2
    if h.1 ≠ 0 then (h.1, s, l) else (0, ⟨s.cols, s.rows, s.cells, (x.2.1 : Int), (y.2.1 : Int), h.2.1 == 1, s.mouse, s.title, s.links⟩, h.2.2)
  | 3 => match varGo l 0 with
    | .bad e => (e, s, l)
    | .ok n kn => if 64 < n then (4, s, l) else if (l.drop kn).length < n then (2, s, l) else (0, ⟨s.cols, s.rows, s.cells, s.x, s.y, s.hid, s.mouse, ⟨((l.drop kn).take n).toArray⟩, s.links⟩, (l.drop kn).drop n)
  | 4 =>
    let m := num17 2 l
    if m.1 ≠ 0 then (m.1, s, l) else (0, ⟨s.cols, s.rows, s.cells, s.x, s.y, s.hid, (m.2.1 : Int), s.title, s.links⟩, m.2.2)
  | _ => match varGo l 0 with
    | .bad e => (e, s, l)
    | .ok n kn => if n = 0 then (3, s, l) else ((runsP n 0 (l.drop kn) s.cells).1, ⟨s.cols, s.rows, (runsP n 0 (l.drop kn) s.cells).2.2, s.x, s.y, s.hid, s.mouse, s.title, s.links⟩, (runsP n 0 (l.drop kn) s.cells).2.1)
/-- The things by rising kinds: the error, the screen. -/
def things17 : Nat → Nat → ScD → List UInt8 → Nat × ScD
  | 0, _, s, _ => (3, s)
  | _ + 1, _, s, [] => (0, s)
  | f + 1, last, s, k :: l => if k.toNat ≤ last ∨ 5 < k.toNat then (3, s) else if (thing17 k.toNat s l).1 = 0 then things17 f k.toNat (thing17 k.toNat s l).2.1 (thing17 k.toNat s l).2.2 else ((thing17 k.toNat s l).1, (thing17 k.toNat s l).2.1)
/-- At most five things come: kinds rise. -/
def app17 (a : ScD) (d : List UInt8) : ScD × Nat :=
  if fit17 a then (if (things17 6 0 a d).1 = 0 then (if fit17 (things17 6 0 a d).2 then ((things17 6 0 a d).2, 0) else (scZ, 3)) else (scZ, (things17 6 0 a d).1)) else (scZ, 1)
theorem app17_fit {a t : ScD} {d : List UInt8} (h : app17 a d = (t, 0)) : fit17 t = true := by
  unfold app17 at h
  split at h
  · split at h
    · split at h
      · rename_i h2; injection h with h1 h3; rw [← h1]; exact h2
      · injection h with h1 h3; cases h3
    · rename_i h2; injection h with h1 h3; exact absurd h3 h2
  · injection h with h1 h3; cases h3
theorem app17_none {a : ScD} {d : List UInt8} (h : (app17 a d).2 ≠ 0) : (app17 a d).1 = scZ := by
  unfold app17 at h ⊢
  split
  · rename_i h1
    rw [if_pos h1] at h
    split
    · rename_i h2
      rw [if_pos h2] at h
      split
      · rename_i h3; rw [if_pos h3] at h; exact absurd rfl h
      · rfl
    · rfl
  · rfl
end Go.Proofs.YtndjggabdajbfaaGreatDoor



/- Plain: a diff by runs laid leads where it should. Conditions: none. -/
namespace Go.Proofs.YtndjggabdajbfaaGreatDoor
open Go Go.RowKit Go.Lib

end Go.Proofs.YtndjggabdajbfaaGreatDoor



/- What rows.Fits and the reference's Fits (16) answer; slices.Equal on cells. Conditions: parts that can be read; the tables of widths lie where they were laid. -/
namespace Go.Proofs.YtndjggabdajbfaaGreatDoor
open Go Go.RowKit Go.Lib

end Go.Proofs.YtndjggabdajbfaaGreatDoor



/- What runs.Fits and the reference's Fits (17) answer. Conditions: parts that can be read; the tables of widths lie where they were laid. -/
namespace Go.Proofs.YtndjggabdajbfaaGreatDoor
open Go Go.RowKit Go.Lib

set_option maxRecDepth 100000 in
set_option maxHeartbeats 8000000 in
theorem fits1R_c (d : CeD) (w : World) : Calls Tryz.prog 34 #[d.val] w fun e w' => e = .returned (.bool (bad17 d)) ∧ Below w.heap.size w w' := by
  obtain ⟨W0, eW0⟩ : ∃ W0, W0 = w.alloc (.cells d.arr 43) := ⟨_, rfl⟩
  obtain ⟨p, ep⟩ : ∃ p, p = w.heap.size := ⟨_, rfl⟩
  have hp0 : W0.heap[p]? = some (.cells d.arr 43 (0, 0)) := by rw [eW0, ep]; exact heap_alloc_new _ _
  have v1 : W0.cell? ⟨p, 1, none⟩ = some (.int .u8 d.w) := heap_cell hp0 1
  have v2 : W0.cell? ⟨p, 2, none⟩ = some (.int .u32 d.fg) := heap_cell hp0 2
  have v3 : W0.cell? ⟨p, 3, none⟩ = some (.int .u32 d.bg) := heap_cell hp0 3
  have HB0 : Hid (Below w.heap.size w W0) := Lib.hid (by rw [eW0]; exact (Below.refl _ _).alloc (Nat.le_refl _) _)
  have EW0 : Hid (w.alloc (.cells #[.int .i32 d.r, .int .u8 d.w, .int .u32 d.fg, .int .u32 d.bg, .int .u8 d.at_, .int .u16 d.ln] 43) = W0) := Lib.hid eW0.symm
  have EP := Lib.hid ep
  clear eW0 ep hp0
  unfold bad17
  obtain ⟨b1, e1⟩ : ∃ b, (d.w == 0) = b := ⟨_, rfl⟩
  have e1n : (d.w != 0) = !b1 := by rw [bne, e1]
  rw [e1]
  show Calls _ _ #[.agg #[.int .i32 d.r, .int .u8 d.w, .int .u32 d.fg, .int .u32 d.bg, .int .u8 d.at_, .int .u16 d.ln]] w _
  cases b1 <;>
  · go_enter Tryz.func34, Tryz.ntmps34
    go_upto_region 1 with (fail)
    rw [EW0.out, ← EP.out]
    go_wp2_with (fail)
    go_ret
    exact ⟨rfl, HB0.out⟩
/-- Where the first bad one stands. -/
def badAtR : List CeD → Int → Int
  | [], _ => -1
  | d :: l, i => if bad17 d then i else badAtR l (i + 1)
theorem badAtR_any : ∀ (l : List CeD) (i : Int), 0 ≤ i → decide (0 ≤ badAtR l i) = l.any bad17
  | [], _, _ => rfl
  | d :: l, i, h => by
    rw [badAtR, List.any_cons]
    cases hb : bad17 d
    · rw [Bool.false_or, if_neg (by decide)]; exact badAtR_any l (i + 1) (by omega)
    · rw [if_pos rfl, Bool.true_or]; exact decide_eq_true h
set_option maxRecDepth 100000 in
set_option maxHeartbeats 16000000 in
theorem indexBadR_c (A : Option Addr) (n c : Nat) (ds : List CeD) (w : World) (hn : ds.length = n) (hr : RdC w A ds) (hl : n ≤ 60000) :
    Calls Tryz.prog 56 #[.slice A n c, .func (.func 34) #[] #[]] w fun e w' => e = .returned (.int .i64 (badAtR ds 0)) ∧ Below w.heap.size w w' := by
  have HN := Lib.hid hn
  have HR := Lib.hid hr
  obtain ⟨Z, eZ⟩ : ∃ Z, badAtR ds 0 = Z := ⟨_, rfl⟩
  rw [eZ]
  have EZ := Lib.hid eZ
  clear hn hr eZ
  go_enter Tryz.func56, Tryz.ntmps56
  go_wp2_with (fail)
  go_loopw [8] (fun i wr => ∃ k : Nat, k ≤ n ∧ i = .int .i64 k ∧ Hid (badAtR (ds.drop k) (k : Int) = Z) ∧ Hid (Below w.heap.size w wr)) (fun i _ => n - (intOf i).toNat)
  case atStart => exact ⟨0, Nat.zero_le _, rfl, Lib.hid EZ.out, Lib.hid (Below.refl _ _)⟩
  case round =>
    obtain ⟨k, hk, rfl, HG, HB⟩ := hrel
    rcases Nat.lt_or_ge k n with hlt | hge
    · have hlt' : (k : Int) < (n : Int) := by omega
      have hkl : k < ds.length := by rw [HN.out]; exact hlt
      have hrw := RdC.below HR.out HB.out
      obtain ⟨b, off, rfl, hbl, hcd⟩ := RdC.cellsAt hrw k hkl
      obtain ⟨d, ed⟩ : ∃ d, d = ds[k] := ⟨_, rfl⟩
      rw [← ed] at hcd
      have HCD := Lib.hid hcd
      have HST : Hid ((if bad17 d then (k : Int) else badAtR (ds.drop (k + 1)) ((k + 1 : Nat) : Int)) = Z) := Lib.hid (by
        have h := HG.out
        rw [List.drop_eq_getElem_cons hkl, badAtR, ← ed] at h
        rw [← h]
        split
        · rfl
        · congr 1)
      obtain ⟨bb, eb⟩ : ∃ b, bad17 d = b := ⟨_, rfl⟩
      have HBB := Lib.hid eb
      rw [eb] at HST
      clear hrw hcd ed eb hkl HG
      cases bb
      · go_wp2_with (first
          | (refine wpList_load_cells rfl 43 (.tmp 14) rfl ⟨b, off + k * 6, none⟩ rfl d.cells d.val rfl _ (cells_load HCD.out) Tryz.underlying43 rfl (info_cell.trans rfl) ?_)
          | (go_at_call 34; (refine (fits1R_c d wr).mono ?_); rintro _ w1 ⟨rfl, hb1⟩; rw [HBB.out]; have HB1 := Lib.hid (HB.out.trans (hb1.mono HB.out.size)); clear hb1))
        go_roundw
        case rel => exact ⟨k + 1, by omega, by go_num, Lib.hid HST.out, HB1⟩
        case measure => simp [intOf]; omega
      · have HKZ : Hid (Z = (k : Int)) := Lib.hid HST.out.symm
        go_wp2_with (first
          | (refine wpList_load_cells rfl 43 (.tmp 14) rfl ⟨b, off + k * 6, none⟩ rfl d.cells d.val rfl _ (cells_load HCD.out) Tryz.underlying43 rfl (info_cell.trans rfl) ?_)
          | (go_at_call 34; (refine (fits1R_c d wr).mono ?_); rintro _ w1 ⟨rfl, hb1⟩; rw [HBB.out]; have HB1 := Lib.hid (HB.out.trans (hb1.mono HB.out.size)); clear hb1))
        go_ret
        exact ⟨by rw [HKZ.out] <;> rfl, HB1.out⟩
    · obtain rfl : n = k := by omega
      have hge' : ¬ ((n : Int) < (n : Int)) := by omega
      have HKZ : Hid (Z = -1) := Lib.hid (by rw [← HG.out, List.drop_of_length_le (by rw [HN.out]; exact Nat.le_refl _)]; rfl)
      clear hge hk
      go_wp2_with (fail)
      go_ret
      exact ⟨by rw [HKZ.out] <;> rfl, HB.out⟩
set_option maxRecDepth 100000 in
set_option maxHeartbeats 4000000 in
theorem containsBadR_c (A : Option Addr) (n c : Nat) (ds : List CeD) (w : World) (hn : ds.length = n) (hr : RdC w A ds) (hl : n ≤ 60000) :
    Calls Tryz.prog 33 #[.slice A n c, .func (.func 34) #[] #[]] w fun e w' => e = .returned (.bool (ds.any bad17)) ∧ Below w.heap.size w w' := by
  obtain ⟨Z, eZ⟩ : ∃ Z, ds.any bad17 = Z := ⟨_, rfl⟩
  have EZ := Lib.hid ((badAtR_any ds 0 (Int.le_refl 0)).trans eZ)
  rw [eZ]
  obtain ⟨I, eI⟩ : ∃ I, badAtR ds 0 = I := ⟨_, rfl⟩
  have EI := Lib.hid eI
  rw [eI] at EZ
  have e2 := EZ.out
  clear eZ eI
  go_enter Tryz.func33, Tryz.ntmps33
  go_wp2_with (go_at_call 56; (refine (indexBadR_c A n c ds w hn hr hl).mono ?_); rintro _ w1 ⟨rfl, hb1⟩; rw [EI.out]; have HB1 := Lib.hid hb1; clear hb1)
  go_ret
  exact ⟨by first | rfl | rw [EZ.out], HB1.out⟩
set_option maxRecDepth 100000 in
set_option maxHeartbeats 8000000 in
theorem fits17_c (s : ScD) (A : Option Addr) (n c : Nat) (L : Option Addr) (m cm : Nat) (w : World) (hs : ScR w s A n c L m cm) (hU : TabU w) :
    Calls Tryz.prog 14 #[.agg (scC s A n c L m cm)] w fun e w' => e = .returned (.bool (fit17 s)) ∧ Below w.heap.size w w' := by
  obtain ⟨X, eX⟩ : ∃ X, X = scC s A n c L m cm := ⟨_, rfl⟩
  rw [← eX]
  obtain ⟨W0, eW0⟩ : ∃ W0, W0 = w.alloc (.cells X 25) := ⟨_, rfl⟩
  obtain ⟨p, ep⟩ : ∃ p, p = w.heap.size := ⟨_, rfl⟩
  have hb0 : Below w.heap.size w W0 := by rw [eW0]; exact (Below.refl _ _).alloc (Nat.le_refl _) _
  have HP0 : Hid (ScB W0 p s A n c L m cm) := Lib.hid (by rw [eW0, ep, eX]; exact heap_alloc_new _ _)
  have EW0 := Lib.hid eW0
  have EP := Lib.hid ep
  have HB0 := Lib.hid hb0
  have HR0 := Lib.hid (hs.below hb0)
  have HU0 := Lib.hid (hU.next hb0)
  clear eX eW0 ep hb0 hs hU
  obtain ⟨Z, eZ⟩ : ∃ Z, fit17 s = Z := ⟨_, rfl⟩
  rw [eZ]
  unfold fit17 at eZ
  rw [HR0.out.hm] at eZ
  obtain ⟨b1, e1⟩ : ∃ b, rightS s = b := ⟨_, rfl⟩
  obtain ⟨b2, e2⟩ : ∃ b, (m == 0) = b := ⟨_, rfl⟩
  have e2i : ((m : Int) == 0) = b2 := by rw [← e2, Bool.eq_iff_iff, beq_iff_eq, beq_iff_eq]; omega
  obtain ⟨b4, e4⟩ : ∃ b, s.cells.any bad17 = b := ⟨_, rfl⟩
  rw [e1, e2, e4] at eZ
  have E1 := Lib.hid e1
  have E4 := Lib.hid e4
  have EZ := Lib.hid eZ
  clear eZ e1 e4
  cases b1 <;> cases b2 <;> cases b4 <;>
  · go_enter Tryz.func14, Tryz.ntmps14
    go_upto_region 1 with (fail)
    rw [← EW0.out, ← EP.out]
    go_wp2_with (first
      | (refine wpList_load_row rfl 25 (.tmp 1) rfl p rfl 25 _ (0, 0) _ HP0.out Tryz.underlying25 rfl (info_sc.trans rfl) ?_)
      | (go_at_call 32; (refine (emulRight_c s A n c L m cm W0 HR0.out HU0.out).mono ?_); rintro _ w1 ⟨rfl, hb1⟩; rw [E1.out]; have HB1 := Lib.hid (HB0.out.trans (hb1.mono HB0.out.size)); have HR1 := Lib.hid (HR0.out.below hb1); have HP1 := HP0.out.below hb1; have x2 : w1.cell? ⟨p, 2, none⟩ = some (.slice A n c) := HP1.nine.2.2.1; have x6 : w1.cell? ⟨p, 6, none⟩ = some (.int .u8 s.mouse) := HP1.nine.2.2.2.2.2.2.1; have x8 : w1.cell? ⟨p, 8, none⟩ = some (.slice L m cm) := HP1.nine.2.2.2.2.2.2.2.2; clear hb1 HP1)
      | (go_at_call 33; (refine (containsBadR_c A n c s.cells w1 HR1.out.hn HR1.out.rd HR1.out.nl).mono ?_); rintro _ w2 ⟨rfl, hb2⟩; rw [E4.out]; have HB2 := Lib.hid (HB1.out.trans (hb2.mono HB1.out.size)); clear hb2))
    go_ret
    first
      | exact ⟨by rw [← EZ.out] <;> rfl, HB2.out⟩
      | exact ⟨by rw [← EZ.out] <;> rfl, HB1.out⟩
set_option maxRecDepth 100000 in
set_option maxHeartbeats 8000000 in
theorem refFits17_c (s : ScD) (A : Option Addr) (n c : Nat) (L : Option Addr) (m cm : Nat) (w : World) (hs : ScR w s A n c L m cm) (hU : TabU w) :
    Calls Tryz.prog 21 #[.agg (scC s A n c L m cm)] w fun e w' => e = .returned (.bool (fit17 s)) ∧ Below w.heap.size w w' := by
  obtain ⟨X, eX⟩ : ∃ X, X = scC s A n c L m cm := ⟨_, rfl⟩
  rw [← eX]
  obtain ⟨W0, eW0⟩ : ∃ W0, W0 = w.alloc (.cells X 25) := ⟨_, rfl⟩
  obtain ⟨p, ep⟩ : ∃ p, p = w.heap.size := ⟨_, rfl⟩
  have hb0 : Below w.heap.size w W0 := by rw [eW0]; exact (Below.refl _ _).alloc (Nat.le_refl _) _
  have HP0 : Hid (ScB W0 p s A n c L m cm) := Lib.hid (by rw [eW0, ep, eX]; exact heap_alloc_new _ _)
  have EW0 := Lib.hid eW0
  have EP := Lib.hid ep
  have HB0 := Lib.hid hb0
  have HR0 := Lib.hid (hs.below hb0)
  have HU0 := Lib.hid (hU.next hb0)
  clear eX eW0 ep hb0 hs hU
  obtain ⟨Z, eZ⟩ : ∃ Z, fit17 s = Z := ⟨_, rfl⟩
  rw [eZ]
  unfold fit17 at eZ
  rw [HR0.out.hm] at eZ
  obtain ⟨b1, e1⟩ : ∃ b, rightS s = b := ⟨_, rfl⟩
  obtain ⟨b2, e2⟩ : ∃ b, (m == 0) = b := ⟨_, rfl⟩
  have e2i : decide (0 < m) = !b2 := by rw [← e2]; rcases Nat.eq_zero_or_pos m with h | h <;> simp [h] <;> omega
  have e2j : decide (0 < (m : Int)) = !b2 := by rw [← e2i]; exact decide_eq_decide.2 (by omega)
  rw [e1, e2] at eZ
  have E1 := Lib.hid e1
  have EZ := Lib.hid eZ
  clear eZ e1
  cases b1 <;> cases b2
  case true.true =>
    go_enter Tryz.func21, Tryz.ntmps21
    go_upto_region 1 with (fail)
    rw [← EW0.out, ← EP.out]
    go_upto_region 3 with (first
      | (refine wpList_load_row rfl 25 (.tmp 1) rfl p rfl 25 _ (0, 0) _ HP0.out Tryz.underlying25 rfl (info_sc.trans rfl) ?_)
      | (go_at_call 41; (refine (refRight_c s A n c L m cm W0 HR0.out HU0.out).mono ?_); rintro _ w1 ⟨rfl, hb1⟩; rw [E1.out]; have HB1 := Lib.hid (HB0.out.trans (hb1.mono HB0.out.size)); have HR1 := Lib.hid (HR0.out.below hb1); have HP1 := Lib.hid (HP0.out.below hb1); have x2 : w1.cell? ⟨p, 2, none⟩ = some (.slice A n c) := HP1.out.nine.2.2.1; have x6 : w1.cell? ⟨p, 6, none⟩ = some (.int .u8 s.mouse) := HP1.out.nine.2.2.2.2.2.2.1; have x8 : w1.cell? ⟨p, 8, none⟩ = some (.slice L m cm) := HP1.out.nine.2.2.2.2.2.2.2.2; clear hb1))
    clear x6 x8 e2 e2i e2j
    go_wp2_with (fail)
    have HNL : Hid (s.cells.length = n ∧ n ≤ 60000) := Lib.hid ⟨HR1.out.hn, HR1.out.nl⟩
    have HRD : Hid (RdC w1 A s.cells) := Lib.hid HR1.out.rd
    go_loopw [16] (fun i wr => ∃ k : Nat, k ≤ n ∧ i = .int .i64 k ∧ Hid ((!(s.cells.drop k).any bad17) = Z) ∧ Hid (wr = w1)) (fun i _ => n - (intOf i).toNat)
    case atStart => exact ⟨0, Nat.zero_le _, rfl, Lib.hid EZ.out, Lib.hid rfl⟩
    case round =>
      obtain ⟨k, hk, rfl, HG, hwr⟩ := hrel
      obtain rfl := hwr.out
      have hn6 : n ≤ 60000 := HNL.out.2
      rcases Nat.lt_or_ge k n with hlt | hge
      · have hlt' : (k : Int) < (n : Int) := by omega
        have hkl : k < s.cells.length := by rw [HNL.out.1]; exact hlt
        obtain ⟨b, off, rfl, hbl, hcd⟩ := RdC.cellsAt HRD.out k hkl
        obtain ⟨d, ed⟩ : ∃ d, d = s.cells[k] := ⟨_, rfl⟩
        rw [← ed] at hcd
        obtain ⟨-, z1, z2, z3, -, -⟩ := hcd
        have hst := HG.out
        rw [List.drop_eq_getElem_cons hkl, List.any_cons, ← ed, bad17] at hst
        obtain ⟨b1, e1⟩ : ∃ b, (d.w == 0) = b := ⟨_, rfl⟩
        have e1n : (d.w != 0) = !b1 := by rw [bne, e1]
        rw [e1] at hst
        have HST := Lib.hid hst
        clear ed hst hkl HG
        cases b1
        · go_wp2_with (fail)
          go_ret
          exact ⟨by rw [← HST.out] <;> rfl, HB1.out⟩
        go_wp2_with (fail)
        go_roundw
        case rel => exact ⟨k + 1, by omega, by go_num, Lib.hid HST.out, by first | exact Lib.hid rfl | exact Lib.hid trivial⟩
        case measure => simp [intOf]; omega
      · obtain rfl : n = k := by omega
        have hge' : ¬ ((n : Int) < (n : Int)) := by omega
        have HKZ : Hid (Z = true) := Lib.hid (by rw [← HG.out, List.drop_of_length_le (by rw [HNL.out.1]; exact Nat.le_refl _)]; rfl)
        clear hge hk
        go_wp2_with (fail)
        go_ret
        exact ⟨by rw [HKZ.out] <;> rfl, HB1.out⟩
  all_goals
    go_enter Tryz.func21, Tryz.ntmps21
    go_upto_region 1 with (fail)
    rw [← EW0.out, ← EP.out]
    go_wp2_with (first
      | (refine wpList_load_row rfl 25 (.tmp 1) rfl p rfl 25 _ (0, 0) _ HP0.out Tryz.underlying25 rfl (info_sc.trans rfl) ?_)
      | (go_at_call 41; (refine (refRight_c s A n c L m cm W0 HR0.out HU0.out).mono ?_); rintro _ w1 ⟨rfl, hb1⟩; rw [E1.out]; have HB1 := Lib.hid (HB0.out.trans (hb1.mono HB0.out.size)); have HR1 := Lib.hid (HR0.out.below hb1); have HP1 := Lib.hid (HP0.out.below hb1); have x2 : w1.cell? ⟨p, 2, none⟩ = some (.slice A n c) := HP1.out.nine.2.2.1; have x6 : w1.cell? ⟨p, 6, none⟩ = some (.int .u8 s.mouse) := HP1.out.nine.2.2.2.2.2.2.1; have x8 : w1.cell? ⟨p, 8, none⟩ = some (.slice L m cm) := HP1.out.nine.2.2.2.2.2.2.2.2; clear hb1))
    go_ret
    exact ⟨by rw [← EZ.out] <;> rfl, HB1.out⟩
end Go.Proofs.YtndjggabdajbfaaGreatDoor



/- The features' bits, and what the reference's Has answers. Conditions: features of 32 bits. -/
namespace Go.Proofs.YtndjggabdajbfaaGreatDoor
open Go Go.RowKit Go.Lib

end Go.Proofs.YtndjggabdajbfaaGreatDoor



/- What law 15's great and fixed answer. Conditions: the tables lie where they were laid. -/
namespace Go.Proofs.YtndjggabdajbfaaGreatDoor
open Go Go.RowKit Go.Lib

def greatB (n t m : Nat) : Bool := decide (3000 < (n : Int)) || (decide (1000 < (t : Int)) || decide (1000 < (m : Int)))
theorem greatB_no {n t m : Nat} (h : greatB n t m = false) : n ≤ 3000 ∧ t ≤ 1000 ∧ m ≤ 1000 := by
  simp only [greatB, Bool.or_eq_false_iff, decide_eq_false_iff_not] at h
  omega
end Go.Proofs.YtndjggabdajbfaaGreatDoor



/- What law 17's great and runs.put answer. Conditions: none. -/
namespace Go.Proofs.YtndjggabdajbfaaGreatDoor
open Go Go.RowKit Go.Lib

set_option maxRecDepth 100000 in
set_option maxHeartbeats 8000000 in
theorem great17_c (s : ScD) (A : Option Addr) (n c : Nat) (L : Option Addr) (m cm : Nat) (w : World) :
    Calls Tryz.prog 4 #[.agg (scC s A n c L m cm)] w fun e w' => e = .returned (.bool (greatB n s.title.size m)) ∧ Below w.heap.size w w' := by
  obtain ⟨X, eX⟩ : ∃ X, X = scC s A n c L m cm := ⟨_, rfl⟩
  rw [← eX]
  obtain ⟨W0, eW0⟩ : ∃ W0, W0 = w.alloc (.cells X 25) := ⟨_, rfl⟩
  obtain ⟨p, ep⟩ : ∃ p, p = w.heap.size := ⟨_, rfl⟩
  have hb0 : Below w.heap.size w W0 := by rw [eW0]; exact (Below.refl _ _).alloc (Nat.le_refl _) _
  have hp0 : ScB W0 p s A n c L m cm := by rw [eW0, ep, eX]; exact heap_alloc_new _ _
  obtain ⟨x0, x1, x2, x3, x4, x5, x6, x7, x8⟩ := hp0.nine
  have EW0 := Lib.hid eW0
  have EP := Lib.hid ep
  have HB0 := Lib.hid hb0
  clear eX eW0 ep hb0 hp0 x0 x1 x3 x4 x5 x6
  unfold greatB
  obtain ⟨b1, e1⟩ : ∃ b, decide (3000 < (n : Int)) = b := ⟨_, rfl⟩
  obtain ⟨b2, e2⟩ : ∃ b, decide (1000 < (s.title.size : Int)) = b := ⟨_, rfl⟩
  obtain ⟨b3, e3⟩ : ∃ b, decide (1000 < (m : Int)) = b := ⟨_, rfl⟩
  rw [e1, e2, e3]
  cases b1 <;> cases b2 <;> cases b3 <;>
  · go_enter Tryz.func4, Tryz.ntmps4
    go_upto_region 1 with (fail)
    rw [← EW0.out, ← EP.out]
    go_wp2_with (fail)
    go_ret
    exact ⟨rfl, HB0.out⟩
def nv (n : Nat) : Value := .int .i64 (n : Int)
/-- A kind, and numbers behind it. -/
def varsL (l : List Nat) : List UInt8 := l.flatMap varL
theorem varsL_le (l : List Nat) (h : ∀ x ∈ l, U64 x) : (varsL l).length ≤ l.length * 10 := by
  induction l with
  | nil => exact Nat.le_refl _
  | cons a l ih =>
    have h1 := varL_len10 (h a List.mem_cons_self)
    have h2 := ih (fun x hx => h x (List.mem_cons_of_mem _ hx))
    simp only [varsL, List.flatMap_cons, List.length_append, List.length_cons] at h2 ⊢
    omega
set_option maxRecDepth 100000 in
set_option maxHeartbeats 2000000 in
theorem put17_c (kd : Nat) (hkd : kd < 256) (A : Option Addr) (n c : Nat) (l : List Nat) (w : World) (hl : l.length = n) (hr : Rd w A (l.map nv)) (hn : n ≤ 10) (hx : ∀ x ∈ l, x < 2 ^ 63) :
    Calls Tryz.prog 49 #[.int .u8 (kd : Int), .slice A n c] w fun e w' => ∃ v, e = .returned v ∧ OwnB w' w.heap.size v (lo kd :: varsL l) ∧ Below w.heap.size w w' := by
  have HL := Lib.hid hl
  have HR := Lib.hid hr
  have HX := Lib.hid hx
  obtain ⟨B, eB⟩ : ∃ B, B = w.heap.size := ⟨_, rfl⟩
  rw [← eB]
  obtain ⟨W0, eW0⟩ : ∃ W, W = w.alloc (.cells #[.int .u8 (kd : Int)] 5) := ⟨_, rfl⟩
  have HO0 : Hid (OwnB W0 B (.slice (some ⟨w.heap.size, 0, none⟩) 1 1) ([lo kd] ++ varsL (l.take 0))) := Lib.hid (by
    rw [eW0, eB]
    exact OwnB_lit w [lo kd] _ (by rw [List.map_cons, int_lo (n := kd) (by rw [Nat.mod_eq_of_lt hkd])]; rfl) 1 rfl (by simp))
  have HK0 : Hid (Below B w W0) := Lib.hid (by rw [eW0, eB]; exact (Below.refl _ _).alloc (Nat.le_refl _) _)
  have EB := Lib.hid eB
  have EW0 := Lib.hid eW0
  clear hl hr hx eB eW0
  go_enter Tryz.func49, Tryz.ntmps49
  go_upto_region 2 with (fail)
  rw [← EW0.out]
  go_wp2_with (fail)
  go_loopw [5, 12] (fun v i wr => ∃ k : Nat, k ≤ n ∧ i = .int .i64 k ∧ Hid (OwnB wr B v ([lo kd] ++ varsL (l.take k))) ∧ Hid (Below B w wr)) (fun _ i _ => n - (intOf i).toNat)
  case atStart => exact ⟨0, Nat.zero_le _, rfl, HO0, HK0⟩
  case round =>
    obtain ⟨k, hk, rfl, HO, HK⟩ := hrel
    rcases Nat.lt_or_ge k n with hlt | hge
    · have hlt' : (k : Int) < (n : Int) := by omega
      have hkl : k < l.length := by rw [HL.out]; exact hlt
      have hrw : Rd wr A (l.map nv) := HR.out.below (by rw [← EB.out]; exact HK.out)
      obtain ⟨b, off, rfl, hbl, hcs⟩ := hrw.addr (by rw [List.length_map]; omega)
      obtain ⟨x, ex⟩ : ∃ x, x = l[k] := ⟨_, rfl⟩
      have hx63 : x < 2 ^ 63 := by rw [ex]; exact HX.out _ (List.getElem_mem hkl)
      have hc : wr.cell? ⟨b, off + k, none⟩ = some (.int .i64 (x : Int)) := by
        have h := hcs k (by rw [List.length_map]; exact hkl)
        rw [List.getElem_map, ← ex] at h
        exact h
      have hwx : IntKind.u64.wrap (x : Int) = (x : Int) := IntWalk.u64_in _ ⟨by omega, by omega⟩
      have hxu : U64 x := by unfold U64; omega
      have HXT : Hid (([lo kd] ++ varsL (l.take k)) ++ varL x = [lo kd] ++ varsL (l.take (k + 1))) := Lib.hid (by
        rw [List.take_succ_eq_append_getElem hkl, varsL, varsL, List.flatMap_append, ← ex, List.append_assoc]; simp)
      have HLN : Hid (([lo kd] ++ varsL (l.take k)).length + 10 ≤ 1000) := Lib.hid (by
        have h := varsL_le (l.take k) (fun y hy => by have := HX.out y (List.mem_of_mem_take hy); unfold U64; omega)
        simp only [List.length_append, List.length_singleton, List.length_take] at h ⊢
        omega)
      have HSZ : Hid (B ≤ wr.heap.size) := Lib.hid (by have := HK.out.size; rw [EB.out]; exact this)
      have HXU := Lib.hid hxu
      clear hrw hcs ex hx63 hkl hxu
      go_wp2_with (first
        | (go_at_call 70; (refine (Var_c x wr HXU.out).mono ?_); rintro _ w2 ⟨v2, rfl, ho2, hb2⟩; obtain ⟨A2, c2, rfl, _, _, r2, _⟩ := OwnB.form ho2; have R2 := Lib.hid r2; have HB2 := Lib.hid hb2; have s2 : B ≤ w2.heap.size := Nat.le_trans HSZ.out hb2.size; have HO2 := Lib.hid (HO.out.below hb2); have HK2 := Lib.hid (HK.out.trans (hb2.mono HSZ.out)); clear ho2 hb2 r2)
        | (at_builtin; refine wpList_appB _ rfl (.tmp 16) (.tmp 19) rfl B _ _ rfl HO2.out A2 (varL x).length c2 (varL x) rfl rfl R2.out (by have := HLN.out; have := varL_len10 HXU.out; omega) s2 ?_; intro v4 w4 h4 hg4 _; have HO4 := Lib.hid h4; have HK4 := Lib.hid (HK2.out.grown hg4 s2 (fun q e => (Own.lt HO2.out q e).1)); clear h4 hg4))
      go_roundw
      case rel => exact ⟨k + 1, by omega, by go_num, Lib.hid (by rw [← HXT.out]; exact HO4.out), HK4⟩
      case measure => simp [intOf]; omega
    · obtain rfl : n = k := by omega
      have hge' : ¬ ((n : Int) < (n : Int)) := by omega
      have HE : Hid ([lo kd] ++ varsL (l.take n) = lo kd :: varsL l) := Lib.hid (by rw [List.take_of_length_le (by rw [HL.out]; exact Nat.le_refl _)]; rfl)
      go_wp2_with (fail)
      go_ret
      exact ⟨_, rfl, by rw [← HE.out]; exact HO.out, HK.out⟩
end Go.Proofs.YtndjggabdajbfaaGreatDoor



/- Plain: the runs by their places, as runs.layRuns goes. Conditions: as many cells in both. -/
namespace Go.Proofs.YtndjggabdajbfaaGreatDoor
open Go Go.RowKit Go.Lib

/-- What is left to tell at place i, the last run's end at h. -/
def restG (a b : List CeD) (i h : Nat) : Nat × List UInt8 := runsG (b.length - i) (i - h) (a.drop i) (b.drop i)
theorem restG_zero (a b : List CeD) : restG a b 0 0 = runsD a b := rfl
theorem restG_end (a b : List CeD) (i h : Nat) (hi : b.length ≤ i) : restG a b i h = (0, []) := by
  rw [restG, Nat.sub_eq_zero_of_le hi]; rfl
theorem restG_same {a b : List CeD} {i h : Nat} (hi : i < b.length) (ha : i < a.length) (hh : h ≤ i) (e : cellEq a[i] b[i] = true) : restG a b i h = restG a b (i + 1) h := by
  rw [restG, restG, show b.length - i = (b.length - (i + 1)) + 1 by omega, List.drop_eq_getElem_cons hi, List.drop_eq_getElem_cons ha, runsG, if_pos e, show i - h + 1 = i + 1 - h by omega]
/-- Where the run goes on from place t. -/
def endG (p : CeD) (a b : List CeD) (t : Nat) : Nat := t + runEnd p (a.drop t) (b.drop t)
theorem endG_go {p : CeD} {a b : List CeD} {t : Nat} (hi : t < b.length) (ha : t < a.length) (e : cellEq a[t] b[t] = false) (q : penEq b[t] p = true) : endG p a b t = endG p a b (t + 1) := by
  rw [endG, endG, List.drop_eq_getElem_cons hi, List.drop_eq_getElem_cons ha, runEnd, if_neg (by rw [e]; decide), if_pos q]; omega
theorem endG_same {p : CeD} {a b : List CeD} {t : Nat} (hi : t < b.length) (ha : t < a.length) (e : cellEq a[t] b[t] = true) : endG p a b t = t := by
  rw [endG, List.drop_eq_getElem_cons hi, List.drop_eq_getElem_cons ha, runEnd, if_pos e]; rfl
theorem endG_pen {p : CeD} {a b : List CeD} {t : Nat} (hi : t < b.length) (ha : t < a.length) (q : penEq b[t] p = false) : endG p a b t = t := by
  rw [endG, List.drop_eq_getElem_cons hi, List.drop_eq_getElem_cons ha, runEnd, q]; split <;> rfl
theorem endG_end (p : CeD) (a b : List CeD) (t : Nat) (hi : b.length ≤ t) : endG p a b t = t := by
  have h := (runEnd_le p (a.drop t) (b.drop t)).1
  rw [List.length_drop] at h
  rw [endG]; omega
theorem endG_le (p : CeD) (a b : List CeD) (t : Nat) (hi : t ≤ b.length) : t ≤ endG p a b t ∧ endG p a b t ≤ b.length := by
  have h := (runEnd_le p (a.drop t) (b.drop t)).1
  rw [List.length_drop] at h
  rw [endG]; omega
theorem restG_run {a b : List CeD} {i h t : Nat} (hi : i < b.length) (ha : i < a.length) (e : cellEq a[i] b[i] = false) (ht : endG b[i] a b (i + 1) = t) :
    restG a b i h = ((restG a b t t).1 + 1, runB (i - h) b[i] ((b.drop i).take (t - i)) ++ (restG a b t t).2) := by
  have hle := endG_le b[i] a b (i + 1) hi
  rw [ht] at hle
  have he : runEnd b[i] (a.drop (i + 1)) (b.drop (i + 1)) = t - (i + 1) := by rw [← ht, endG]; omega
  have ht1 : i + 1 + (t - (i + 1)) = t := by omega
  rw [restG, restG, show b.length - i = (b.length - (i + 1)) + 1 by omega, List.drop_eq_getElem_cons hi, List.drop_eq_getElem_cons ha, runsG, if_neg (by rw [e]; decide), he, List.drop_drop, List.drop_drop, ht1, Nat.sub_self,
    runsG_fuel (b.length - (i + 1)) (b.length - t) 0 (a.drop t) (b.drop t) (by rw [List.length_drop]; omega) (by rw [List.length_drop]; exact Nat.le_refl _), show t - i = (t - (i + 1)) + 1 by omega, List.take_succ_cons]
end Go.Proofs.YtndjggabdajbfaaGreatDoor



/- What slices.Equal on cells answers. Conditions: cells that can be read. -/
namespace Go.Proofs.YtndjggabdajbfaaGreatDoor
open Go Go.RowKit

end Go.Proofs.YtndjggabdajbfaaGreatDoor


