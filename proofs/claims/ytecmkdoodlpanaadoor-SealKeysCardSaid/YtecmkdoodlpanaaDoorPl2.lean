/- Plain law: what is read as a number is just what is laid for it, and the other way round. Conditions: none. -/
import Derived.Test.YtecmkdoodlpanaaDoorPlain
namespace Go.Proofs.YtecmkdoodlpanaaDoor
open Go Go.RowKit

theorem varGo_one : ∀ (l : List UInt8) (i n k : Nat), varGo l i = .ok n k → l.take k = varL n ∧ (0 < i → 0 < n)
  | [], _, _, _, h => by cases h
  | d :: l, i, n, k, h => by
    have hd := UInt8.toNat_lt d
    rw [varGo] at h
    by_cases hb : (i = 9 ∧ 1 < d.toNat) ∨ (0 < i ∧ d.toNat = 0)
    · rw [if_pos hb] at h; cases h
    · rw [if_neg hb] at h
      have hz : 0 < i → 0 < d.toNat := fun hi => by
        rcases Nat.eq_zero_or_pos d.toNat with h0 | h0
        · exact absurd (.inr ⟨hi, h0⟩) hb
        · exact h0
      by_cases h8 : d.toNat < 128
      · rw [if_pos h8] at h
        injection h with h1 h2
        subst h1; subst h2
        refine ⟨?_, hz⟩
        rw [varL_lo h8]
        show [d] = _
        congr 1
        apply UInt8.toNat_inj.1
        rw [lo_nat]; omega
      · rw [if_neg h8] at h
        cases hv : varGo l (i + 1) with
        | bad e => rw [hv] at h; cases h
        | ok n' k' =>
          rw [hv] at h
          injection h with h1 h2
          obtain ⟨g1, g2⟩ := varGo_one l (i + 1) n' k' hv
          have g3 := g2 (by omega)
          subst h1; subst h2
          refine ⟨?_, fun _ => by omega⟩
          rw [varL_hi (by omega), List.take_succ_cons, g1]
          congr 1
          · apply UInt8.toNat_inj.1
            rw [dig_nat]; omega
          · congr 1; omega

theorem varGo_back : ∀ (m : Nat) (n i : Nat) (more : List UInt8), n ≤ m → i ≤ 9 → n < 2 ^ (64 - 7 * i) → (0 < i → 0 < n) → varGo (varL n ++ more) i = .ok n (varL n).length := by
  intro m
  induction m using Nat.strongRecOn with
  | _ m ih =>
    intro n i more hnm hi hn hz
    by_cases h8 : n < 128
    · rw [varL_lo h8]
      show varGo (lo n :: more) i = _
      rw [varGo, if_neg, if_pos (by rw [lo_nat]; omega), lo_nat, Nat.mod_eq_of_lt (by omega)]
      · rfl
      · rw [lo_nat]
        rintro (⟨h1, h2⟩ | ⟨h1, h2⟩)
        · subst h1
          have : n < 2 ^ 1 := hn
          omega
        · have := hz h1; omega
    · rw [varL_hi (by omega)]
      have hi9 : i < 9 := by
        rcases Nat.lt_or_ge i 9 with h | h
        · exact h
        · obtain rfl : i = 9 := by omega
          have : n < 2 ^ 1 := hn
          omega
      have e : 2 ^ (64 - 7 * i) = 128 * 2 ^ (64 - 7 * (i + 1)) := by
        rw [show (128 : Nat) = 2 ^ 7 from rfl, ← Nat.pow_add]; congr 1; omega
      have h1 := ih (n / 128) (by omega) (n / 128) (i + 1) more (Nat.le_refl _) (by omega) (by omega) (by omega)
      show varGo (dig n :: (varL (n / 128) ++ more)) i = _
      rw [varGo, if_neg, if_neg (by rw [dig_nat]; omega), h1, dig_nat]
      · simp only [List.length_cons, VR.ok.injEq, and_true]
        omega
      · rw [dig_nat]
        rintro (⟨h1, h2⟩ | ⟨h1, h2⟩) <;> omega

theorem varGo_laid {n : Nat} (h : U64 n) (more : List UInt8) : varGo (varL n ++ more) 0 = .ok n (varL n).length := varGo_back n n 0 more (Nat.le_refl _) (by decide) h (fun h => absurd h (by decide))

theorem beN_cons (d : UInt8) (l : List UInt8) : beN (d :: l) = d.toNat * 256 ^ l.length + beN l := by
  have h : ∀ (l : List UInt8) (a : Nat), l.foldl (fun a d => a * 256 + d.toNat) a = a * 256 ^ l.length + beN l := by
    intro l
    induction l with
    | nil => intro a; simp [beN]
    | cons d l ih =>
      intro a
      have e2 : beN (d :: l) = d.toNat * 256 ^ l.length + beN l := by
        show List.foldl (fun a d => a * 256 + d.toNat) (0 * 256 + d.toNat) l = _
        rw [ih, Nat.zero_mul, Nat.zero_add]
      rw [List.foldl_cons, ih, e2, List.length_cons, Nat.pow_succ, Nat.add_mul]
      have e : a * 256 * 256 ^ l.length = a * (256 ^ l.length * 256) := by rw [Nat.mul_assoc, Nat.mul_comm 256]
      rw [e, Nat.add_assoc]
  show List.foldl (fun a d => a * 256 + d.toNat) (0 * 256 + d.toNat) l = _
  rw [h, Nat.zero_mul, Nat.zero_add]
theorem numL_succ (n size : Nat) : numL n (size + 1) = lo (n / 256 ^ size) :: numL n size := by
  unfold numL
  rw [List.range_succ_eq_map, List.map_cons, List.map_map]
  congr 1
  apply List.map_congr_left
  intro i hi
  show lo (n / 256 ^ (size + 1 - 1 - (i + 1))) = _
  rw [show size + 1 - 1 - (i + 1) = size - 1 - i by omega]
theorem beN_num (n : Nat) : ∀ size, beN (numL n size) = n % 256 ^ size
  | 0 => by simp [numL, beN, Nat.mod_one]
  | size + 1 => by
    rw [numL_succ, beN_cons, numL_length, beN_num n size, lo_nat, Nat.pow_succ, Nat.mod_mul]
    rw [Nat.mul_comm]; omega

/-- Digits of 128, the lowest first, as a number. -/
def valL : List UInt8 → Nat
  | [] => 0
  | d :: l => d.toNat % 128 + 128 * valL l
theorem valL_snoc (l : List UInt8) (d : UInt8) : valL (l ++ [d]) = valL l + 128 ^ l.length * (d.toNat % 128) := by
  induction l with
  | nil => simp [valL]
  | cons e l ih =>
    rw [List.cons_append, valL, ih, valL, List.length_cons, Nat.pow_succ, Nat.mul_add, Nat.mul_comm (128 ^ l.length) 128, Nat.mul_assoc, Nat.add_assoc]
theorem valL_drop_le (l : List UInt8) (j : Nat) : valL (l.drop j) ≤ valL l := by
  induction l generalizing j with
  | nil => simp
  | cons d l ih =>
    cases j with
    | zero => simp
    | succ j =>
      rw [List.drop_succ_cons]
      have := ih j
      simp only [valL]; omega
theorem valL_lt (l : List UInt8) : valL l < 128 ^ l.length := by
  induction l with
  | nil => decide
  | cons d l ih => rw [valL, List.length_cons, Nat.pow_succ]; omega
end Go.Proofs.YtecmkdoodlpanaaDoor
