/- Parts one behind the other: Plain: how wide a rune is; a rune's bytes; which bytes are a rune's; where a text is cut into runes; Plain words and lemmas on memory: cells that read as a list; rows that the call itself made; append onto them; Blocks of memory, whole: reads, stores, what stays; words in a row. Conditions: as told at each. -/
import Derived.Lib.MapLaws
import Derived.Test.YtndjggabdajbfaaGreatDoorProg
import Derived.WalkKit
import Derived.ProofKit
import Derived.OpenShut
import Derived.ShutString
import Derived.ChangeOld
import Derived.Below
import Derived.KernelRfl
import Derived.Lib.Hide
import Derived.Deep.QuietTactic
import Derived.BigQuiet
import Derived.WalkLawsBesides
import Derived.WalkSpells
import Derived.Laws.CopyOwn
import Derived.Laws.AppendOwnNone
import Derived.Maps.AppendAt
import Derived.Deep.AppendLies
import Derived.Deep.RegionWith
import Derived.Deep.RegionLaw
import Derived.Deep.DeepCutAuto
import Derived.Deep.CutRange
import Derived.Outline
import Derived.Handy

set_option linter.unusedVariables false
set_option linter.unusedSimpArgs false
/- Plain: how wide a rune is; a rune's bytes; which bytes are a rune's; where a text is cut into runes. Conditions: none. -/
namespace Go.Proofs.YtndjggabdajbfaaGreatDoor
open Go Go.Lib

/-! ### Widths -/
def inR (r lo hi : Int) : Bool := decide (lo ≤ r) && decide (r ≤ hi)
def badW (r : Int) : Bool := decide (r < 32) || inR r 127 159 || inR r 55296 57343 || decide (1114111 < r)
def noneL : List (Int × Int) := [(768, 879), (8203, 8207), (65024, 65039)]
def wideL : List (Int × Int) := [(4352, 4447), (11904, 12350), (12353, 42191), (44032, 55203), (63744, 64255), (65072, 65135), (65280, 65376), (65504, 65510), (127744, 128591), (131072, 262141)]
def anyR (r : Int) (l : List (Int × Int)) : Bool := l.any fun p => inR r p.1 p.2
def widI (r : Int) : Int := if badW r || anyR r noneL then 0 else if anyR r wideL then 2 else 1

/-! ### A rune's bytes -/
/-- May a rune be? -/
def mayR (r : Int) : Bool := inR r 0 55295 || inR r 57344 1114111
/-- The number that bytes say. -/
def numW : List UInt8 → Int
  | [a] => a.toNat
  | [a, b] => ((a.toNat : Int) - 192) * 64 + b.toNat - 128
  | [a, b, c] => ((a.toNat : Int) - 224) * 4096 + ((b.toNat : Int) - 128) * 64 + c.toNat - 128
  | [a, b, c, d] => ((a.toNat : Int) - 240) * 262144 + ((b.toNat : Int) - 128) * 4096 + ((c.toNat : Int) - 128) * 64 + d.toNat - 128
  | _ => -1
/-- The rune whose bytes these are. -/
def wholeO (b : List UInt8) : Option Int := if mayR (numW b) && decide (encodeRune (numW b) = b) then some (numW b) else none
/-- Are the next bytes no rune's? -/
def badD (l : List UInt8) : Bool := decide ((decodeL l).1 = 65533 ∧ (decodeL l).2 = 1)

theorem toNat_ofInt (z : Int) (h0 : 0 ≤ z) (h1 : z < 256) : ((z.toNat.toUInt8).toNat : Int) = z := by
  rw [show z.toNat.toUInt8 = UInt8.ofNat z.toNat from rfl, UInt8.toNat_ofNat']
  omega
theorem encodeRune_of (z : Int) (h : mayR z = true) :
    (z ≤ 127 ∧ encodeRune z = [z.toNat.toUInt8]) ∨ (128 ≤ z ∧ z ≤ 2047 ∧ encodeRune z = [(192 + z / 64).toNat.toUInt8, (128 + z % 64).toNat.toUInt8]) ∨
    (2048 ≤ z ∧ z ≤ 65535 ∧ encodeRune z = [(224 + z / 4096).toNat.toUInt8, (128 + z / 64 % 64).toNat.toUInt8, (128 + z % 64).toNat.toUInt8]) ∨
    (65536 ≤ z ∧ encodeRune z = [(240 + z / 262144).toNat.toUInt8, (128 + z / 4096 % 64).toNat.toUInt8, (128 + z / 64 % 64).toNat.toUInt8, (128 + z % 64).toNat.toUInt8]) := by
  simp only [mayR, inR, Bool.or_eq_true, Bool.and_eq_true, decide_eq_true_eq] at h
  rcases Int.lt_or_le z 128 with h1 | h1
  · left; refine ⟨by omega, ?_⟩; unfold encodeRune; rw [encodeRuneZ_one (by omega) (by omega)]; rfl
  rcases Int.lt_or_le z 2048 with h2 | h2
  · right; left; refine ⟨by omega, by omega, ?_⟩; unfold encodeRune; rw [encodeRuneZ_two (by omega) (by omega)]; rfl
  rcases Int.lt_or_le z 65536 with h3 | h3
  · right; right; left; refine ⟨by omega, by omega, ?_⟩; unfold encodeRune; rw [encodeRuneZ_three (by omega)]; rfl
  · right; right; right; refine ⟨by omega, ?_⟩; unfold encodeRune; rw [encodeRuneZ_four (by omega) (by omega)]; rfl
/-- What a rune's bytes are decoded to, whatever follows. -/
theorem decode_enc (z : Int) (h : mayR z = true) (rest : List UInt8) : decodeL (encodeRune z ++ rest) = (z.toNat, (encodeRune z).length) := by
  have hm := h
  simp only [mayR, inR, Bool.or_eq_true, Bool.and_eq_true, decide_eq_true_eq] at hm
  rcases encodeRune_of z h with ⟨h1, e⟩ | ⟨h1, h2, e⟩ | ⟨h1, h2, e⟩ | ⟨h1, e⟩
  · rw [e, decodeL_N]
    have b0 := toNat_ofInt z (by omega) (by omega)
    generalize z.toNat.toUInt8 = x0 at *
    simp only [List.cons_append, List.nil_append, List.length_cons, List.length_nil, List.getD_cons_zero]
    rw [decodeN, if_pos (by omega)]
    ext <;> simp <;> omega
  · rw [e, decodeL_N]
    have b0 := toNat_ofInt (192 + z / 64) (by omega) (by omega)
    have b1 := toNat_ofInt (128 + z % 64) (by omega) (by omega)
    generalize (192 + z / 64).toNat.toUInt8 = x0 at *
    generalize (128 + z % 64).toNat.toUInt8 = x1 at *
    simp only [List.cons_append, List.nil_append, List.length_cons, List.length_nil, List.getD_cons_zero, List.getD_cons_succ]
    rw [decodeN, if_neg (by omega), if_pos (by omega), if_pos (by omega)]
    ext <;> simp <;> omega
  · rw [e, decodeL_N]
    have b0 := toNat_ofInt (224 + z / 4096) (by omega) (by omega)
    have b1 := toNat_ofInt (128 + z / 64 % 64) (by omega) (by omega)
    have b2 := toNat_ofInt (128 + z % 64) (by omega) (by omega)
    generalize (224 + z / 4096).toNat.toUInt8 = x0 at *
    generalize (128 + z / 64 % 64).toNat.toUInt8 = x1 at *
    generalize (128 + z % 64).toNat.toUInt8 = x2 at *
    simp only [List.cons_append, List.nil_append, List.length_cons, List.length_nil, List.getD_cons_zero, List.getD_cons_succ]
    rw [decodeN, if_neg (by omega), if_neg (by omega), if_pos (by omega), if_pos (by omega)]
    ext <;> simp <;> omega
  · rw [e, decodeL_N]
    have b0 := toNat_ofInt (240 + z / 262144) (by omega) (by omega)
    have b1 := toNat_ofInt (128 + z / 4096 % 64) (by omega) (by omega)
    have b2 := toNat_ofInt (128 + z / 64 % 64) (by omega) (by omega)
    have b3 := toNat_ofInt (128 + z % 64) (by omega) (by omega)
    generalize (240 + z / 262144).toNat.toUInt8 = x0 at *
    generalize (128 + z / 4096 % 64).toNat.toUInt8 = x1 at *
    generalize (128 + z / 64 % 64).toNat.toUInt8 = x2 at *
    generalize (128 + z % 64).toNat.toUInt8 = x3 at *
    simp only [List.cons_append, List.nil_append, List.length_cons, List.length_nil, List.getD_cons_zero, List.getD_cons_succ]
    rw [decodeN, if_neg (by omega), if_neg (by omega), if_neg (by omega), if_pos (by omega), if_pos (by omega)]
    ext <;> simp <;> omega
theorem numW_enc (z : Int) (h : mayR z = true) : numW (encodeRune z) = z := by
  have hm := h
  simp only [mayR, inR, Bool.or_eq_true, Bool.and_eq_true, decide_eq_true_eq] at hm
  rcases encodeRune_of z h with ⟨h1, e⟩ | ⟨h1, h2, e⟩ | ⟨h1, h2, e⟩ | ⟨h1, e⟩
  · rw [e, numW, toNat_ofInt z (by omega) (by omega)]
  · rw [e, numW, toNat_ofInt _ (by omega) (by omega), toNat_ofInt _ (by omega) (by omega)]; omega
  · rw [e, numW, toNat_ofInt _ (by omega) (by omega), toNat_ofInt _ (by omega) (by omega), toNat_ofInt _ (by omega) (by omega)]; omega
  · rw [e, numW, toNat_ofInt _ (by omega) (by omega), toNat_ofInt _ (by omega) (by omega), toNat_ofInt _ (by omega) (by omega), toNat_ofInt _ (by omega) (by omega)]; omega
theorem wholeO_enc (z : Int) (h : mayR z = true) : wholeO (encodeRune z) = some z := by
  rw [wholeO, numW_enc z h, h]; simp
theorem wholeO_some {b : List UInt8} {z : Int} (h : wholeO b = some z) : mayR z = true ∧ encodeRune z = b := by
  unfold wholeO at h
  split at h
  · rename_i hc
    injection h with h
    subst h
    simp only [Bool.and_eq_true, decide_eq_true_eq] at hc
    exact hc
  · cases h
theorem mayR_decode (l : List UInt8) : mayR ((decodeL l).1 : Int) = true := by
  have k0 := (l.getD 0 0).toNat_lt
  rw [decodeL_N]
  simp only [mayR, inR, Bool.or_eq_true, Bool.and_eq_true, decide_eq_true_eq]
  rcases decodeN_shape l.length (l.getD 0 0).toNat (l.getD 1 0).toNat (l.getD 2 0).toNat (l.getD 3 0).toNat with ⟨c, e⟩ | ⟨c1, c2, c3, cv, e⟩ | ⟨c1, c2, c3, c4, cv, cs, e⟩ | ⟨c1, c2, c3, c4, c5, cv, cw, e⟩ | e
  all_goals (rw [e]; dsimp only; omega)
/-- Which beginnings of a text are a rune's bytes. -/
theorem whole_take (l : List UInt8) (hne : l ≠ []) (k : Nat) (hk : k ≤ l.length) : wholeO (l.take k) = if badD l = false ∧ (decodeL l).2 = k then some ((decodeL l).1 : Int) else none := by
  by_cases h : badD l = false ∧ (decodeL l).2 = k
  · rw [if_pos h]
    obtain ⟨h1, h2⟩ := h
    have e := encode_decode l hne (by simpa [badD] using h1)
    rw [← h2, ← e]
    exact wholeO_enc _ (mayR_decode l)
  · rw [if_neg h]
    cases e : wholeO (l.take k) with
    | none => rfl
    | some z =>
      exfalso
      obtain ⟨h1, h2⟩ := wholeO_some e
      have h3 := decode_enc z h1 (l.drop k)
      rw [h2, List.take_append_drop] at h3
      have hkl : (l.take k).length = k := by rw [List.length_take]; omega
      refine h ⟨?_, by rw [h3, hkl]⟩
      unfold badD
      rw [h3, hkl]
      refine decide_eq_false ?_
      rintro ⟨q1, q2⟩
      simp only at q1 q2
      have hz : z = 65533 := by omega
      rw [hz] at h2
      have h4 := congrArg List.length h2
      rw [hkl, q2] at h4
      revert h4; decide
theorem whole_len {b : List UInt8} {z : Int} (h : wholeO b = some z) : 1 ≤ b.length ∧ b.length ≤ 4 := by
  obtain ⟨h1, rfl⟩ := wholeO_some h
  rcases encodeRune_of z h1 with ⟨_, e⟩ | ⟨_, _, e⟩ | ⟨_, _, e⟩ | ⟨_, e⟩ <;> rw [e] <;> simp
/-! ### A text's runes -/
/-- Is a text made of runes? -/
def utfGo : Nat → List UInt8 → Bool
  | 0, _ => true
  | f + 1, l => if l = [] then true else !badD l && utfGo f (l.drop (decodeL l).2)
def utfV (l : List UInt8) : Bool := utfGo l.length l
/-- Does each rune take a place? -/
def wdGo : Nat → List UInt8 → Bool
  | 0, _ => true
  | f + 1, l => if l = [] then true else decide (widI ((decodeL l).1 : Int) ≠ 0) && wdGo f (l.drop (decodeL l).2)
def wdV (l : List UInt8) : Bool := wdGo l.length l
theorem utfGo_nil (n : Nat) : utfGo n [] = true := by cases n <;> simp [utfGo]
theorem wdGo_nil (n : Nat) : wdGo n [] = true := by cases n <;> simp [wdGo]
theorem utfGo_fuel : ∀ (n m : Nat) (l : List UInt8), l.length ≤ n → l.length ≤ m → utfGo n l = utfGo m l
  | 0, m, l, hn, _ => by
    have : l = [] := List.eq_nil_of_length_eq_zero (by omega)
    subst this; rw [utfGo_nil, utfGo_nil]
  | n + 1, 0, l, _, hm => by
    have : l = [] := List.eq_nil_of_length_eq_zero (by omega)
    subst this; rw [utfGo_nil, utfGo_nil]
  | n + 1, m + 1, l, hn, hm => by
    by_cases hne : l = []
    · subst hne; rw [utfGo_nil, utfGo_nil]
    · have hw := decodeL_width l
      have hl : 0 < l.length := List.length_pos_iff.2 hne
      simp only [utfGo, if_neg hne]
      rw [utfGo_fuel n m _ (by rw [List.length_drop]; omega) (by rw [List.length_drop]; omega)]
theorem wdGo_fuel : ∀ (n m : Nat) (l : List UInt8), l.length ≤ n → l.length ≤ m → wdGo n l = wdGo m l
  | 0, m, l, hn, _ => by
    have : l = [] := List.eq_nil_of_length_eq_zero (by omega)
    subst this; rw [wdGo_nil, wdGo_nil]
  | n + 1, 0, l, _, hm => by
    have : l = [] := List.eq_nil_of_length_eq_zero (by omega)
    subst this; rw [wdGo_nil, wdGo_nil]
  | n + 1, m + 1, l, hn, hm => by
    by_cases hne : l = []
    · subst hne; rw [wdGo_nil, wdGo_nil]
    · have hw := decodeL_width l
      have hl : 0 < l.length := List.length_pos_iff.2 hne
      simp only [wdGo, if_neg hne]
      rw [wdGo_fuel n m _ (by rw [List.length_drop]; omega) (by rw [List.length_drop]; omega)]
theorem wdV_nil : wdV [] = true := rfl
theorem utfV_step (l : List UInt8) (hne : l ≠ []) : utfV l = (!badD l && utfV (l.drop (decodeL l).2)) := by
  have hw := decodeL_width l
  have hl : 0 < l.length := List.length_pos_iff.2 hne
  unfold utfV
  obtain ⟨n, hn⟩ : ∃ n, l.length = n + 1 := ⟨l.length - 1, by omega⟩
  rw [hn]
  simp only [utfGo, if_neg hne]
  rw [utfGo_fuel n _ _ (by rw [List.length_drop]; omega) (Nat.le_refl _)]
theorem wdV_step (l : List UInt8) (hne : l ≠ []) : wdV l = (decide (widI ((decodeL l).1 : Int) ≠ 0) && wdV (l.drop (decodeL l).2)) := by
  have hw := decodeL_width l
  have hl : 0 < l.length := List.length_pos_iff.2 hne
  unfold wdV
  obtain ⟨n, hn⟩ : ∃ n, l.length = n + 1 := ⟨l.length - 1, by omega⟩
  rw [hn]
  simp only [wdGo, if_neg hne]
  rw [wdGo_fuel n _ _ (by rw [List.length_drop]; omega) (Nat.le_refl _)]
/-- A beginning of a rune's bytes, filled up, is a rune's bytes. -/
theorem whole_fill (l : List UInt8) (hne : l ≠ []) (hb : badD l = false) (p : Nat) (hp : p < (decodeL l).2) (h2 : 2 ≤ p) : (wholeO (l.take p ++ List.replicate ((decodeL l).2 - p) 191)).isSome = true := by
  have hle := decodeL_le l hne
  have hbb : ¬ ((decodeL l).1 = 65533 ∧ (decodeL l).2 = 1) := by simpa [badD] using hb
  rw [decodeL_N] at hle hp hbb ⊢
  have k0 := (l.getD 0 0).toNat_lt
  have k1 := (l.getD 1 0).toNat_lt
  have k2 := (l.getD 2 0).toNat_lt
  have k3 := (l.getD 3 0).toNat_lt
  have key : ∀ z : Int, mayR z = true → ∀ L, encodeRune z = L → (wholeO L).isSome = true := by
    intro z hz L e
    rw [← e, wholeO_enc z hz]; rfl
  rcases decodeN_shape l.length (l.getD 0 0).toNat (l.getD 1 0).toNat (l.getD 2 0).toNat (l.getD 3 0).toNat with ⟨c, e⟩ | ⟨c1, c2, c3, cv, e⟩ | ⟨c1, c2, c3, c4, cv, cs, e⟩ | ⟨c1, c2, c3, c4, c5, cv, cw, e⟩ | e
  · rw [e] at hp; simp only at hp; omega
  · rw [e] at hp; simp only at hp; omega
  · rw [e] at hp hle ⊢
    simp only at hp hle ⊢
    have : p = 2 := by omega
    subst this
    rw [takeB l (by omega)]
    refine key ((((l.getD 0 0).toNat : Int) - 224) * 4096 + (((l.getD 1 0).toNat : Int) - 128) * 64 + 63) ?_ _ ?_
    · simp only [mayR, inR, Bool.or_eq_true, Bool.and_eq_true, decide_eq_true_eq]; omega
    · unfold encodeRune
      rw [encodeRuneZ_three (by omega)]
      simp only [List.map_cons, List.map_nil, List.cons_append, List.nil_append]
      rw [toByte _ (l.getD 0 0) (by omega), toByte _ (l.getD 1 0) (by omega), toByte _ 191 (by simp; omega)]
      rfl
  · rw [e] at hp hle ⊢
    simp only at hp hle ⊢
    have : p = 2 ∨ p = 3 := by omega
    rcases this with rfl | rfl
    · rw [takeB l (by omega)]
      refine key ((((l.getD 0 0).toNat : Int) - 240) * 262144 + (((l.getD 1 0).toNat : Int) - 128) * 4096 + 4095) ?_ _ ?_
      · simp only [mayR, inR, Bool.or_eq_true, Bool.and_eq_true, decide_eq_true_eq]; omega
      · unfold encodeRune
        rw [encodeRuneZ_four (by omega) (by omega)]
        simp only [List.map_cons, List.map_nil, List.cons_append, List.nil_append]
        rw [toByte _ (l.getD 0 0) (by omega), toByte _ (l.getD 1 0) (by omega), toByte _ 191 (by simp; omega), toByte _ 191 (by simp; omega)]
        rfl
    · rw [takeC l (by omega)]
      refine key ((((l.getD 0 0).toNat : Int) - 240) * 262144 + (((l.getD 1 0).toNat : Int) - 128) * 4096 + (((l.getD 2 0).toNat : Int) - 128) * 64 + 63) ?_ _ ?_
      · simp only [mayR, inR, Bool.or_eq_true, Bool.and_eq_true, decide_eq_true_eq]; omega
      · unfold encodeRune
        rw [encodeRuneZ_four (by omega) (by omega)]
        simp only [List.map_cons, List.map_nil, List.cons_append, List.nil_append]
        rw [toByte _ (l.getD 0 0) (by omega), toByte _ (l.getD 1 0) (by omega), toByte _ (l.getD 2 0) (by omega), toByte _ 191 (by simp; omega)]
        rfl
  · rw [e] at hbb; exact absurd ⟨rfl, rfl⟩ hbb
theorem second_cont (l : List UInt8) (hne : l ≠ []) (hb : badD l = false) (h2 : 2 ≤ (decodeL l).2) : 128 ≤ (l.getD 1 0).toNat ∧ (l.getD 1 0).toNat ≤ 191 ∧ 2 ≤ l.length ∧ (decodeL l).2 ≤ 4 := by
  have hle := decodeL_le l hne
  have hbb : ¬ ((decodeL l).1 = 65533 ∧ (decodeL l).2 = 1) := by simpa [badD] using hb
  rw [decodeL_N] at hle h2 hbb ⊢
  rcases decodeN_shape l.length (l.getD 0 0).toNat (l.getD 1 0).toNat (l.getD 2 0).toNat (l.getD 3 0).toNat with ⟨c, e⟩ | ⟨c1, c2, c3, cv, e⟩ | ⟨c1, c2, c3, c4, cv, cs, e⟩ | ⟨c1, c2, c3, c4, c5, cv, cw, e⟩ | e
  all_goals (rw [e] at h2 hle ⊢; simp only at h2 hle ⊢; omega)
end Go.Proofs.YtndjggabdajbfaaGreatDoor



/- Plain words and lemmas on memory: cells that read as a list; rows that the call itself made; append onto them. Conditions: none. -/
namespace Go.Proofs.YtndjggabdajbfaaGreatDoor
open Go Go.RowKit

/-- A byte as a value. -/
def bv (b : UInt8) : Value := .int .u8 (b.toNat : Int)

/-- The address reads as these cells. -/
def Rd (w : World) (A : Option Addr) (vs : List Value) : Prop :=
  vs = [] ∨ ∃ b off, A = some ⟨b, off, none⟩ ∧ b < w.heap.size ∧ ∀ k (h : k < vs.length), w.cell? ⟨b, off + k, none⟩ = some vs[k]

section
variable {w w' : World} {A : Option Addr} {vs : List Value}
theorem Rd.of_blocks (h : Rd w A vs) (hk : ∀ b, b < w.heap.size → (∃ off, A = some ⟨b, off, none⟩) → w'.heap[b]? = w.heap[b]?) (hs : w.heap.size ≤ w'.heap.size) : Rd w' A vs := by
  rcases h with h | ⟨b, off, rfl, hb, h⟩
  · exact .inl h
  · exact .inr ⟨b, off, rfl, by omega, fun k hk' => (World.cell?_of_block (w := w) (a := ⟨b, off + k, none⟩) (hk b hb ⟨off, rfl⟩)).trans (h k hk')⟩
theorem Rd.below (h : Rd w A vs) (hb : Below w.heap.size w w') : Rd w' A vs := h.of_blocks (fun b h1 _ => hb.block b h1) hb.size
theorem Rd.drewN (h : Rd w A vs) (n : Nat) : Rd (w.drewN n) A vs := h
theorem Rd.alloc (h : Rd w A vs) (o : Obj) : Rd (w.alloc o) A vs := h.of_blocks (fun b h1 _ => Below.heap_alloc w o b h1) (by simp)
theorem Rd.grown (h : Rd w A vs) {row : Option Nat} (hg : w.grownBy w' row) (hne : ∀ b off, A = some ⟨b, off, none⟩ → row ≠ some b) : Rd w' A vs :=
  h.of_blocks (fun b h1 ⟨off, e⟩ => hg.block b h1 (fun e' => hne b off e e'.symm)) hg.size
theorem Rd.take (h : Rd w A vs) (n : Nat) : Rd w A (vs.take n) := by
  rcases h with rfl | ⟨b, off, rfl, hb, h⟩
  · exact .inl (by simp)
  · exact .inr ⟨b, off, rfl, hb, fun k hk => by
      have hk' : k < vs.length := by simp at hk; omega
      simpa using h k hk'⟩
/-- The cut 's[k:]' as the model writes its address: at the capacity's end it stays. -/
theorem Rd.cut (h : Rd w A vs) {k n c : Nat} (hn : vs.length = n) (hk : k ≤ n) (hc : n ≤ c) : Rd w (if c = k then A else A.map (fun x => x.add k)) (vs.drop k) := by
  rcases h with rfl | ⟨b, off, rfl, hb, h⟩
  · exact .inl (by simp)
  · by_cases e : c = k
    · left; apply List.eq_nil_of_length_eq_zero; rw [List.length_drop]; omega
    · rw [if_neg e]
      refine .inr ⟨b, off + k, ?_, hb, fun j hj => ?_⟩
      · unfold Addr.add
        by_cases h0 : k = 0 <;> simp [h0]
      · simp only [List.length_drop] at hj
        rw [Nat.add_assoc, h (k + j) (by omega)]
        simp
theorem Rd.addr (h : Rd w A vs) (h0 : 0 < vs.length) : ∃ b off, A = some ⟨b, off, none⟩ ∧ b < w.heap.size ∧ ∀ k (h : k < vs.length), w.cell? ⟨b, off + k, none⟩ = some vs[k] := by
  rcases h with rfl | h
  · simp at h0
  · exact h
theorem Rd.cellsAt (h : Rd w A vs) : ∀ ad, A = some ad → ∀ j u, vs[j]? = some u → w.cell? (ad.add j) = some u := by
  intro ad e j u hu
  have hj := (List.getElem?_eq_some_iff.1 hu).1
  obtain ⟨b, off, rfl, _, hc⟩ := h.addr (by omega)
  injection e with e
  subst e
  have h2 := hc j hj
  rw [List.getElem?_eq_getElem hj] at hu
  injection hu with hu
  rw [← hu, ← h2]
  unfold Addr.add
  by_cases h0 : j = 0
  · subst h0; rfl
  · simp [h0]
end

theorem grownBy_of_below {a w : World} (h : Below a.heap.size a w) (row : Option Nat) : a.grownBy w row := ⟨h.os, h.tape, h.output, h.size, fun i hi _ => h.block i hi⟩
theorem below_drewN {B : Nat} {a w : World} (h : Below B a w) (n : Nat) : Below B a (w.drewN n) := ⟨h.os, h.tape, h.output, h.size, h.block⟩

/-- A row of cells, made by the call itself from block B on. -/
def Own (w : World) (B : Nat) (e : TypeId) (v : Value) (vs : List Value) : Prop := w.ownsRow B e 1 v vs.length vs

section
variable {w w' : World} {B : Nat} {e : TypeId} {v : Value} {vs : List Value}
theorem Own.nil_ (w : World) (B : Nat) (e : TypeId) : Own w B e (.slice none 0 0) [] := World.ownsRow_nil _ _ _ _
theorem Own.form (h : Own w B e v vs) : ∃ A c, v = .slice A vs.length c ∧ vs.length ≤ c ∧ c ≤ maxLen ∧ Rd w A vs ∧ (∀ a, A = some a → B ≤ a.block ∧ a.block < w.heap.size ∧ a.off = 0 ∧ a.spot = none) ∧ (A = none → c = 0) := by
  have hh := h
  obtain ⟨hl, h2⟩ := h
  rcases h2 with ⟨rfl, h0⟩ | ⟨g, cap, cur, rfl, hb, hg, hn, hm, hcs, ht⟩
  · obtain rfl : vs = [] := List.eq_nil_of_length_eq_zero h0
    exact ⟨none, 0, rfl, Nat.le_refl _, Nat.zero_le _, .inl rfl, fun a ha => by (cases ha), fun _ => rfl⟩
  · refine ⟨some ⟨g, 0, none⟩, cap, rfl, hn, hm, .inr ⟨g, 0, rfl, (Array.getElem?_eq_some_iff.1 hg).1, fun k hk => ?_⟩, fun a ha => ?_, fun ha => by (cases ha)⟩
    · have := hh.cellAt k (by omega)
      rw [Nat.zero_add, this, List.getElem?_eq_getElem hk]
    · injection ha with ha; subst ha; exact ⟨hb, (Array.getElem?_eq_some_iff.1 hg).1, rfl, rfl⟩
theorem Own.below (h : Own w B e v vs) (hb : Below w.heap.size w w') : Own w' B e v vs := World.ownsRow.kept h (grownBy_of_below hb (some w.heap.size)) (by
  rcases h.2 with ⟨rfl, _⟩ | ⟨g, cap, cur, rfl, _, hg, _⟩
  · left; rfl
  · right
    have := (Array.getElem?_eq_some_iff.1 hg).1
    simp [Value.ownBlock]; omega)
theorem Own.drewN (h : Own w B e v vs) (n : Nat) : Own (w.drewN n) B e v vs := h
theorem Own.alloc (h : Own w B e v vs) (o : Obj) : Own (w.alloc o) B e v vs := World.ownsRow.alloc h o
theorem Own.low {B' : Nat} (h : Own w B e v vs) (hB : B' ≤ B) : Own w B' e v vs := by
  refine ⟨h.1, ?_⟩
  rcases h.2 with h2 | ⟨g, cap, cur, hv, hb, r⟩
  · exact .inl h2
  · exact .inr ⟨g, cap, cur, hv, by omega, r⟩
theorem Own.setBelow (h : Own w B e v vs) {p : Addr} (hp : p.block < B) (u : Value) : Own (w.setCell p u) B e v vs := ownsRow_setCell_below h hp u
theorem Own.lt (h : Own w B e v vs) : ∀ k, v.ownBlock = some k → B ≤ k ∧ k < w.heap.size := World.ownsRow.lt h
end

/-- append onto a row of the call's own, whatever the source: nil, empty or not. -/
theorem run_append_of_nil {P : Program} (w : World) (base : Nat) (t ty e : TypeId) (i : TypeInfo) (size : Nat) (ht : P.underlying t = some (.slice e)) (hi : P.info? e = some i)
    (v : Value) (n : Nat) (xs : List Value) (hown : w.ownsRow base e size v n xs) (c : Nat) : (Builtin.append_ #[t, t] ty #[v, .slice none 0 c]).run P w = .ok v w := by
  rcases hown.2 with ⟨rfl, rfl⟩ | ⟨g, cap, cur, rfl, _, _, hnc, _⟩
  · simp [Builtin.append_, run_underlying ht, sizeOf, typeInfo, hi, Builtin.lenOf, Builtin.firstCells]
  · simp [Builtin.append_, run_underlying ht, sizeOf, typeInfo, hi, Builtin.lenOf, Builtin.firstCells, hnc, storeCells]

theorem run_app {P : Program} (w : World) (base : Nat) (t ty e : TypeId) (i : TypeInfo) (z : Value) (bytes : Nat) (ht : P.underlying t = some (.slice e)) (hi : P.info? e = some i) (hz : i.zero = some z)
    (hsize : i.size = 1) (hby : i.bytes = bytes) (hzs : z.cells.size = 1)
    (v : Value) (xs : List Value) (hown : Own w base e v xs) (A : Option Addr) (m c : Nat) (news : List Value) (hm : news.length = m) (hr : Rd w A news) (h1 : ∀ u ∈ news, u.oneCell' = true)
    (hlen : xs.length + m ≤ maxLen) (hbytes : (xs.length + m) * bytes ≤ 140737488355328) (hbase : base ≤ w.heap.size) :
    ∃ v' w', (Builtin.append_ #[t, t] ty #[v, .slice A m c]).run P w = .ok v' w' ∧ Own w' base e v' (xs ++ news) ∧ w.grownBy w' v.ownBlock ∧
      (v'.ownBlock = v.ownBlock ∨ v'.ownBlock = some w.heap.size) := by
  subst hm
  rcases A with _ | ad
  · have hn : news = [] := by
      rcases hr with h | ⟨_, _, h, _⟩
      · exact h
      · cases h
    subst hn
    exact ⟨v, w, run_append_of_nil w base t ty e i 1 ht hi v xs.length xs hown c, by simpa using hown, World.grownBy.refl w _, .inl rfl⟩
  · obtain ⟨v', w', hrun, h2, h3, _, h5⟩ := run_append_own_at (P := P) w base t ty e i z 1 bytes ht hi hz hsize hby hzs (by decide) v xs.length xs hown ad news.length c news (by simp) (hr.cellsAt ad rfl) h1 hlen hbytes hbase
    exact ⟨v', w', hrun, by simpa [Own] using h2, h3, h5⟩

theorem wpList_app {P : Program} (w : World) {ops : Array Oper} {rest : List Oper} {o : Oper} {a : Act} {Q : Exit → Act → World → Prop} (hgd : o.guard = none) (s x : Operand) (t : TypeId)
    (ho : o.op = .call { callee := .builtin .append, args := #[s, x], argTypes := #[t, t] })
    (base : Nat) (e : TypeId) (i : TypeInfo) (z : Value) (bytes : Nat) (ht : P.underlying t = some (.slice e)) (hi : P.info? e = some i) (hz : i.zero = some z)
    (hsize : i.size = 1) (hby : i.bytes = bytes) (hzs : z.cells.size = 1)
    (v : Value) (xs : List Value) (hs : a.eval s = v) (hown : Own w base e v xs)
    (A : Option Addr) (m c : Nat) (news : List Value) (hx : a.eval x = .slice A m c) (hm : news.length = m) (hr : Rd w A news) (h1 : ∀ u ∈ news, u.oneCell' = true)
    (hlen : xs.length + m ≤ maxLen) (hbytes : (xs.length + m) * bytes ≤ 140737488355328) (hbase : base ≤ w.heap.size)
    (h : ∀ v' w', Own w' base e v' (xs ++ news) → w.grownBy w' v.ownBlock → (v'.ownBlock = v.ownBlock ∨ v'.ownBlock = some w.heap.size) → wpList P ops Q rest (a.put o.dst v') w') : wpList P ops Q (o :: rest) a w := by
  refine wpList_plain hgd fun K hK => ?_
  obtain ⟨v', w', hrun, h2, h3, h4⟩ := run_app (P := P) w base t o.type e i z bytes ht hi hz hsize hby hzs v xs hown A m c news hm hr h1 hlen hbytes hbase
  unfold Oper.wp execOp
  simp only [ho, resolve, invoke, builtin, Sem.run_bind, Sem.run_pure, Result.andThen_ok, List.map_toArray, List.map_cons, List.map_nil, hs, hx, hrun]
  exact hK _ _ (h v' w' h2 h3 h4)

/-! ### Bytes -/
theorem info_u8 : (Tryz.prog.info? 5).map (fun i => (i.zero, i.size, i.bytes)) = some (some (.int .u8 0), 1, 1) := by kernel_rfl

/-- Bytes in a row of the call's own. -/
def OwnB (w : World) (B : Nat) (v : Value) (bs : List UInt8) : Prop := Own w B 5 v (bs.map bv)

theorem bv_one (bs : List UInt8) : ∀ u ∈ bs.map bv, u.oneCell' = true := by
  intro u hu
  obtain ⟨_, _, rfl⟩ := List.mem_map.1 hu
  rfl
theorem OwnB.form {w : World} {B : Nat} {v : Value} {bs : List UInt8} (h : OwnB w B v bs) :
    ∃ A c, v = .slice A bs.length c ∧ bs.length ≤ c ∧ c ≤ maxLen ∧ Rd w A (bs.map bv) ∧ (∀ a, A = some a → B ≤ a.block ∧ a.block < w.heap.size ∧ a.off = 0 ∧ a.spot = none) := by
  obtain ⟨A, c, h1, h2, h3, h4, h5, _⟩ := Own.form h
  simp only [List.length_map] at h1 h2
  exact ⟨A, c, h1, h2, h3, h4, h5⟩

theorem Rd.addrB {w : World} {A : Option Addr} {bs : List UInt8} (h : Rd w A (bs.map bv)) (h0 : 0 < bs.length) :
    ∃ b off, A = some ⟨b, off, none⟩ ∧ b < w.heap.size ∧ ∀ k (h : k < bs.length), w.cell? ⟨b, off + k, none⟩ = some (bv bs[k]) := by
  obtain ⟨b, off, h1, h2, h3⟩ := h.addr (by rw [List.length_map]; exact h0)
  refine ⟨b, off, h1, h2, fun k hk => ?_⟩
  have := h3 k (by rw [List.length_map]; exact hk)
  rw [this, List.getElem_map]

/-- 'append(v, xs...)' on bytes. -/
theorem wpList_appB (w : World) {ops : Array Oper} {rest : List Oper} {o : Oper} {a : Act} {Q : Exit → Act → World → Prop} (hgd : o.guard = none) (s x : Operand)
    (ho : o.op = .call { callee := .builtin .append, args := #[s, x], argTypes := #[26, 26] })
    (B : Nat) (v : Value) (bs : List UInt8) (hs : a.eval s = v) (hown : OwnB w B v bs)
    (A : Option Addr) (m c : Nat) (ns : List UInt8) (hx : a.eval x = .slice A m c) (hm : ns.length = m) (hr : Rd w A (ns.map bv))
    (hlen : bs.length + m ≤ 140737488355328) (hB : B ≤ w.heap.size)
    (h : ∀ v' w', OwnB w' B v' (bs ++ ns) → w.grownBy w' v.ownBlock → (v'.ownBlock = v.ownBlock ∨ v'.ownBlock = some w.heap.size) → wpList Tryz.prog ops Q rest (a.put o.dst v') w') : wpList Tryz.prog ops Q (o :: rest) a w := by
  obtain ⟨i0, hi, hz0, hz1, hz2⟩ := info_parts info_u8
  refine wpList_app w hgd s x 26 ho B 5 i0 (.int .u8 0) 1 Tryz.underlying26 hi hz0 hz1 hz2 rfl v (bs.map bv) hs hown A m c (ns.map bv) hx (by simpa using hm) hr (bv_one _) (by simp only [List.length_map, maxLen]; omega) (by simp only [List.length_map]; omega) hB ?_
  intro v' w' h1 h2 h3
  exact h v' w' (by simpa [OwnB] using h1) h2 h3

/-- 'append(v, x)' of one byte, laid in a new block. -/
theorem wpList_appB1 (w : World) {ops : Array Oper} {rest : List Oper} {o : Oper} {a : Act} {Q : Exit → Act → World → Prop} (hgd : o.guard = none) (s x : Operand)
    (ho : o.op = .call { callee := .builtin .append, args := #[s, x], argTypes := #[26, 26] })
    (B : Nat) (v : Value) (bs : List UInt8) (hs : a.eval s = v) (hown : OwnB w B v bs) (X : Value) (hx : a.eval x = .slice (some ⟨w.heap.size, 0, none⟩) 1 1) (b : UInt8) (hX : X = bv b)
    (hlen : bs.length + 1 ≤ 140737488355328) (hB : B ≤ w.heap.size)
    (h : ∀ v' w', OwnB w' B v' (bs ++ [b]) → (w.alloc (.cells #[X] 5)).grownBy w' v.ownBlock → (v'.ownBlock = v.ownBlock ∨ v'.ownBlock = some (w.heap.size + 1)) → wpList Tryz.prog ops Q rest (a.put o.dst v') w') : wpList Tryz.prog ops Q (o :: rest) a (w.alloc (.cells #[X] 5)) := by
  subst hX
  refine wpList_appB _ hgd s x ho B v bs hs (Own.alloc hown _) _ 1 1 [b] hx rfl (.inr ⟨w.heap.size, 0, rfl, by simp, fun k hk => ?_⟩) hlen (by simp; omega) (fun v' w' h1 h2 h3 => h v' w' h1 h2 (by simpa using h3))
  have : k = 0 := by simp at hk; omega
  subst this
  exact cell_of_row _ _ 0 _ _ (0, 0) (heap_alloc_new w _)

/-! ### Rows whose head is known: reads, stores -/
section
variable {w : World} {B : Nat} {e : TypeId} {g n c : Nat} {vs : List Value}
theorem Own.len (h : Own w B e (.slice (some ⟨g, 0, none⟩) n c) vs) : n = vs.length ∧ vs.length ≤ c := by
  rcases h.2 with ⟨h, _⟩ | ⟨g', cap, cur, hv, _, _, hn, _⟩
  · cases h
  · injection hv with _ h2 h3
    exact ⟨h2, by omega⟩
theorem Own.to_n (h : Own w B e (.slice (some ⟨g, 0, none⟩) n c) vs) : w.ownsRow B e 1 (.slice (some ⟨g, 0, none⟩) n c) n vs := by
  have := h.len.1; subst this; exact h
theorem Own.cell (h : Own w B e (.slice (some ⟨g, 0, none⟩) n c) vs) (j : Nat) (hj : j < vs.length) : w.cell? ⟨g, j, none⟩ = some vs[j] := by
  rw [h.to_n.cellAt j (by have := h.len.1; omega), List.getElem?_eq_getElem hj]
theorem Own.free (h : Own w B e (.slice (some ⟨g, 0, none⟩) n c) vs) (j : Nat) : w.frozen? ⟨g, j, none⟩ = false := h.to_n.frozenAt j
theorem Own.set (h : Own w B e (.slice (some ⟨g, 0, none⟩) n c) vs) (j : Nat) (u : Value) : Own (w.setCell ⟨g, j, none⟩ u) B e (.slice (some ⟨g, 0, none⟩) n c) (vs.set j u) := by
  have h2 := (h.to_n.stored j u).1
  have hl := h.len.1
  unfold Own
  rw [List.length_set, ← hl]
  exact h2
end
section
variable {w : World} {B g n c : Nat} {bs : List UInt8}
theorem OwnB.len (h : OwnB w B (.slice (some ⟨g, 0, none⟩) n c) bs) : n = bs.length := by simpa using (Own.len h).1
theorem OwnB.cell (h : OwnB w B (.slice (some ⟨g, 0, none⟩) n c) bs) (j : Nat) (hj : j < bs.length) : w.cell? ⟨g, j, none⟩ = some (bv bs[j]) := by
  have := Own.cell h j (by simpa using hj)
  simpa using this
theorem OwnB.free (h : OwnB w B (.slice (some ⟨g, 0, none⟩) n c) bs) (j : Nat) : w.frozen? ⟨g, j, none⟩ = false := Own.free h j
theorem OwnB.set (h : OwnB w B (.slice (some ⟨g, 0, none⟩) n c) bs) (j : Nat) (b : UInt8) : OwnB (w.setCell ⟨g, j, none⟩ (bv b)) B (.slice (some ⟨g, 0, none⟩) n c) (bs.set j b) := by
  have := Own.set h j (bv b)
  rw [← List.map_set] at this
  exact this
end

/-- 'make([]byte, n)'. -/
theorem wpList_makeB (w : World) {ops : Array Oper} {rest : List Oper} {o : Oper} {a : Act} {Q : Exit → Act → World → Prop} (hgd : o.guard = none) (l c : Operand) (ho : o.op = Op.makeSlice 26 l c)
    (kl kc : IntKind) (L C : Int) (n : Nat) (hl : a.eval l = .int kl L) (hc : a.eval c = .int kc C) (hL : L = (n : Int)) (hC : C = (n : Int)) (hn : n ≤ 140737488355328)
    (h : ∀ w', OwnB w' w.heap.size (.slice (some ⟨w.heap.size, 0, none⟩) n n) (List.replicate n 0) → Below w.heap.size w w' → w.grownBy w' none → wpList Tryz.prog ops Q rest (a.put o.dst (.slice (some ⟨w.heap.size, 0, none⟩) n n)) w') :
    wpList Tryz.prog ops Q (o :: rest) a w := by
  obtain ⟨i0, hi, hz0, hz1, hz2⟩ := info_parts info_u8
  refine wpList_make_full w hgd l c 26 ho w.heap.size 5 i0 (.int .u8 0) 1 Tryz.underlying26 hi hz0 hz1 kl kc L C n hl hc hL hC (by rw [hz2]; omega) (by unfold maxLen; omega) (Nat.le_refl _) ?_
  intro w' h1 h2
  refine h w' ?_ ((Below.refl _ _).grown h2 (Nat.le_refl _) (fun k hk => by cases hk)) h2
  have e : (madeCells (Value.int .u8 0).cells (n * 1)).toList = (List.replicate n (0 : UInt8)).map bv := by
    rw [Nat.mul_one, List.map_replicate]; exact toList_madeCells_one _ _
  rw [e] at h1
  simpa [OwnB, Own] using h1

/-- 'copy(dst, src)' on bytes, dst a row of the call's own, from its head on. -/
theorem wpList_copyB (w : World) {ops : Array Oper} {rest : List Oper} {o : Oper} {a : Act} {Q : Exit → Act → World → Prop} (hgd : o.guard = none) (d s : Operand)
    (ho : o.op = .call { callee := .builtin .copy, args := #[d, s], argTypes := #[26, 26] })
    (B g n c : Nat) (bs : List UInt8) (hd : a.eval d = .slice (some ⟨g, 0, none⟩) n c) (hown : OwnB w B (.slice (some ⟨g, 0, none⟩) n c) bs)
    (A : Option Addr) (m k : Nat) (ns : List UInt8) (hs : a.eval s = .slice A m k) (hm : ns.length = m) (hr : Rd w A (ns.map bv))
    (h : ∀ w', OwnB w' B (.slice (some ⟨g, 0, none⟩) n c) (ns.take n ++ bs.drop m) → Below B w w' → w.grownBy w' (some g) → wpList Tryz.prog ops Q rest (a.put o.dst (goInt ((min m n : Nat) : Int))) w') : wpList Tryz.prog ops Q (o :: rest) a w := by
  subst hm
  have hlen := hown.len
  subst hlen
  have hfull := hown
  obtain ⟨_, ⟨hbad, _⟩ | ⟨g', cap, cur, hv, hgB, hg, hnc, hcm, hcs, htk⟩⟩ := hown
  · cases hbad
  injection hv with hv1 hv2 hv3
  subst hv3
  injection hv1 with hv1
  injection hv1 with hv1
  subst hv1
  have hmn : min ns.length bs.length = (ns.take bs.length).length := by rw [List.length_take, Nat.min_comm]
  by_cases h0 : (ns.take bs.length).length = 0
  · refine wpList_copy_nothing hgd d s _ _ ho 5 Tryz.underlying26 (by kernel_rfl) _ _ _ _ _ _ hd hs (by rw [← hmn] at h0; exact h0) ?_
    have e : ns.take bs.length ++ bs.drop ns.length = bs := by
      rw [List.eq_nil_of_length_eq_zero h0, List.nil_append]
      rw [List.length_take] at h0
      rcases Nat.min_eq_zero_iff.1 h0 with h1 | h1
      · rw [List.eq_nil_of_length_eq_zero h1]; simp
      · rw [h1]; rfl
    have := h w (by rw [e]; exact hfull) (Below.refl _ _) (World.grownBy.refl _ _)
    rw [hmn, h0] at this
    exact this
  · have hpos : 0 < (ns.map bv).length := by
      rw [List.length_take] at h0; rw [List.length_map]; omega
    obtain ⟨b, off, rfl, hlt, hc⟩ := hr.addr hpos
    have hcur : cur.size = c := by simpa using hcs
    have htk' : cur.toList.take bs.length = bs.map bv := by simpa using htk
    have hnc' : bs.length ≤ c := by simpa using hnc
    refine wpList_copy_own hgd d s _ _ ho 5 Tryz.underlying26 (by kernel_rfl) g 0 bs.length c ⟨b, off, none⟩ ns.length k hd hs cur 5 hg ((ns.take bs.length).map bv) (by rw [List.length_map, ← hmn]) ?_ ?_ ?_ ?_
    · intro j v hj
      refine hr.cellsAt _ rfl j v ?_
      rw [List.map_take] at hj
      rw [List.getElem?_take] at hj
      split at hj
      · exact hj
      · cases hj
    · rw [List.length_map, List.length_take]; omega
    · exact bv_one _
    · rw [List.length_map, ← hmn]
      refine h _ ⟨by simp, .inr ⟨g, c, _, by simp; omega, hgB, setRow_heap w g cur _ 5 _ hg, by simp; omega, hcm, ?_, ?_⟩⟩ ⟨rfl, rfl, rfl, by simp, fun q hq => setRow_other w g q _ (by omega)⟩ ⟨rfl, rfl, rfl, by simp, fun q _ hq => setRow_other w g q _ (fun e => hq (by rw [e]))⟩
      · simp; omega
      · simp only [List.take_zero, List.nil_append, Nat.zero_add, Nat.mul_one, List.map_append, List.length_map, List.length_append]
        have e1 : cur.toList.drop (min ns.length bs.length) = ((bs.map bv).drop (min ns.length bs.length)) ++ cur.toList.drop bs.length := by
          rw [← htk', ← List.drop_append_of_le_length (by simp; omega), List.take_append_drop]
        rw [e1, ← List.append_assoc, List.take_append_of_le_length (by simp; omega)]
        rw [List.take_of_length_le (by simp; omega)]
        congr 1
        rw [← List.map_drop]
        congr 1
        rcases Nat.le_total ns.length bs.length with hq | hq
        · rw [Nat.min_eq_left hq]
        · rw [Nat.min_eq_right hq, List.drop_of_length_le (Nat.le_refl _), List.drop_of_length_le hq]

/-- 'append([]byte(nil), xs...)'. -/
theorem run_cloneB (w : World) (ty : TypeId) (A : Option Addr) (m c : Nat) (ns : List UInt8) (hm : ns.length = m) (hr : Rd w A (ns.map bv)) (hl : m ≤ 140737488355328) :
    ∃ A' c' w', (Builtin.append_ #[26, 26] ty #[.slice none 0 0, .slice A m c]).run Tryz.prog w = .ok (.slice A' m c') w' ∧ OwnB w' w.heap.size (.slice A' m c') ns ∧ Below w.heap.size w w' ∧ m ≤ c' ∧ c' ≤ maxLen ∧ Rd w' A' (ns.map bv) ∧ (∀ a, A' = some a → w.heap.size ≤ a.block ∧ a.block < w'.heap.size) ∧ w.grownBy w' none := by
  obtain ⟨i0, hi, hz0, hz1, hz2⟩ := info_parts info_u8
  obtain ⟨v', w', hrun, h2, h3, h4⟩ := run_app (P := Tryz.prog) w w.heap.size 26 ty 5 i0 (.int .u8 0) 1 Tryz.underlying26 hi hz0 hz1 hz2 rfl (.slice none 0 0) [] (Own.nil_ _ _ _) A m c (ns.map bv) (by simpa using hm) hr (bv_one _) (by simp [maxLen]; omega) (by simp; omega) (Nat.le_refl _)
  rw [List.nil_append] at h2
  obtain ⟨A', c', rfl, hc, hcm, hr', hB⟩ := OwnB.form h2
  subst hm
  exact ⟨A', c', w', hrun, h2, (Below.refl _ _).grown h3 (Nat.le_refl _) (fun k hk => by simp [Value.ownBlock] at hk), hc, hcm, hr', fun a ha => ⟨(hB a ha).1, (hB a ha).2.1⟩, h3⟩

theorem wpList_cloneB (w : World) {ops : Array Oper} {rest : List Oper} {o : Oper} {a : Act} {Q : Exit → Act → World → Prop} (hgd : o.guard = none) (x : Operand)
    (ho : o.op = .call { callee := .builtin .append, args := #[.const (.slice none 0 0), x], argTypes := #[26, 26] })
    (A : Option Addr) (m c : Nat) (ns : List UInt8) (hx : a.eval x = .slice A m c) (hm : ns.length = m) (hr : Rd w A (ns.map bv)) (hl : m ≤ 140737488355328)
    (h : ∀ A' c' w', OwnB w' w.heap.size (.slice A' m c') ns → Below w.heap.size w w' → m ≤ c' → c' ≤ maxLen → Rd w' A' (ns.map bv) → (∀ a, A' = some a → w.heap.size ≤ a.block ∧ a.block < w'.heap.size) → wpList Tryz.prog ops Q rest (a.put o.dst (.slice A' m c')) w') : wpList Tryz.prog ops Q (o :: rest) a w := by
  refine wpList_plain hgd fun K hK => ?_
  obtain ⟨A', c', w', hrun, h1, h2, h3, h4, h5, h6, _⟩ := run_cloneB w o.type A m c ns hm hr hl
  unfold Oper.wp execOp
  simp only [ho, resolve, invoke, builtin, Sem.run_bind, Sem.run_pure, Result.andThen_ok, List.map_toArray, List.map_cons, List.map_nil, hx, show a.eval (.const (.slice none 0 0)) = .slice none 0 0 from rfl, hrun]
  exact hK _ _ (h A' c' w' h1 h2 h3 h4 h5 h6)

/-- A literal row in a new block. -/
theorem Rd.lit (w : World) (vs : List Value) (t : TypeId) : Rd (w.alloc (.cells vs.toArray t)) (some ⟨w.heap.size, 0, none⟩) vs := by
  refine .inr ⟨w.heap.size, 0, rfl, by simp, fun k hk => ?_⟩
  rw [Nat.zero_add, cell_of_row _ _ k _ _ (0, 0) (heap_alloc_new w _)]
  simp

end Go.Proofs.YtndjggabdajbfaaGreatDoor



/- Blocks of memory, whole: reads, stores, what stays; words in a row. Conditions: none. -/
namespace Go.Proofs.YtndjggabdajbfaaGreatDoor
open Go Go.RowKit

theorem heap_cell {w : World} {g : Nat} {cs : Array Value} {t : TypeId} (h : w.heap[g]? = some (.cells cs t (0, 0))) (i : Nat) : w.cell? ⟨g, i, none⟩ = cs[i]? := cell_of_row w g i cs t (0, 0) h
theorem heap_free {w : World} {g : Nat} {cs : Array Value} {t : TypeId} (h : w.heap[g]? = some (.cells cs t (0, 0))) (i : Nat) : w.frozen? ⟨g, i, none⟩ = false := by simp [World.frozen?, h]
theorem heap_lt {w : World} {g : Nat} {o : Obj} (h : w.heap[g]? = some o) : g < w.heap.size := (Array.getElem?_eq_some_iff.1 h).1
theorem heap_set {w : World} {g : Nat} {cs : Array Value} {t : TypeId} (h : w.heap[g]? = some (.cells cs t (0, 0))) (i : Nat) (u : Value) : (w.setCell ⟨g, i, none⟩ u).heap[g]? = some (.cells (cs.setIfInBounds i u) t (0, 0)) := by
  simp [World.setCell, Array.getElem?_modify, h]
theorem heap_far {w : World} {g : Nat} {p : Addr} (u : Value) (hp : g ≠ p.block) : (w.setCell p u).heap[g]? = w.heap[g]? := Below.heap_setCell w p u g hp
theorem Rd.far {w : World} {A : Option Addr} {vs : List Value} (h : Rd w A vs) {p : Addr} (u : Value) (hp : ∀ a, A = some a → a.block ≠ p.block) : Rd (w.setCell p u) A vs :=
  h.of_blocks (fun b _ ⟨off, e⟩ => heap_far u (hp _ e)) (by simp [World.setCell])
/-- Only block r, and what is new, has turned. -/
theorem only_set {w : World} (r i : Nat) (u : Value) : w.grownBy (w.setCell ⟨r, i, none⟩ u) (some r) :=
  ⟨rfl, rfl, rfl, by simp [World.setCell], fun k _ hk => heap_far u (fun e => hk (by rw [e]))⟩
theorem only_setD {w : World} (q r i : Nat) (u : Value) : w.grownBy ((w.drewN q).setCell ⟨r, i, none⟩ u) (some r) :=
  ⟨rfl, rfl, rfl, by simp [World.setCell], fun k _ hk => heap_far u (fun e => hk (by rw [e]))⟩
theorem only_of_drewN {w w' : World} {q : Nat} {r : Option Nat} (h : (w.drewN q).grownBy w' r) : w.grownBy w' r := ⟨h.os, h.tape, h.output, h.size, h.block⟩
theorem only_trans {a b c : World} {r : Option Nat} (h : a.grownBy b r) (k : b.grownBy c r) : a.grownBy c r :=
  ⟨k.os.trans h.os, k.tape.trans h.tape, k.output.trans h.output, Nat.le_trans h.size k.size, fun i hi hr => (k.block i (Nat.lt_of_lt_of_le hi h.size) hr).trans (h.block i hi hr)⟩
end Go.Proofs.YtndjggabdajbfaaGreatDoor


