/- Parts one behind the other: What slices.Clone answers of cells and of texts: the same in memory of one's own; Plain: the parts of colours, how far they are, the nearest one, a colour by such as there are; What color.Parts answers of any colour; What a row's list of tables says of the world: an array of arrays of integers, an array of integers, wherever they stand on the list; The four tables, out of what a row lists; a world that holds them, for the witness; What color.Parts and color.Far answer of any colours; What color.To256, To16 and Fit answer of any colours. Conditions: as told at each. -/
import Derived.Test.YtipofokinjkclaaDoorPC13
import Derived.Test.YtipofokinjkclaaDoorPC3
import Derived.Laws.BitsLemmas
import Derived.Lib.LaidTab
import Derived.Test.YtipofokinjkclaaDoorRows
import Derived.Deep.DeepHandedRow

set_option linter.unusedVariables false
set_option linter.unusedSimpArgs false
/- What slices.Clone answers of cells and of texts: the same in memory of one's own. Conditions: what can be read; lengths that fit. -/
namespace Go.Proofs.YtipofokinjkclaaDoor
open Go Go.RowKit Go.Lib

set_option maxRecDepth 100000 in
set_option maxHeartbeats 1000000 in
theorem CloneC_c (A : Option Addr) (n c : Nat) (ds : List CeD) (w : World) (hn : ds.length = n) (hr : RdC w A ds) (hl : n ≤ 7000000000000) :
    Calls Tryd.prog 54 #[.slice A n c] w fun r w' => ∃ v, r = .returned v ∧ OwnC w' w.heap.size v ds ∧ Below w.heap.size w w' := by
  have HD := Lib.hid hn
  have HR := Lib.hid hr; clear hr hn
  cases A with
  | none =>
    have h0 : ds = [] := by
      rcases HR.out with h | ⟨_, _, h, _⟩
      · have := congrArg List.length h
        rw [cellsC_length] at this
        simp only [List.length_nil] at this
        exact List.eq_nil_of_length_eq_zero (by omega)
      · cases h
    subst h0
    have he : ∀ w : World, (binOp .eql 22 (.slice none n c) (.slice none 0 0)).run Tryd.prog w = .ok (.bool true) w := fun _ => rfl
    go_enter Tryd.func54, Tryd.ntmps54
    go_wp2_with (fail)
    go_ret
    exact ⟨_, rfl, OwnC.nil_ _ _, Below.refl _ _⟩
  | some a =>
    have O1 := Lib.hid (OwnC.made w)
    have k1 : Below w.heap.size w (w.alloc (.cells #[] 47)) := (Below.refl _ _).alloc (Nat.le_refl _) _
    have he : ∀ w : World, (binOp .eql 22 (.slice (some a) n c) (.slice none 0 0)).run Tryd.prog w = .ok (.bool false) w := fun _ => rfl
    go_enter Tryd.func54, Tryd.ntmps54
    go_wp2_with (first | (at_builtin; refine wpList_appC _ rfl (.tmp 5) (.tmp 6) rfl w.heap.size _ [] rfl O1.out (some a) n c ds rfl HD.out (Rd.below HR.out k1) (by simpa using hl) k1.size ?_; intro v2 w2 h2 h3 _; have H2 := Lib.hid h2; clear h2; have k2 := k1.grown h3 k1.size (fun k e => (World.ownsRow.lt O1.out k e).1); clear h3))
    go_ret
    exact ⟨_, rfl, by have := H2.out; simpa using this, k2⟩
set_option maxRecDepth 100000 in
set_option maxHeartbeats 1000000 in
theorem CloneT_c (A : Option Addr) (n c : Nat) (ds : List ByteArray) (w : World) (hn : ds.length = n) (hr : RdT w A ds) (hl : n ≤ 7000000000000) :
    Calls Tryd.prog 55 #[.slice A n c] w fun r w' => ∃ v, r = .returned v ∧ OwnT w' w.heap.size v ds ∧ Below w.heap.size w w' := by
  have HD := Lib.hid hn
  have HR := Lib.hid hr; clear hr hn
  cases A with
  | none =>
    have h0 : ds = [] := by
      rcases HR.out with h | ⟨_, _, h, _⟩
      · simpa [strV] using h
      · cases h
    subst h0
    have he : ∀ w : World, (binOp .eql 23 (.slice none n c) (.slice none 0 0)).run Tryd.prog w = .ok (.bool true) w := fun _ => rfl
    go_enter Tryd.func55, Tryd.ntmps55
    go_wp2_with (fail)
    go_ret
    exact ⟨_, rfl, World.ownsRow_nil _ _ _ _, Below.refl _ _⟩
  | some a =>
    have O1 := Lib.hid (OwnT.made w)
    have k1 : Below w.heap.size w (w.alloc (.cells #[] 9)) := (Below.refl _ _).alloc (Nat.le_refl _) _
    have he : ∀ w : World, (binOp .eql 23 (.slice (some a) n c) (.slice none 0 0)).run Tryd.prog w = .ok (.bool false) w := fun _ => rfl
    go_enter Tryd.func55, Tryd.ntmps55
    go_wp2_with (first | (at_builtin; refine wpList_appT _ rfl (.tmp 5) (.tmp 6) rfl w.heap.size _ [] rfl O1.out (some a) n c ds rfl HD.out (Rd.below HR.out k1) (by simp only [List.length_nil]; omega) k1.size ?_; intro v2 w2 h2 h3 _; have H2 := Lib.hid h2; clear h2; have k2 := k1.grown h3 k1.size (fun k e => (World.ownsRow.lt O1.out k e).1); clear h3))
    go_ret
    exact ⟨_, rfl, by have := H2.out; simpa using this, k2⟩
end Go.Proofs.YtipofokinjkclaaDoor

/- Plain: the parts of colours, how far they are, the nearest one, a colour by such as there are. Conditions: none. -/
namespace Go.Proofs.YtipofokinjkclaaDoor
open Go Go.Lib

def firstT : List (Int × Int × Int) := [(0, 0, 0), (205, 0, 0), (0, 205, 0), (205, 205, 0), (0, 0, 238), (205, 0, 205), (0, 205, 205), (229, 229, 229), (127, 127, 127), (255, 0, 0), (0, 255, 0), (255, 255, 0), (92, 92, 255), (255, 0, 255), (0, 255, 255), (255, 255, 255)]
def lvl (k : Int) : Int := if k = 0 then 0 else 55 + 40 * k
def partsT (i : Int) : Int × Int × Int :=
  if i < 16 then firstT.getD i.toNat (0, 0, 0) else if i < 232 then (lvl ((i - 16) / 36), lvl ((i - 16) / 6 % 6), lvl ((i - 16) % 6)) else (8 + 10 * (i - 232), 8 + 10 * (i - 232), 8 + 10 * (i - 232))
def partsI (c : Int) : Int × Int × Int := if 16777216 ≤ c then ((c - 16777216) / 65536, (c - 16777216) / 256 % 256, (c - 16777216) % 256) else partsT (c - 1)
def hasP (c : Int) : Bool := !(decide (c = 0)) && colMay c
def sq (x : Int) : Int := x * x
def farI (x y : Int) : Int :=
  if hasP x && hasP y then sq ((partsI x).1 - (partsI y).1) + sq ((partsI x).2.1 - (partsI y).2.1) + sq ((partsI x).2.2 - (partsI y).2.2) else -1
def nearK (c frm : Int) : Nat → Int × Int
  | 0 => (0, 0)
  | k + 1 => if (nearK c frm k).1 = 0 ∨ farI c (frm + k + 1) < (nearK c frm k).2 then (frm + k + 1, farI c (frm + k + 1)) else nearK c frm k
def nearR (c frm : Int) : Nat → Int
  | 0 => frm
  | k + 1 => if farI c (frm + k + 1) < farI c (nearR c frm k + 1) then frm + k else nearR c frm k
def nearI (c frm : Int) (n : Nat) : Int := nearR c frm n + 1
theorem nearR_in (c frm : Int) : ∀ k, frm ≤ nearR c frm k ∧ nearR c frm k ≤ frm + k
  | 0 => by simp [nearR]
  | k + 1 => by
    have := nearR_in c frm k
    rw [nearR]
    split <;> omega
theorem nearR_lt (c frm : Int) : ∀ k, nearR c frm (k + 1) ≤ frm + k
  | 0 => by rw [nearR]; simp [nearR]
  | k + 1 => by
    have := nearR_lt c frm k
    rw [nearR]
    split <;> omega
theorem nearK_R (c frm : Int) (h0 : 0 ≤ frm) : ∀ k, nearK c frm (k + 1) = (nearR c frm (k + 1) + 1, farI c (nearR c frm (k + 1) + 1))
  | 0 => by simp [nearK, nearR]
  | k + 1 => by
    have h1 := nearR_in c frm (k + 1)
    have hr : nearR c frm (k + 1 + 1) = if farI c (frm + ((k + 1 : Nat) : Int) + 1) < farI c (nearR c frm (k + 1) + 1) then frm + ((k + 1 : Nat) : Int) else nearR c frm (k + 1) := rfl
    rw [nearK, nearK_R c frm h0 k, hr]
    simp only
    by_cases h : farI c (frm + ((k + 1 : Nat) : Int) + 1) < farI c (nearR c frm (k + 1) + 1)
    · rw [if_pos (.inr h), if_pos h]
    · rw [if_neg (by rintro (q | q); omega; exact h q), if_neg h]
def isThree (c : Int) : Bool := decide (16777216 ≤ c) && decide (c ≤ 33554431)
def isTab (c : Int) : Bool := decide (17 ≤ c) && decide (c ≤ 256)
def to256I (c : Int) : Int := if isThree c then nearI c 16 240 else c
def to16I (c : Int) : Int := if isThree c || isTab c then nearI c 0 16 else c
def fitC (col tru : Bool) (c : Int) : Int := if (isThree c && tru) || (isTab c && col) then c else if isThree c && col then to256I c else to16I c
theorem near256 (c : Int) : 17 ≤ nearI c 16 240 ∧ nearI c 16 240 ≤ 256 := by
  have h1 := (nearR_in c 16 240).1
  have h2 : nearR c 16 240 ≤ 16 + (239 : Nat) := nearR_lt c 16 239
  unfold nearI
  omega
theorem near16 (c : Int) : 1 ≤ nearI c 0 16 ∧ nearI c 0 16 ≤ 16 := by
  have h1 := (nearR_in c 0 16).1
  have h2 : nearR c 0 16 ≤ 0 + (15 : Nat) := nearR_lt c 0 15
  unfold nearI
  omega
theorem isTab_iff (c : Int) : isTab c = true ↔ 17 ≤ c ∧ c ≤ 256 := by simp [isTab]
theorem isThree_iff (c : Int) : isThree c = true ↔ 16777216 ≤ c ∧ c ≤ 33554431 := by simp [isThree]
theorem colMay_iff (c : Int) : colMay c = true ↔ c ≤ 256 ∨ 16777216 ≤ c ∧ c ≤ 33554431 := by simp [colMay]
theorem not_three {c : Int} (h : c < 16777216) : isThree c = false := by
  rw [Bool.eq_false_iff]; intro e; have := (isThree_iff c).1 e; omega
theorem not_tab {c : Int} (h : c < 17 ∨ 256 < c) : isTab c = false := by
  rw [Bool.eq_false_iff]; intro e; have := (isTab_iff c).1 e; omega
theorem fitC_small (col tru : Bool) {c : Int} (h : c ≤ 16) : fitC col tru c = c := by
  rw [fitC, to16I, not_three (by omega), not_tab (.inl (by omega))]; simp
/-- Once is enough. -/
theorem fitC_twice (col tru : Bool) (c : Int) : fitC col tru (fitC col tru c) = fitC col tru c := by
  have n1 := near256 c
  have n2 := near16 c
  by_cases h : (isThree c && tru) || (isTab c && col)
  · have e : fitC col tru c = c := by rw [fitC, if_pos h]
    rw [e, e]
  · by_cases h2 : isThree c && col
    · have hc : col = true := by simp only [Bool.and_eq_true] at h2; exact h2.2
      have h3 : isThree c = true := by simp only [Bool.and_eq_true] at h2; exact h2.1
      have e : fitC col tru c = nearI c 16 240 := by rw [fitC, if_neg h, if_pos h2, to256I, if_pos h3]
      rw [e, fitC, if_pos (by rw [hc, (isTab_iff _).2 n1]; simp)]
    · have e : fitC col tru c = to16I c := by rw [fitC, if_neg h, if_neg h2]
      rw [e, to16I]
      split
      · exact fitC_small _ _ (by omega)
      · rename_i h3
        rw [e, to16I, if_neg h3]
/-- With all of them it stays. -/
theorem fitC_all (c : Int) : fitC true true c = c := by
  rw [fitC]
  split
  · rfl
  · rename_i h
    simp only [Bool.and_true, Bool.or_eq_true, not_or, Bool.not_eq_true] at h
    rw [if_neg (by simp [h.1]), to16I, if_neg (by simp [h.1, h.2])]
theorem fitC_may (col tru : Bool) {c : Int} (h : colMay c = true) : colMay (fitC col tru c) = true := by
  have n1 := near256 c
  have n2 := near16 c
  unfold fitC to256I to16I
  repeat' split
  all_goals first
    | exact h
    | exact (colMay_iff _).2 (.inl (by omega))
/-- The program's way. -/
theorem fitC_prog (col tru : Bool) (c : Int) : fitC col tru c =
    if decide (c ≤ 16) || (decide (16777216 ≤ c) && tru) || (decide (c < 16777216) && col) then c
    else if col then (if decide (c < 16777216) || !colMay c then c else (nearK c 16 240).1)
    else (if decide (c ≤ 16) || !colMay c then c else (nearK c 0 16).1) := by
  have e1 : (nearK c 16 240).1 = nearI c 16 240 := by rw [nearK_R c 16 (by decide) 239]; rfl
  have e2 : (nearK c 0 16).1 = nearI c 0 16 := by rw [nearK_R c 0 (by decide) 15]; rfl
  rw [e1, e2]
  have hcase : c ≤ 16 ∨ (17 ≤ c ∧ c ≤ 256) ∨ (257 ≤ c ∧ c < 16777216) ∨ (16777216 ≤ c ∧ c ≤ 33554431) ∨ 33554431 < c := by omega
  unfold fitC to256I to16I
  generalize nearI c 16 240 = x
  generalize nearI c 0 16 = y
  have go : ∀ (t3 tb cm b1 b2 b3 : Bool), isThree c = t3 → isTab c = tb → colMay c = cm → decide (c ≤ 16) = b1 → decide (16777216 ≤ c) = b2 → decide (c < 16777216) = b3 →
      ((t3, tb, cm, b1, b2, b3) = (false, false, true, true, false, true) ∨ (t3, tb, cm, b1, b2, b3) = (false, true, true, false, false, true) ∨ (t3, tb, cm, b1, b2, b3) = (false, false, false, false, false, true) ∨
       (t3, tb, cm, b1, b2, b3) = (true, false, true, false, true, false) ∨ (t3, tb, cm, b1, b2, b3) = (false, false, false, false, true, false)) := by
    intro t3 tb cm b1 b2 b3 h1 h2 h3 h4 h5 h6
    rcases hcase with h | h | h | h | h
    · left
      rw [← h1, ← h2, ← h3, ← h4, ← h5, ← h6, not_three (by omega), not_tab (.inl (by omega)), (colMay_iff c).2 (by omega), decide_eq_true h, decide_eq_false (by omega), decide_eq_true (by omega)]
    · right; left
      rw [← h1, ← h2, ← h3, ← h4, ← h5, ← h6, not_three (by omega), (isTab_iff c).2 h, (colMay_iff c).2 (by omega), decide_eq_false (by omega), decide_eq_false (by omega), decide_eq_true (by omega)]
    · right; right; left
      have e : colMay c = false := by rw [Bool.eq_false_iff]; intro q; have := (colMay_iff c).1 q; omega
      rw [← h1, ← h2, ← h3, ← h4, ← h5, ← h6, not_three (by omega), not_tab (.inr (by omega)), e, decide_eq_false (by omega), decide_eq_false (by omega), decide_eq_true (by omega)]
    · right; right; right; left
      rw [← h1, ← h2, ← h3, ← h4, ← h5, ← h6, (isThree_iff c).2 h, not_tab (.inr (by omega)), (colMay_iff c).2 (by omega), decide_eq_false (by omega), decide_eq_true (by omega), decide_eq_false (by omega)]
    · right; right; right; right
      have e : colMay c = false := by rw [Bool.eq_false_iff]; intro q; have := (colMay_iff c).1 q; omega
      have e2 : isThree c = false := by rw [Bool.eq_false_iff]; intro q; have := (isThree_iff c).1 q; omega
      rw [← h1, ← h2, ← h3, ← h4, ← h5, ← h6, e2, not_tab (.inr (by omega)), e, decide_eq_false (by omega), decide_eq_true (by omega), decide_eq_false (by omega)]
  have g := go _ _ _ _ _ _ rfl rfl rfl rfl rfl rfl
  generalize isThree c = t3 at g ⊢
  generalize isTab c = tb at g ⊢
  generalize colMay c = cm at g ⊢
  generalize decide (c ≤ 16) = b1 at g ⊢
  generalize decide (16777216 ≤ c) = b2 at g ⊢
  generalize decide (c < 16777216) = b3 at g ⊢
  rcases g with g | g | g | g | g <;> (simp only [Prod.mk.injEq] at g; obtain ⟨rfl, rfl, rfl, rfl, rfl, rfl⟩ := g; cases col <;> cases tru <;> rfl)
end Go.Proofs.YtipofokinjkclaaDoor

/- What color.Parts answers of any colour. Conditions: its tables lie where they were laid. -/
namespace Go.Proofs.YtipofokinjkclaaDoor
open Go Go.RowKit Go.Lib

theorem wraps_i64_62 (n : Int) (h₀ : 0 ≤ n) (h₁ : n < 2 ^ 62) : IntKind.i64.wrap n = n := by rw [IntKind.wrap_i64]; omega
theorem and255 (x : Int) (h0 : 0 ≤ x) (h1 : x < 4294967296) : bits BinOp.and .i64 x 255 = x % 256 := by
  have h := bits_mask .i64 62 (by decide) wraps_i64_62 8 (by decide) x h0 (by omega)
  simpa using h
/-- The colours' tables. -/
def firstV : List Value := firstT.flatMap fun p => [.int .u8 p.1, .int .u8 p.2.1, .int .u8 p.2.2]
def levelV : List Value := [0, 95, 135, 175, 215, 255].map fun z => Value.int .i64 z
def TabC (w : World) : Prop := TabAt w 2 firstV ∧ TabAt w 3 levelV
theorem TabC.below {w w' : World} {B : Nat} (h : TabC w) (hb : Below B w w') (hB : 3 < B) : TabC w' := ⟨h.1.below hb (by omega), h.2.below hb hB⟩
theorem TabC.next {w w' : World} (h : TabC w) (hb : Below w.heap.size w w') : TabC w' := h.below hb h.2.1
theorem firstV_at (i : Nat) (hi : i < 16) : firstV[i * 3]? = some (.int .u8 (firstT.getD i (0, 0, 0)).1) ∧ firstV[i * 3 + 1]? = some (.int .u8 (firstT.getD i (0, 0, 0)).2.1) ∧ firstV[i * 3 + 2]? = some (.int .u8 (firstT.getD i (0, 0, 0)).2.2) := by
  match i, hi with
  | 0, _ => exact ⟨rfl, rfl, rfl⟩
  | 1, _ => exact ⟨rfl, rfl, rfl⟩
  | 2, _ => exact ⟨rfl, rfl, rfl⟩
  | 3, _ => exact ⟨rfl, rfl, rfl⟩
  | 4, _ => exact ⟨rfl, rfl, rfl⟩
  | 5, _ => exact ⟨rfl, rfl, rfl⟩
  | 6, _ => exact ⟨rfl, rfl, rfl⟩
  | 7, _ => exact ⟨rfl, rfl, rfl⟩
  | 8, _ => exact ⟨rfl, rfl, rfl⟩
  | 9, _ => exact ⟨rfl, rfl, rfl⟩
  | 10, _ => exact ⟨rfl, rfl, rfl⟩
  | 11, _ => exact ⟨rfl, rfl, rfl⟩
  | 12, _ => exact ⟨rfl, rfl, rfl⟩
  | 13, _ => exact ⟨rfl, rfl, rfl⟩
  | 14, _ => exact ⟨rfl, rfl, rfl⟩
  | 15, _ => exact ⟨rfl, rfl, rfl⟩
  | n + 16, hi => omega
theorem TabAt.at_ {w : World} {g : Nat} {vs : List Value} (h : TabAt w g vs) {i : Nat} {v : Value} (hv : vs[i]? = some v) : w.cell? ⟨g, i, none⟩ = some v := by
  obtain ⟨hj, e⟩ := List.getElem?_eq_some_iff.1 hv
  rw [h.2 i hj, e]
theorem first_cells {w : World} (h : TabC w) (i : Nat) (hi : i < 16) :
    w.cell? ⟨2, i * 3, none⟩ = some (.int .u8 (firstT.getD i (0, 0, 0)).1) ∧ w.cell? ⟨2, i * 3 + 1, none⟩ = some (.int .u8 (firstT.getD i (0, 0, 0)).2.1) ∧ w.cell? ⟨2, i * 3 + 2, none⟩ = some (.int .u8 (firstT.getD i (0, 0, 0)).2.2) := by
  obtain ⟨a, b, c⟩ := firstV_at i hi
  exact ⟨h.1.at_ a, h.1.at_ b, h.1.at_ c⟩
theorem levelV_at (i : Nat) (hi : i < 6) : levelV[i]? = some (.int .i64 (lvl i)) := by
  match i, hi with
  | 0, _ => rfl
  | 1, _ => rfl
  | 2, _ => rfl
  | 3, _ => rfl
  | 4, _ => rfl
  | 5, _ => rfl
  | n + 6, hi => omega
theorem level_cells {w : World} (h : TabC w) (i : Nat) (hi : i < 6) : w.cell? ⟨3, i, none⟩ = some (.int .i64 (lvl i)) := h.2.at_ (levelV_at i hi)
/-- Parts' answer. -/
def partsV (c : Int) : Value := if hasP c then .tuple #[.int .i64 (partsI c).1, .int .i64 (partsI c).2.1, .int .i64 (partsI c).2.2, .bool true] else .tuple #[.int .i64 0, .int .i64 0, .int .i64 0, .bool false]
set_option maxRecDepth 100000 in
set_option maxHeartbeats 16000000 in
theorem parts3_c (c : Int) (w : World) (h0 : 16777216 ≤ c) (h1 : c ≤ 33554431) :
    Calls Tryd.prog 150 #[.int .u32 c] w fun e w' => e = .returned (.tuple #[.int .i64 (partsI c).1, .int .i64 (partsI c).2.1, .int .i64 (partsI c).2.2, .bool true]) ∧ w' = w := by
  have d0 : (c == 0) = false := by rw [beq_eq_false_iff_ne]; omega
  have d1 : decide (16777216 ≤ c) = true := decide_eq_true h0
  have hm : colMay c = true := (colMay_iff c).2 (.inr ⟨h0, h1⟩)
  have HM := Lib.hid hm
  have ep : partsI c = ((c - 16777216) / 65536, (c - 16777216) / 256 % 256, (c - 16777216) % 256) := by rw [partsI, if_pos h0]
  have hR : (partsI c).1 = bits BinOp.and .i64 (c / 65536) 255 ∧ (partsI c).2.1 = bits BinOp.and .i64 (c / 256) 255 ∧ (partsI c).2.2 = bits BinOp.and .i64 c 255 := by
    rw [and255 _ (by omega) (by omega), and255 _ (by omega) (by omega), and255 _ (by omega) (by omega), ep]
    dsimp only
    refine ⟨?_, ?_, ?_⟩ <;> omega
  rw [hR.1, hR.2.1, hR.2.2]
  clear hm ep hR
  go_enter Tryd.func150, Tryd.ntmps150
  go_wp2_with (go_at_call 143; (with_reducible refine (ColorMay_c c w).mono ?_); rintro _ _ ⟨rfl, rfl⟩; rw [HM.out])
  refine bodyPost_ret (v := .tuple #[_, _, _, _]) (by simp [results, Tryd.results150]; exact ⟨rfl, rfl, rfl, rfl⟩) rfl ?_
  exact ⟨rfl, rfl⟩
set_option maxRecDepth 100000 in
set_option maxHeartbeats 16000000 in
theorem partsN_c (c : Int) (w : World) (hc : 0 ≤ c) (h : hasP c = false) :
    Calls Tryd.prog 150 #[.int .u32 c] w fun e w' => e = .returned (.tuple #[.int .i64 0, .int .i64 0, .int .i64 0, .bool false]) ∧ w' = w := by
  by_cases h0 : c = 0
  · subst h0
    clear h hc
    go_enter Tryd.func150, Tryd.ntmps150
    go_wp2_with (fail)
    refine bodyPost_ret (v := .tuple #[_, _, _, _]) (by simp [results, Tryd.results150]; exact ⟨rfl, rfl, rfl, rfl⟩) rfl ?_
    exact ⟨rfl, rfl⟩
  · have d0 : (c == 0) = false := beq_eq_false_iff_ne.2 h0
    have hm : colMay c = false := by unfold hasP at h; simpa [h0] using h
    have HM := Lib.hid hm
    clear h hm h0
    go_enter Tryd.func150, Tryd.ntmps150
    go_wp2_with (go_at_call 143; (with_reducible refine (ColorMay_c c w).mono ?_); rintro _ _ ⟨rfl, rfl⟩; rw [HM.out])
    refine bodyPost_ret (v := .tuple #[_, _, _, _]) (by simp [results, Tryd.results150]; exact ⟨rfl, rfl, rfl, rfl⟩) rfl ?_
    exact ⟨rfl, rfl⟩
set_option maxRecDepth 100000 in
set_option maxHeartbeats 16000000 in
theorem partsG_c (c : Int) (w : World) (h0 : 233 ≤ c) (h1 : c ≤ 256) :
    Calls Tryd.prog 150 #[.int .u32 c] w fun e w' => e = .returned (.tuple #[.int .i64 (partsI c).1, .int .i64 (partsI c).2.1, .int .i64 (partsI c).2.2, .bool true]) ∧ w' = w := by
  have d0 : (c == 0) = false := by rw [beq_eq_false_iff_ne]; omega
  have d1 : decide (16777216 ≤ c) = false := decide_eq_false (by omega)
  have d2 : decide (c - 1 < 16) = false := decide_eq_false (by omega)
  have d3 : decide (c - 1 < 232) = false := decide_eq_false (by omega)
  have hm : colMay c = true := (colMay_iff c).2 (.inl h1)
  have HM := Lib.hid hm
  have ep : partsI c = (8 + 10 * (c - 1 - 232), 8 + 10 * (c - 1 - 232), 8 + 10 * (c - 1 - 232)) := by rw [partsI, if_neg (by omega), partsT, if_neg (by omega), if_neg (by omega)]
  rw [ep]
  clear hm ep
  go_enter Tryd.func150, Tryd.ntmps150
  go_wp2_with (go_at_call 143; (with_reducible refine (ColorMay_c c w).mono ?_); rintro _ _ ⟨rfl, rfl⟩; rw [HM.out])
  refine bodyPost_ret (v := .tuple #[_, _, _, _]) (by simp [results, Tryd.results150]; exact ⟨rfl, rfl, rfl, rfl⟩) rfl ?_
  exact ⟨rfl, rfl⟩
set_option maxRecDepth 100000 in
set_option maxHeartbeats 16000000 in
theorem partsF_c (c : Int) (w : World) (h0 : 1 ≤ c) (h1 : c ≤ 16) (hT : TabC w) :
    Calls Tryd.prog 150 #[.int .u32 c] w fun e w' => e = .returned (.tuple #[.int .i64 (partsI c).1, .int .i64 (partsI c).2.1, .int .i64 (partsI c).2.2, .bool true]) ∧ Below w.heap.size w w' := by
  obtain ⟨i, ei⟩ : ∃ i : Nat, c = (i : Int) + 1 := ⟨(c - 1).toNat, by omega⟩
  subst ei
  have hi : i < 16 := by omega
  have d0 : ((i : Int) + 1 == 0) = false := by rw [beq_eq_false_iff_ne]; omega
  have d1 : decide (16777216 ≤ (i : Int) + 1) = false := decide_eq_false (by omega)
  have d2 : decide ((i : Int) + 1 - 1 < 16) = true := decide_eq_true (by omega)
  have d2' : decide ((i : Int) < 16) = true := decide_eq_true (by omega)
  have d4 : (i : Int) + 1 - 1 = (i : Int) := by omega
  have hm : colMay ((i : Int) + 1) = true := (colMay_iff _).2 (.inl (by omega))
  have HM := Lib.hid hm
  have ep : partsI ((i : Int) + 1) = firstT.getD i (0, 0, 0) := by rw [partsI, if_neg (by omega), partsT, d4, if_pos (by omega)]; rfl
  rw [ep]
  obtain ⟨c0, c1, c2⟩ := first_cells hT i hi
  have hb : ∀ p ∈ firstT, 0 ≤ p.1 ∧ p.1 < 256 ∧ 0 ≤ p.2.1 ∧ p.2.1 < 256 ∧ 0 ≤ p.2.2 ∧ p.2.2 < 256 := by decide
  have hb' := hb (firstT.getD i (0, 0, 0)) (by rw [List.getD_eq_getElem?_getD, List.getElem?_eq_getElem (show i < firstT.length from hi)]; exact List.getElem_mem _)
  obtain ⟨P, eP⟩ : ∃ P, firstT.getD i (0, 0, 0) = P := ⟨_, rfl⟩
  rw [eP] at c0 c1 c2 hb' ⊢
  obtain ⟨p1, p2, p3⟩ := P
  simp only at c0 c1 c2 hb' ⊢
  obtain ⟨b1, b2, b3, b4, b5, b6⟩ := hb'
  have kb : Below w.heap.size w w := Below.refl _ _
  clear hm ep hb eP
  go_enter Tryd.func150, Tryd.ntmps150
  go_wp2_with (go_at_call 143; (with_reducible refine (ColorMay_c _ w).mono ?_); rintro _ _ ⟨rfl, rfl⟩; rw [HM.out])
  go_quiet (fail)
  go_wp2_with (fail)
  refine bodyPost_ret (v := .tuple #[_, _, _, _]) (by simp [results, Tryd.results150]; exact ⟨rfl, rfl, rfl, rfl⟩) rfl ?_
  exact ⟨rfl, below_drewN kb _⟩
set_option maxRecDepth 100000 in
set_option maxHeartbeats 16000000 in
theorem partsM_c (c : Int) (w : World) (h0 : 17 ≤ c) (h1 : c ≤ 232) (hT : TabC w) :
    Calls Tryd.prog 150 #[.int .u32 c] w fun e w' => e = .returned (.tuple #[.int .i64 (partsI c).1, .int .i64 (partsI c).2.1, .int .i64 (partsI c).2.2, .bool true]) ∧ Below w.heap.size w w' := by
  obtain ⟨i, ei⟩ : ∃ i : Nat, c = (i : Int) + 17 := ⟨(c - 17).toNat, by omega⟩
  subst ei
  have hi : i < 216 := by omega
  have d0 : ((i : Int) + 17 == 0) = false := by rw [beq_eq_false_iff_ne]; omega
  have d1 : decide (16777216 ≤ (i : Int) + 17) = false := decide_eq_false (by omega)
  have d2 : decide ((i : Int) + 17 - 1 < 16) = false := decide_eq_false (by omega)
  have d3 : decide ((i : Int) + 17 - 1 < 232) = true := decide_eq_true (by omega)
  have hm : colMay ((i : Int) + 17) = true := (colMay_iff _).2 (.inl (by omega))
  have HM := Lib.hid hm
  have e17 : (i : Int) + 17 - 1 - 16 = (i : Int) := by omega
  have ep : partsI ((i : Int) + 17) = (lvl ((i / 36 : Nat) : Int), lvl ((i / 6 % 6 : Nat) : Int), lvl ((i % 6 : Nat) : Int)) := by
    rw [partsI, if_neg (by omega), partsT, if_neg (by omega), if_pos (by omega), e17]
    simp
  rw [ep]
  have c0 := level_cells hT (i / 36) (by omega)
  have c1 := level_cells hT (i / 6 % 6) (by omega)
  have c2 := level_cells hT (i % 6) (by omega)
  obtain ⟨p1, e1⟩ : ∃ p, lvl ((i / 36 : Nat) : Int) = p := ⟨_, rfl⟩
  obtain ⟨p2, e2⟩ : ∃ p, lvl ((i / 6 % 6 : Nat) : Int) = p := ⟨_, rfl⟩
  obtain ⟨p3, e3⟩ : ∃ p, lvl ((i % 6 : Nat) : Int) = p := ⟨_, rfl⟩
  rw [e1] at c0 ⊢
  rw [e2] at c1 ⊢
  rw [e3] at c2 ⊢
  have kb : Below w.heap.size w w := Below.refl _ _
  clear hm ep e1 e2 e3
  go_enter Tryd.func150, Tryd.ntmps150
  go_wp2_with (go_at_call 143; (with_reducible refine (ColorMay_c _ w).mono ?_); rintro _ _ ⟨rfl, rfl⟩; rw [HM.out])
  have l0 : (i / 36 : Nat) < 6 := by omega
  have l1 : (i / 6 % 6 : Nat) < 6 := by omega
  have l2 : (i % 6 : Nat) < 6 := by omega
  go_quiet (fail)
  go_wp2_with (fail)
  refine bodyPost_ret (v := .tuple #[_, _, _, _]) (by simp [results, Tryd.results150]; exact ⟨rfl, rfl, rfl, rfl⟩) rfl ?_
  exact ⟨rfl, below_drewN kb _⟩
end Go.Proofs.YtipofokinjkclaaDoor

/- What a row's list of tables says of the world: an array of arrays of integers, an array of integers, wherever they stand on the list. Conditions: none. -/
namespace Go.Proofs.YtipofokinjkclaaDoor
open Go Go.RowKit Go.Lib

theorem rows_cells {α : Type} (f : α → Value) (m : Nat) : ∀ (rows : List (List α)) (cs : List Value), cs.length = rows.length * m → (∀ i (h : i < rows.length), (cs.drop (i * m)).take m = rows[i].map f) → cs = rows.flatMap fun r => r.map f
  | [], cs, hl, _ => by
    have : cs = [] := List.eq_nil_of_length_eq_zero (by simpa using hl)
    rw [this]; rfl
  | r :: rs, cs, hl, h => by
    have h0 := h 0 (by simp)
    rw [Nat.zero_mul, List.drop_zero] at h0
    have hl2 : cs.length = rs.length * m + m := by rw [hl, List.length_cons, Nat.add_mul, Nat.one_mul]
    have ih := rows_cells f m rs (cs.drop m) (by rw [List.length_drop]; omega) (fun i hi => by
      have := h (i + 1) (by simpa using hi)
      rw [Nat.add_mul, Nat.one_mul] at this
      rw [List.drop_drop, Nat.add_comm m]
      exact this)
    show cs = r.map f ++ rs.flatMap fun r => r.map f
    rw [← ih]
    have h0' : cs.take m = r.map f := h0
    rw [← h0', List.take_append_drop]
section
variable {H : Type} {enc : TypeId × Value → H} {P : Program} {w : World} {base : Nat} {sp : Nat → Bool} {held : Bool}
theorem cells_of_rows {fuel : Nat} {t e i : TypeId} {n m : Nat} {k : IntKind} {cs : List Value} {rows : List (List Int)} {p : List MemPlace} (ht : P.underlying t = some (.array n e)) (he : P.underlying e = some (.array m i)) (hi : P.underlying i = some (.int k))
    (hci : P.cellsOf i = 1) (hce : P.cellsOf e = m) (hct : P.cellsOf t = n * m) (h : DataW.trod enc P w base sp held fuel t cs = some (.agg (rows.map (tabData k)), p)) : cs = rows.flatMap fun r => r.map fun z => Value.int k z := by
  cases fuel with
  | zero => simp [DataW.trod] at h
  | succ fuel =>
    simp only [DataW.trod, ht, hce] at h
    split at h
    · rename_i hl
      obtain ⟨xs, hm, hx⟩ := Option.map_eq_some_iff.1 h
      have hds : xs.map (·.1) = rows.map (tabData k) := by
        have := congrArg Prod.fst hx
        simpa using this
      have hxl : xs.length = n := by
        have := mapM_length hm
        rw [List.length_range] at this
        exact this
      have hrl : rows.length = n := by
        have := congrArg List.length hds
        simp at this
        omega
      have hcl : cs.length = n * m := by
        first
          | (rw [hct] at hl; exact hl)
          | (rw [hct] at hl; exact of_decide_eq_true hl)
          | (simpa [hct] using hl)
      refine rows_cells _ m rows cs (by rw [hrl]; exact hcl) (fun j hj => ?_)
      obtain ⟨b, hb, hf⟩ := mapM_at hm j j (by rw [List.getElem?_eq_getElem (by rw [List.length_range]; omega), List.getElem_range])
      have h2 : (xs.map (·.1))[j]? = some b.1 := by simp [hb]
      rw [hds, List.getElem?_map, List.getElem?_eq_getElem hj] at h2
      have h3 : tabData k rows[j] = b.1 := by simpa using h2
      have hf' : DataW.trod enc P w base sp held fuel e ((cs.drop (j * m)).take m) = some (tabData k rows[j], b.2) := by
        rw [h3]; exact hf
      exact cells_of_tab he hi hci hce hf'
    · cases h
end
/-- What a listed variable reads as. -/
theorem reads_of {P : Program} {w : World} : ∀ {l : List (String × DataW Unit)} {ps : List MemPlace}, DataW.LaidVars P w l ps → ∀ n d, (n, d) ∈ l →
    ∃ g t cs fuel p, P.globalNamed n = some g ∧ (P.globals[g]?).map (·.type) = some t ∧ w.var? P n = some cs ∧ DataW.trod (fun _ => ()) P w 0 (fun _ => true) false fuel t cs.toList = some (d, p)
  | [], _, _, _, _, hm => by cases hm
  | (n', d') :: r, ps, h, n, d, hm => by
    obtain ⟨g, t, cs, fuel, p, q, h1, h2, h3, h4, h5, _⟩ := h
    rcases List.mem_cons.1 hm with e | e
    · cases e
      exact ⟨g, t, cs, fuel, p, h1, h2, h3, h4⟩
    · exact reads_of h5 n d e
theorem tabAt_of {P : Program} {w : World} {n : String} {g : Nat} {cs : Array Value} {vs : List Value} (hg : P.globalNamed n = some g) (hv : w.var? P n = some cs) (hc : cs.toList = vs) (h0 : 0 < vs.length) : TabAt w g vs := by
  have hcell : ∀ i (h : i < vs.length), w.cell? ⟨g, i, none⟩ = some vs[i] := by
    intro i hi
    rw [World.var?_cell hg hv i]
    subst hc
    simp [List.getElem?_eq_getElem hi]
  exact ⟨World.block_lt_of_cell? w ⟨g, 0, none⟩ (hcell 0 h0), hcell⟩
theorem tab_rows {P : Program} {w : World} {l : List (String × DataW Unit)} {name : String} {g : Nat} {t e i : TypeId} {n m : Nat} {k : IntKind} {rows : List (List Int)} {vs : List Value} (h : laidMet P l w) (hm : (name, .agg (rows.map (tabData k))) ∈ l)
    (hg : P.globalNamed name = some g) (hty : (P.globals[g]?).map (·.type) = some t) (ht : P.underlying t = some (.array n e)) (he : P.underlying e = some (.array m i)) (hi : P.underlying i = some (.int k)) (hci : P.cellsOf i = 1) (hce : P.cellsOf e = m) (hct : P.cellsOf t = n * m)
    (hvs : (rows.flatMap fun r => r.map fun z => Value.int k z) = vs) (h0 : 0 < vs.length) : TabAt w g vs := by
  obtain ⟨ps, hl, _⟩ := h
  obtain ⟨g', t', cs, fuel, p, q1, q2, q3, q4⟩ := reads_of hl _ _ hm
  obtain rfl := Option.some.inj (hg.symm.trans q1)
  obtain rfl := Option.some.inj (hty.symm.trans q2)
  exact tabAt_of hg q3 ((cells_of_rows ht he hi hci hce hct q4).trans hvs) h0
theorem tab_ints {P : Program} {w : World} {l : List (String × DataW Unit)} {name : String} {g : Nat} {t e : TypeId} {n : Nat} {k : IntKind} {zs : List Int} {vs : List Value} (h : laidMet P l w) (hm : (name, tabData k zs) ∈ l)
    (hg : P.globalNamed name = some g) (hty : (P.globals[g]?).map (·.type) = some t) (ht : P.underlying t = some (.array n e)) (he : P.underlying e = some (.int k)) (hce : P.cellsOf e = 1) (hct : P.cellsOf t = n)
    (hvs : (zs.map fun z => Value.int k z) = vs) (h0 : 0 < vs.length) : TabAt w g vs := by
  obtain ⟨ps, hl, _⟩ := h
  obtain ⟨g', t', cs, fuel, p, q1, q2, q3, q4⟩ := reads_of hl _ _ hm
  obtain rfl := Option.some.inj (hg.symm.trans q1)
  obtain rfl := Option.some.inj (hty.symm.trans q2)
  exact tabAt_of hg q3 ((cells_of_tab ht he hce hct q4).trans hvs) h0
end Go.Proofs.YtipofokinjkclaaDoor

/- The four tables, out of what a row lists; a world that holds them, for the witness. Conditions: none. -/
namespace Go.Proofs.YtipofokinjkclaaDoor
open Go Go.RowKit Go.ChangeShapes Go.WideShapes

theorem laid_none : (Rows.laid_spyglass_utf_none : DataW Unit) = .agg ((noneL.map fun p => [p.1, p.2]).map (Lib.tabData .i32)) := by kernel_rfl
theorem laid_wide : (Rows.laid_spyglass_utf_wide : DataW Unit) = .agg ((wideL.map fun p => [p.1, p.2]).map (Lib.tabData .i32)) := by kernel_rfl
theorem laid_first : (Rows.laid_spyglass_color_first : DataW Unit) = .agg ((firstT.map fun p => [p.1, p.2.1, p.2.2]).map (Lib.tabData .u8)) := by kernel_rfl
theorem laid_levels : (Rows.laid_spyglass_color_levels : DataW Unit) = Lib.tabData .i64 [0, 95, 135, 175, 215, 255] := by kernel_rfl
theorem tabU_met {l : List (String × DataW Unit)} {W : World} (h : laidMet Tryd.prog l W) (h0 : ("spyglass/utf.none", Rows.laid_spyglass_utf_none) ∈ l) (h1 : ("spyglass/utf.wide", Rows.laid_spyglass_utf_wide) ∈ l) : TabU W := by
  rw [laid_none] at h0
  rw [laid_wide] at h1
  exact ⟨tab_rows h h0 (by kernel_rfl) (t := 128) (by kernel_rfl) Tryd.underlying128 Tryd.underlying127 Tryd.underlying21 (by kernel_rfl) (by kernel_rfl) (by kernel_rfl) (by kernel_rfl) (by decide),
    tab_rows h h1 (by kernel_rfl) (t := 129) (by kernel_rfl) Tryd.underlying129 Tryd.underlying127 Tryd.underlying21 (by kernel_rfl) (by kernel_rfl) (by kernel_rfl) (by kernel_rfl) (by decide)⟩
theorem tabC_met {l : List (String × DataW Unit)} {W : World} (h : laidMet Tryd.prog l W) (h0 : ("spyglass/color.first", Rows.laid_spyglass_color_first) ∈ l) (h1 : ("spyglass/color.levels", Rows.laid_spyglass_color_levels) ∈ l) : TabC W := by
  rw [laid_first] at h0
  rw [laid_levels] at h1
  exact ⟨tab_rows h h0 (by kernel_rfl) (t := 177) (by kernel_rfl) Tryd.underlying177 Tryd.underlying176 Tryd.underlying5 (by kernel_rfl) (by kernel_rfl) (by kernel_rfl) (by kernel_rfl) (by decide),
    tab_ints h h1 (by kernel_rfl) (t := 178) (by kernel_rfl) Tryd.underlying178 Tryd.underlying3 (by kernel_rfl) (by kernel_rfl) (by kernel_rfl) (by decide)⟩
theorem tabs2_of {W : World} (h : laidMetH Tryd.prog [("spyglass/utf.none", Rows.laid_spyglass_utf_none), ("spyglass/utf.wide", Rows.laid_spyglass_utf_wide)] W) : TabU W :=
  tabU_met (show laidMet Tryd.prog [("spyglass/utf.none", Rows.laid_spyglass_utf_none), ("spyglass/utf.wide", Rows.laid_spyglass_utf_wide)] W from h) (by simp) (by simp)
theorem tabs4_of {W : World} (h : laidMetH Tryd.prog [("spyglass/utf.none", Rows.laid_spyglass_utf_none), ("spyglass/utf.wide", Rows.laid_spyglass_utf_wide), ("spyglass/color.first", Rows.laid_spyglass_color_first), ("spyglass/color.levels", Rows.laid_spyglass_color_levels)] W) : TabU W ∧ TabC W :=
  have h' : laidMet Tryd.prog [("spyglass/utf.none", Rows.laid_spyglass_utf_none), ("spyglass/utf.wide", Rows.laid_spyglass_utf_wide), ("spyglass/color.first", Rows.laid_spyglass_color_first), ("spyglass/color.levels", Rows.laid_spyglass_color_levels)] W := h
  ⟨tabU_met h' (by simp) (by simp), tabC_met h' (by simp) (by simp)⟩

def setRow0 (cs : Array Value) : Obj → Obj
  | .cells _ t frozen => .cells cs t frozen
  | o => o
/-- A world for the witness: the settled one, the tables holding what their initialisers lay. -/
noncomputable def laidWorld (os : Os) : World :=
  { World.holding Tryd.prog os ⟨#[], #[], []⟩ with heap := ((((World.holding Tryd.prog os ⟨#[], #[], []⟩).heap.modify 0 (setRow0 (rngV noneL).toArray)).modify 1 (setRow0 (rngV wideL).toArray)).modify 2 (setRow0 firstV.toArray)).modify 3 (setRow0 levelV.toArray) }
end Go.Proofs.YtipofokinjkclaaDoor

/- What color.Parts and color.Far answer of any colours. Conditions: the tables lie where they were laid. -/
namespace Go.Proofs.YtipofokinjkclaaDoor
open Go Go.RowKit Go.Lib

theorem hasP_iff (c : Int) : hasP c = true ↔ c ≠ 0 ∧ colMay c = true := by
  unfold hasP
  simp
theorem Parts_c (c : Int) (w : World) (hc : 0 ≤ c) (hT : TabC w) :
    Calls Tryd.prog 150 #[.int .u32 c] w fun e w' => e = .returned (partsV c) ∧ Below w.heap.size w w' := by
  unfold partsV
  cases h : hasP c
  · refine (partsN_c c w hc h).mono ?_
    rintro e w' ⟨rfl, rfl⟩
    exact ⟨rfl, Below.refl _ _⟩
  · have h2 := (hasP_iff c).1 h
    have h3 := (colMay_iff c).1 h2.2
    simp only [if_true]
    by_cases h4 : c ≤ 16
    · exact partsF_c c w (by omega) h4 hT
    by_cases h5 : c ≤ 232
    · exact partsM_c c w (by omega) h5 hT
    by_cases h6 : c ≤ 256
    · refine (partsG_c c w (by omega) h6).mono ?_
      rintro e w' ⟨rfl, rfl⟩
      exact ⟨rfl, Below.refl _ _⟩
    · refine (parts3_c c w (by omega) (by omega)).mono ?_
      rintro e w' ⟨rfl, rfl⟩
      exact ⟨rfl, Below.refl _ _⟩
/-- Parts are bytes. -/
def byteI (x : Int) : Prop := 0 ≤ x ∧ x ≤ 255
theorem partsI_byte (c : Int) (h : hasP c = true) (h0 : 0 ≤ c) : byteI (partsI c).1 ∧ byteI (partsI c).2.1 ∧ byteI (partsI c).2.2 := by
  have h2 := (hasP_iff c).1 h
  have h3 := (colMay_iff c).1 h2.2
  have hb : ∀ p ∈ firstT, 0 ≤ p.1 ∧ p.1 ≤ 255 ∧ 0 ≤ p.2.1 ∧ p.2.1 ≤ 255 ∧ 0 ≤ p.2.2 ∧ p.2.2 ≤ 255 := by decide
  unfold partsI byteI
  split
  · dsimp only; omega
  · unfold partsT
    split
    · have := hb (firstT.getD (c - 1).toNat (0, 0, 0)) (by rw [List.getD_eq_getElem?_getD, List.getElem?_eq_getElem (show (c - 1).toNat < firstT.length by show _ < 16; omega)]; exact List.getElem_mem _)
      exact ⟨⟨this.1, this.2.1⟩, ⟨this.2.2.1, this.2.2.2.1⟩, this.2.2.2.2⟩
    · split
      · have lv : ∀ k : Int, 0 ≤ k → k ≤ 5 → 0 ≤ lvl k ∧ lvl k ≤ 255 := by intro k h1 h2; unfold lvl; split <;> omega
        exact ⟨lv _ (by omega) (by omega), lv _ (by omega) (by omega), lv _ (by omega) (by omega)⟩
      · dsimp only; omega
theorem sq_byte {x y : Int} (hx : byteI x) (hy : byteI y) : 0 ≤ (x - y) * (x - y) ∧ (x - y) * (x - y) ≤ 65025 := by
  obtain ⟨h1, h2⟩ := hx
  obtain ⟨h3, h4⟩ := hy
  have h : (x - y) * (x - y) = ((x - y).natAbs * (x - y).natAbs : Nat) := by rw [Int.natCast_mul, Int.natAbs_mul_self']
  have h5 : (x - y).natAbs ≤ 255 := by omega
  have h6 : (x - y).natAbs * (x - y).natAbs ≤ 255 * 255 := Nat.mul_le_mul h5 h5
  rw [h]
  omega
set_option maxRecDepth 100000 in
set_option maxHeartbeats 16000000 in
theorem Far_c (x y : Int) (w : World) (hx : 0 ≤ x) (hy : 0 ≤ y) (hT : TabC w) :
    Calls Tryd.prog 148 #[.int .u32 x, .int .u32 y] w fun e w' => e = .returned (.int .i64 (farI x y)) ∧ Below w.heap.size w w' := by
  have HT := Lib.hid hT
  clear hT
  obtain ⟨R, eR⟩ : ∃ R, farI x y = R := ⟨_, rfl⟩
  rw [eR]
  cases hp : hasP x
  · have HR : Hid (R = -1) := Lib.hid (by rw [← eR]; unfold farI; rw [hp]; rfl)
    have P1 : Hid (partsV x = .tuple #[.int .i64 0, .int .i64 0, .int .i64 0, .bool false]) := Lib.hid (by unfold partsV; rw [hp]; rfl)
    cases hq : hasP y
    · have P2 : Hid (partsV y = .tuple #[.int .i64 0, .int .i64 0, .int .i64 0, .bool false]) := Lib.hid (by unfold partsV; rw [hq]; rfl)
      clear eR hp hq
      go_enter Tryd.func148, Tryd.ntmps148
      go_wp2_with (first
        | (go_at_call 150; (with_reducible refine (Parts_c x w hx HT.out).mono ?_); rintro _ w1 ⟨rfl, hb1⟩; rw [P1.out]; have HB1 := Lib.hid hb1; have HT1 := Lib.hid (HT.out.next hb1); clear hb1)
        | (go_at_call 150; (with_reducible refine (Parts_c y w1 hy HT1.out).mono ?_); rintro _ w2 ⟨rfl, hb2⟩; rw [P2.out]; have HB2 := Lib.hid (HB1.out.trans (hb2.mono HB1.out.size)); clear hb2))
      go_ret
      exact ⟨by rw [HR.out] <;> rfl, HB2.out⟩
    · have P2 : Hid (partsV y = .tuple #[.int .i64 (partsI y).1, .int .i64 (partsI y).2.1, .int .i64 (partsI y).2.2, .bool true]) := Lib.hid (by unfold partsV; rw [hq]; rfl)
      clear eR hp hq
      go_enter Tryd.func148, Tryd.ntmps148
      go_wp2_with (first
        | (go_at_call 150; (with_reducible refine (Parts_c x w hx HT.out).mono ?_); rintro _ w1 ⟨rfl, hb1⟩; rw [P1.out]; have HB1 := Lib.hid hb1; have HT1 := Lib.hid (HT.out.next hb1); clear hb1)
        | (go_at_call 150; (with_reducible refine (Parts_c y w1 hy HT1.out).mono ?_); rintro _ w2 ⟨rfl, hb2⟩; rw [P2.out]; have HB2 := Lib.hid (HB1.out.trans (hb2.mono HB1.out.size)); clear hb2))
      go_ret
      exact ⟨by rw [HR.out] <;> rfl, HB2.out⟩
  · obtain ⟨k1, k2, k3⟩ := partsI_byte x hp hx
    have P1 : Hid (partsV x = .tuple #[.int .i64 (partsI x).1, .int .i64 (partsI x).2.1, .int .i64 (partsI x).2.2, .bool true]) := Lib.hid (by unfold partsV; rw [hp]; rfl)
    cases hq : hasP y
    · have HR : Hid (R = -1) := Lib.hid (by rw [← eR]; unfold farI; rw [hp, hq]; rfl)
      have P2 : Hid (partsV y = .tuple #[.int .i64 0, .int .i64 0, .int .i64 0, .bool false]) := Lib.hid (by unfold partsV; rw [hq]; rfl)
      clear eR hp hq
      go_enter Tryd.func148, Tryd.ntmps148
      go_wp2_with (first
        | (go_at_call 150; (with_reducible refine (Parts_c x w hx HT.out).mono ?_); rintro _ w1 ⟨rfl, hb1⟩; rw [P1.out]; have HB1 := Lib.hid hb1; have HT1 := Lib.hid (HT.out.next hb1); clear hb1)
        | (go_at_call 150; (with_reducible refine (Parts_c y w1 hy HT1.out).mono ?_); rintro _ w2 ⟨rfl, hb2⟩; rw [P2.out]; have HB2 := Lib.hid (HB1.out.trans (hb2.mono HB1.out.size)); clear hb2))
      go_ret
      exact ⟨by rw [HR.out] <;> rfl, HB2.out⟩
    · obtain ⟨j1, j2, j3⟩ := partsI_byte y hq hy
      have HR : R = sq ((partsI x).1 - (partsI y).1) + sq ((partsI x).2.1 - (partsI y).2.1) + sq ((partsI x).2.2 - (partsI y).2.2) := by rw [← eR]; unfold farI; rw [hp, hq]; rfl
      have P2 : Hid (partsV y = .tuple #[.int .i64 (partsI y).1, .int .i64 (partsI y).2.1, .int .i64 (partsI y).2.2, .bool true]) := Lib.hid (by unfold partsV; rw [hq]; rfl)
      have s1 := sq_byte k1 j1
      have s2 := sq_byte k2 j2
      have s3 := sq_byte k3 j3
      unfold sq at HR
      obtain ⟨a, ea⟩ : ∃ a, (partsI x).1 = a := ⟨_, rfl⟩
      obtain ⟨b, eb⟩ : ∃ a, (partsI x).2.1 = a := ⟨_, rfl⟩
      obtain ⟨c, ec⟩ : ∃ a, (partsI x).2.2 = a := ⟨_, rfl⟩
      obtain ⟨d, ed⟩ : ∃ a, (partsI y).1 = a := ⟨_, rfl⟩
      obtain ⟨e, ee⟩ : ∃ a, (partsI y).2.1 = a := ⟨_, rfl⟩
      obtain ⟨f, ef⟩ : ∃ a, (partsI y).2.2 = a := ⟨_, rfl⟩
      rw [ea, eb, ec] at P1
      rw [ed, ee, ef] at P2
      rw [ea, ed, eb, ee, ec, ef] at HR
      rw [ea, ed] at s1
      rw [eb, ee] at s2
      rw [ec, ef] at s3
      rw [ea] at k1
      rw [eb] at k2
      rw [ec] at k3
      rw [ed] at j1
      rw [ee] at j2
      rw [ef] at j3
      obtain ⟨k10, k11⟩ := k1
      obtain ⟨k20, k21⟩ := k2
      obtain ⟨k30, k31⟩ := k3
      obtain ⟨j10, j11⟩ := j1
      obtain ⟨j20, j21⟩ := j2
      obtain ⟨j30, j31⟩ := j3
      obtain ⟨s10, s11⟩ := s1
      obtain ⟨s20, s21⟩ := s2
      obtain ⟨s30, s31⟩ := s3
      have HRR := Lib.hid HR
      clear eR hp hq ea eb ec ed ee ef HR
      go_enter Tryd.func148, Tryd.ntmps148
      go_wp2_with (first
        | (go_at_call 150; (with_reducible refine (Parts_c x w hx HT.out).mono ?_); rintro _ w1 ⟨rfl, hb1⟩; rw [P1.out]; have HB1 := Lib.hid hb1; have HT1 := Lib.hid (HT.out.next hb1); clear hb1)
        | (go_at_call 150; (with_reducible refine (Parts_c y w1 hy HT1.out).mono ?_); rintro _ w2 ⟨rfl, hb2⟩; rw [P2.out]; have HB2 := Lib.hid (HB1.out.trans (hb2.mono HB1.out.size)); clear hb2))
      go_ret
      exact ⟨by rw [HRR.out] <;> rfl, HB2.out⟩
end Go.Proofs.YtipofokinjkclaaDoor

/- What color.To256, To16 and Fit answer of any colours. Conditions: the tables lie where they were laid. -/
namespace Go.Proofs.YtipofokinjkclaaDoor
open Go Go.RowKit Go.Lib

set_option maxRecDepth 100000 in
set_option maxHeartbeats 16000000 in
theorem near_c (c frm tt : Int) (n bc : Nat) (w : World) (hc : 0 ≤ c) (hf : 0 ≤ frm) (ht : tt ≤ 255) (hn : tt = frm + n - 1) (hb : w.cell? ⟨bc, 0, none⟩ = some (.int .u32 c)) (hbl : bc < w.heap.size) (hT : TabC w) :
    Calls Tryd.prog 147 #[.int .i64 frm, .int .i64 tt, .pointer (some ⟨bc, 0, none⟩)] w fun e w' => e = .returned (.int .u32 (nearK c frm n).1) ∧ Below w.heap.size w w' := by
  have HT := Lib.hid hT
  have HB := Lib.hid hb
  have hn1 : tt ≤ frm + n - 1 := by omega
  have hn2 : frm + n - 1 ≤ tt := by omega
  clear hT hb hn
  go_enter Tryd.func147, Tryd.ntmps147
  go_wp2_with (fail)
  go_loopw [6, 7, 15] (fun b f i wr => ∃ (k : Nat) (B F : Int), k ≤ n ∧ i = .int .i64 k ∧ b = .int .u32 B ∧ f = .int .i64 F ∧ Hid (nearK c frm k = (B, F)) ∧ Hid (Below w.heap.size w wr)) (fun _ _ i _ => n - (intOf i).toNat)
  case atStart => exact ⟨0, 0, 0, Nat.zero_le _, rfl, rfl, rfl, Lib.hid rfl, Lib.hid (Below.refl _ _)⟩
  case round =>
    obtain ⟨k, B, F, hk, rfl, rfl, rfl, HK, HBW⟩ := hrel
    rcases Nat.lt_or_ge k n with hlt | hge
    · have hlt' : (k : Int) < tt - frm + 1 := by omega
      obtain ⟨D, eD⟩ : ∃ D, farI c (frm + k + 1) = D := ⟨_, rfl⟩
      have ED := Lib.hid eD
      have hst : nearK c frm (k + 1) = if B = 0 ∨ D < F then (frm + k + 1, D) else (B, F) := by rw [nearK, HK.out, eD]
      have c0 : wr.cell? ⟨bc, 0, none⟩ = some (.int .u32 c) := (HBW.out.cell (p := ⟨bc, 0, none⟩) hbl).trans HB.out
      have arith1 : frm + k + 1 ≤ 256 := by omega
      have arith2 : 0 ≤ frm + k + 1 := by omega
      clear eD
      by_cases hB : B = 0
      · have d1 : (B == 0) = true := beq_iff_eq.2 hB
        rw [if_pos (.inl hB)] at hst
        have HST := Lib.hid hst
        clear hst hB
        go_wp2_with (go_at_call 148; (with_reducible refine (Far_c c (frm + k + 1) wr hc arith2 (HT.out.next HBW.out)).mono ?_); rintro _ w1 ⟨rfl, hb1⟩; rw [ED.out]; have HB1 := Lib.hid (HBW.out.trans (hb1.mono HBW.out.size)); clear hb1)
        go_roundw
        case rel => exact ⟨k + 1, frm + k + 1, D, by omega, by go_num, rfl, rfl, HST, HB1⟩
        case measure => simp [intOf]; omega
      · have d1 : (B == 0) = false := beq_eq_false_iff_ne.2 hB
        by_cases hD : D < F
        · have d2 : decide (D < F) = true := decide_eq_true hD
          rw [if_pos (.inr hD)] at hst
          have HST := Lib.hid hst
          clear hst hB
          go_wp2_with (go_at_call 148; (with_reducible refine (Far_c c (frm + k + 1) wr hc arith2 (HT.out.next HBW.out)).mono ?_); rintro _ w1 ⟨rfl, hb1⟩; rw [ED.out]; have HB1 := Lib.hid (HBW.out.trans (hb1.mono HBW.out.size)); clear hb1)
          go_roundw
          case rel => exact ⟨k + 1, frm + k + 1, D, by omega, by go_num, rfl, rfl, HST, HB1⟩
          case measure => simp [intOf]; omega
        · have d2 : decide (D < F) = false := decide_eq_false hD
          rw [if_neg (by rintro (h | h); exact hB h; exact hD h)] at hst
          have HST := Lib.hid hst
          clear hst hB
          go_wp2_with (go_at_call 148; (with_reducible refine (Far_c c (frm + k + 1) wr hc arith2 (HT.out.next HBW.out)).mono ?_); rintro _ w1 ⟨rfl, hb1⟩; rw [ED.out]; have HB1 := Lib.hid (HBW.out.trans (hb1.mono HBW.out.size)); clear hb1)
          go_roundw
          case rel => exact ⟨k + 1, B, F, by omega, by go_num, rfl, rfl, HST, HB1⟩
          case measure => simp [intOf]; omega
    · obtain rfl : n = k := by omega
      have hge' : ¬ ((n : Int) < tt - frm + 1) := by omega
      clear hge
      go_wp2_with (fail)
      go_ret
      exact ⟨by rw [HK.out] <;> rfl, HBW.out⟩
set_option maxRecDepth 100000 in
set_option maxHeartbeats 16000000 in
theorem nearest_c (c : Int) (w : World) :
    Calls Tryd.prog 144 #[.int .u32 c] w fun e w' => e = .returned (.func (.func 147) #[] #[.pointer (some ⟨w.heap.size, 0, none⟩)]) ∧ w' = w.alloc (.cells #[.int .u32 c] 42) := by
  have hmf : ∀ (fn : Fn) (first cap : Array Value) (w : World), (Instr.makeFunc fn first cap).run Tryd.prog w = .ok (.func fn first cap) w := fun _ _ _ _ => rfl
  go_enter Tryd.func144, Tryd.ntmps144
  go_wp2_with (fail)
  go_ret
  exact ⟨rfl, rfl⟩
def to256P (c : Int) : Int := if decide (c < 16777216) || !colMay c then c else (nearK c 16 240).1
def to16P (c : Int) : Int := if decide (c ≤ 16) || !colMay c then c else (nearK c 0 16).1
set_option maxRecDepth 100000 in
set_option maxHeartbeats 16000000 in
theorem To256_c (c : Int) (w : World) (hc : 0 ≤ c) (hT : TabC w) :
    Calls Tryd.prog 129 #[.int .u32 c] w fun e w' => e = .returned (.int .u32 (to256P c)) ∧ Below w.heap.size w w' := by
  have HT := Lib.hid hT
  clear hT
  obtain ⟨R, eR⟩ : ∃ R, to256P c = R := ⟨_, rfl⟩
  rw [eR]
  unfold to256P at eR
  by_cases h1 : c < 16777216
  · have d1 : decide (c < 16777216) = true := decide_eq_true h1
    have HR : Hid (R = c) := Lib.hid (by rw [← eR, d1]; rfl)
    clear eR
    go_enter Tryd.func129, Tryd.ntmps129
    go_wp2_with (fail)
    go_ret
    exact ⟨by rw [HR.out] <;> rfl, Below.refl _ _⟩
  have d1 : decide (c < 16777216) = false := decide_eq_false h1
  cases hm : colMay c
  · have HR : Hid (R = c) := Lib.hid (by rw [← eR, hm]; simp)
    have HM := Lib.hid hm
    clear eR hm
    go_enter Tryd.func129, Tryd.ntmps129
    go_wp2_with (go_at_call 143; (with_reducible refine (ColorMay_c c w).mono ?_); rintro _ _ ⟨rfl, rfl⟩; rw [HM.out])
    go_ret
    exact ⟨by rw [HR.out] <;> rfl, Below.refl _ _⟩
  · have HR : Hid (R = (nearK c 16 240).1) := Lib.hid (by rw [← eR, hm, d1]; simp)
    have HM := Lib.hid hm
    have k1 : Below w.heap.size w (w.alloc (.cells #[.int .u32 c] 42)) := (Below.refl _ _).alloc (Nat.le_refl _) _
    have c1 : (w.alloc (.cells #[.int .u32 c] 42)).cell? ⟨w.heap.size, 0, none⟩ = some (.int .u32 c) := by rw [heap_cell (heap_alloc_new w _) 0]; rfl
    have K1 := Lib.hid k1
    have C1 := Lib.hid c1
    have L1 : Hid (w.heap.size < (w.alloc (.cells #[.int .u32 c] 42)).heap.size) := Lib.hid (by simp)
    clear eR hm k1 c1
    go_enter Tryd.func129, Tryd.ntmps129
    go_wp2_with (first
      | (go_at_call 143; (with_reducible refine (ColorMay_c c w).mono ?_); rintro _ _ ⟨rfl, rfl⟩; rw [HM.out])
      | (go_at_call 144; (with_reducible refine (nearest_c c _).mono ?_); rintro _ _ ⟨rfl, rfl⟩)
      | (go_at_call 147; (refine (near_c c 16 255 240 _ _ hc (by decide) (by decide) (by decide) C1.out L1.out (HT.out.next K1.out)).mono ?_); rintro _ w3 ⟨rfl, hb3⟩; have K3 := Lib.hid (K1.out.trans (hb3.mono K1.out.size)); clear hb3))
    go_ret
    exact ⟨by rw [HR.out] <;> rfl, K3.out⟩
set_option maxRecDepth 100000 in
set_option maxHeartbeats 16000000 in
theorem To16_c (c : Int) (w : World) (hc : 0 ≤ c) (hT : TabC w) :
    Calls Tryd.prog 130 #[.int .u32 c] w fun e w' => e = .returned (.int .u32 (to16P c)) ∧ Below w.heap.size w w' := by
  have HT := Lib.hid hT
  clear hT
  obtain ⟨R, eR⟩ : ∃ R, to16P c = R := ⟨_, rfl⟩
  rw [eR]
  unfold to16P at eR
  by_cases h1 : c ≤ 16
  · have d1 : decide (c ≤ 16) = true := decide_eq_true h1
    have HR : Hid (R = c) := Lib.hid (by rw [← eR, d1]; rfl)
    clear eR
    go_enter Tryd.func130, Tryd.ntmps130
    go_wp2_with (fail)
    go_ret
    exact ⟨by rw [HR.out] <;> rfl, Below.refl _ _⟩
  have d1 : decide (c ≤ 16) = false := decide_eq_false h1
  cases hm : colMay c
  · have HR : Hid (R = c) := Lib.hid (by rw [← eR, hm]; simp)
    have HM := Lib.hid hm
    clear eR hm
    go_enter Tryd.func130, Tryd.ntmps130
    go_wp2_with (go_at_call 143; (with_reducible refine (ColorMay_c c w).mono ?_); rintro _ _ ⟨rfl, rfl⟩; rw [HM.out])
    go_ret
    exact ⟨by rw [HR.out] <;> rfl, Below.refl _ _⟩
  · have HR : Hid (R = (nearK c 0 16).1) := Lib.hid (by rw [← eR, hm, d1]; simp)
    have HM := Lib.hid hm
    have k1 : Below w.heap.size w (w.alloc (.cells #[.int .u32 c] 42)) := (Below.refl _ _).alloc (Nat.le_refl _) _
    have c1 : (w.alloc (.cells #[.int .u32 c] 42)).cell? ⟨w.heap.size, 0, none⟩ = some (.int .u32 c) := by rw [heap_cell (heap_alloc_new w _) 0]; rfl
    have K1 := Lib.hid k1
    have C1 := Lib.hid c1
    have L1 : Hid (w.heap.size < (w.alloc (.cells #[.int .u32 c] 42)).heap.size) := Lib.hid (by simp)
    clear eR hm k1 c1
    go_enter Tryd.func130, Tryd.ntmps130
    go_wp2_with (first
      | (go_at_call 143; (with_reducible refine (ColorMay_c c w).mono ?_); rintro _ _ ⟨rfl, rfl⟩; rw [HM.out])
      | (go_at_call 144; (with_reducible refine (nearest_c c _).mono ?_); rintro _ _ ⟨rfl, rfl⟩)
      | (go_at_call 147; (refine (near_c c 0 15 16 _ _ hc (by decide) (by decide) (by decide) C1.out L1.out (HT.out.next K1.out)).mono ?_); rintro _ w3 ⟨rfl, hb3⟩; have K3 := Lib.hid (K1.out.trans (hb3.mono K1.out.size)); clear hb3))
    go_ret
    exact ⟨by rw [HR.out] <;> rfl, K3.out⟩
set_option maxRecDepth 100000 in
set_option maxHeartbeats 16000000 in
theorem Fit_c (c : Int) (f : Int) (col tru : Bool) (w : World) (hc : 0 ≤ c) (h1 : (bits BinOp.and .u32 f 1 != 0) = col) (h2 : (bits BinOp.and .u32 f 2 != 0) = tru) (hT : TabC w) :
    Calls Tryd.prog 92 #[.int .u32 c, .int .u32 f] w fun e w' => e = .returned (.int .u32 (fitC col tru c)) ∧ Below w.heap.size w w' := by
  have HT := Lib.hid hT
  clear hT
  obtain ⟨R, eR⟩ : ∃ R, fitC col tru c = R := ⟨_, rfl⟩
  rw [eR]
  rw [fitC_prog] at eR
  obtain ⟨b1, e1⟩ : ∃ b, decide (c ≤ 16) = b := ⟨_, rfl⟩
  obtain ⟨b2, e2⟩ : ∃ b, decide (16777216 ≤ c) = b := ⟨_, rfl⟩
  obtain ⟨b3, e3⟩ : ∃ b, decide (c < 16777216) = b := ⟨_, rfl⟩
  have e32 : b3 = !b2 := by rw [← e3, ← e2]; by_cases h : c < 16777216 <;> simp [h] <;> omega
  have HA : Hid (R = if b1 || (b2 && tru) || (b3 && col) then c else if col then to256P c else to16P c) := Lib.hid (by rw [← eR, ← e1, ← e2, ← e3]; rfl)
  clear eR
  cases b1 <;> cases b2 <;> cases col <;> cases tru <;> simp only [Bool.not_true, Bool.not_false] at e32 <;> subst e32 <;>
  (go_enter Tryd.func92, Tryd.ntmps92
   go_wp2_with (first
     | (go_at_call 129; (with_reducible refine (To256_c c w hc HT.out).mono ?_); rintro _ w1 ⟨rfl, hb1⟩)
     | (go_at_call 130; (with_reducible refine (To16_c c w hc HT.out).mono ?_); rintro _ w1 ⟨rfl, hb1⟩))
   go_ret
   exact ⟨by rw [HA.out] <;> rfl, by first | assumption | exact Below.refl _ _⟩)
end Go.Proofs.YtipofokinjkclaaDoor
