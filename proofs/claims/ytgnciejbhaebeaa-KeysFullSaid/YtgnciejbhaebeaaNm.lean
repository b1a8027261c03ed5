/- What the layer wire's and its reference's Num answer: a number by so many bytes, the highest first. Conditions: a number of 64 bits. -/
import Derived.Test.YtgnciejbhaebeaaVa
namespace Go.Proofs.Ytgnciejbhaebeaa
open Go Go.RowKit

/-! ### Num -/
theorem numL_end {n size : Nat} {f : Nat → UInt8} (hf : ∀ i, i < size → f i = lo (n / 256 ^ (size - 1 - i))) : (List.range size).map f = numL n size := by
  unfold numL
  exact List.map_congr_left fun i hi => hf i (List.mem_range.1 hi)
/-- What stands in the row when the places from k on are laid. -/
def numTail (n size k : Nat) : List UInt8 := List.replicate k 0 ++ (numL n size).drop k
theorem numTail_start (n size : Nat) : numTail n size size = List.replicate size 0 := by
  unfold numTail
  rw [List.drop_of_length_le (by rw [numL_length]; exact Nat.le_refl _), List.append_nil]
theorem numTail_zero (n size : Nat) : numTail n size 0 = numL n size := by simp [numTail]
theorem numTail_step {n size k : Nat} (hk : k < size) : (numTail n size (k + 1)).set k (lo (n / 256 ^ (size - 1 - k))) = numTail n size k := by
  unfold numTail
  have h1 : (numL n size).drop k = lo (n / 256 ^ (size - 1 - k)) :: (numL n size).drop (k + 1) := by
    rw [List.drop_eq_getElem_cons (by rw [numL_length]; exact hk)]
    simp [numL]
  rw [h1, List.replicate_succ', List.append_assoc, List.set_append_right _ _ (by simp)]
  simp
theorem numTail_length (n size k : Nat) (hk : k ≤ size) : (numTail n size k).length = size := by
  unfold numTail; rw [List.length_append, List.length_replicate, List.length_drop, numL_length]; omega

def numLI (n : Nat) (size : Int) : List UInt8 := if 1 ≤ size ∧ size ≤ 8 then numL n size.toNat else []

set_option maxRecDepth 100000 in
set_option maxHeartbeats 400000 in
theorem Num_c (n : Nat) (size : Int) (w : World) (hn : U64 n) :
    Calls Try.prog 83 #[.int .u64 n, .int .i64 size] w fun e w' => ∃ v, e = .returned v ∧ OwnB w' w.heap.size v (numLI n size) ∧ Below w.heap.size w w' := by
  rcases Int.lt_or_le size 1 with h1 | h1
  · go_enter Try.func83, Try.ntmps83
    go_wp2
    go_ret
    refine ⟨_, rfl, ?_, Below.refl _ _⟩
    rw [numLI, if_neg (by omega)]; exact Own.nil_ _ _ _
  rcases Int.lt_or_le 8 size with h8 | h8
  · go_enter Try.func83, Try.ntmps83
    go_wp2
    go_ret
    refine ⟨_, rfl, ?_, Below.refl _ _⟩
    rw [numLI, if_neg (by omega)]; exact Own.nil_ _ _ _
  obtain ⟨s, rfl⟩ := Int.eq_ofNat_of_zero_le (show 0 ≤ size by omega)
  have hfin : numLI n (s : Int) = numL n s := by rw [numLI, if_pos ⟨h1, h8⟩, Int.toNat_natCast]
  have HF := Lib.hid hfin; clear hfin
  go_enter Try.func83, Try.ntmps83
  go_wp2_with (first | (at_make; refine wpList_makeB _ rfl (.tmp 13) (.tmp 13) rfl _ _ _ _ s rfl rfl rfl rfl (by omega) ?_))
  intro w1 ho1 hb1 _
  go_wp2
  go_loopw [0, 6] (fun m i wr => ∃ k : Nat, k ≤ s ∧ i = .int .i64 ((k : Int) - 1) ∧ m = .int .u64 ((n / 256 ^ (s - k) : Nat) : Int) ∧ OwnB wr w.heap.size (.slice (some ⟨w.heap.size, 0, none⟩) s s) (numTail n s k) ∧ Below w.heap.size w wr) (fun m i _ => (intOf i + 1).toNat)
  case atStart =>
    refine ⟨s, Nat.le_refl _, rfl, ?_, ?_, hb1⟩
    · rw [Nat.sub_self, Nat.pow_zero, Nat.div_one]
    · rw [numTail_start]; exact ho1
  case round =>
    obtain ⟨k, hk, rfl, rfl, hown, hb⟩ := hrel
    rcases Nat.eq_zero_or_pos k with h0 | h0
    · subst h0
      go_wp2
      go_ret
      refine ⟨_, rfl, ?_, hb⟩
      rw [HF.out, ← numTail_zero]; exact hown
    · obtain ⟨j, rfl⟩ : ∃ j, k = j + 1 := ⟨k - 1, by omega⟩
      have hcell := hown.cell j (by rw [numTail_length _ _ _ hk]; omega)
      have hfree := hown.free j
      obtain ⟨x, hx⟩ : ∃ x, x = n / 256 ^ (s - (j + 1)) := ⟨_, rfl⟩
      have hq : x / 256 = n / 256 ^ (s - j) := by
        rw [hx, Nat.div_div_eq_div_mul, ← Nat.pow_succ, show (s - (j + 1)).succ = s - j by omega]
      rw [← hx]
      have HX := Lib.hid hx; clear hx
      have HQ := Lib.hid hq; clear hq
      go_wp2
      go_roundw
      case rel =>
        refine ⟨j, by omega, rfl, by rw [← HQ.out]; try rfl, ?_, hb.setCell (Nat.le_refl _) _⟩
        rw [int_lo (x := (x : Int) % 256) (n := x) (by omega), ← numTail_step (by omega)]
        have h := hown.set j (lo x)
        rw [HX.out] at h ⊢
        rw [show s - 1 - j = s - (j + 1) by omega]
        exact h
      case measure => simp [intOf]

set_option maxRecDepth 100000 in
set_option maxHeartbeats 400000 in
theorem refNum_c (n : Nat) (size : Int) (w : World) (hn : U64 n) :
    Calls Try.prog 85 #[.int .u64 n, .int .i64 size] w fun e w' => ∃ v, e = .returned v ∧ OwnB w' w.heap.size v (numLI n size) ∧ Below w.heap.size w w' := by
  rcases Int.lt_or_le size 1 with h1 | h1
  · go_enter Try.func85, Try.ntmps85
    go_wp2
    go_ret
    refine ⟨_, rfl, ?_, Below.refl _ _⟩
    rw [numLI, if_neg (by omega)]; exact Own.nil_ _ _ _
  rcases Int.lt_or_le 8 size with h8 | h8
  · go_enter Try.func85, Try.ntmps85
    go_wp2
    go_ret
    refine ⟨_, rfl, ?_, Below.refl _ _⟩
    rw [numLI, if_neg (by omega)]; exact Own.nil_ _ _ _
  obtain ⟨s, rfl⟩ := Int.eq_ofNat_of_zero_le (show 0 ≤ size by omega)
  have hfin : numLI n (s : Int) = numL n s := by rw [numLI, if_pos ⟨h1, h8⟩, Int.toNat_natCast]
  have HF := Lib.hid hfin; clear hfin
  go_enter Try.func85, Try.ntmps85
  go_wp2_with (first | (at_make; refine wpList_makeB _ rfl (.tmp 13) (.tmp 13) rfl _ _ _ _ s rfl rfl rfl rfl (by omega) ?_))
  intro w1 ho1 hb1 _
  go_wp2
  go_loopw [0, 6] (fun m i wr => ∃ k : Nat, k ≤ s ∧ i = .int .i64 (k : Int) ∧ m = .int .u64 ((n / 256 ^ k : Nat) : Int) ∧ OwnB wr w.heap.size (.slice (some ⟨w.heap.size, 0, none⟩) s s) (numTail n s (s - k)) ∧ Below w.heap.size w wr) (fun m i _ => s - (intOf i).toNat)
  case atStart =>
    refine ⟨0, Nat.zero_le _, rfl, ?_, ?_, hb1⟩
    · rw [Nat.pow_zero, Nat.div_one]
    · rw [Nat.sub_zero, numTail_start]; exact ho1
  case round =>
    obtain ⟨k, hk, rfl, rfl, hown, hb⟩ := hrel
    rcases Nat.lt_or_ge k s with h0 | h0
    · obtain ⟨x, hx⟩ : ∃ x, x = n / 256 ^ k := ⟨_, rfl⟩
      have hu : U64 x := hn.le (by rw [hx]; exact Nat.div_le_self _ _)
      have hw : IntKind.u64.wrap ((x : Int) / 256) = (x : Int) / 256 := u64_div hu 256
      have hq : x / 256 = n / 256 ^ (k + 1) := by rw [hx, Nat.div_div_eq_div_mul, ← Nat.pow_succ]
      obtain ⟨old, hcell⟩ : ∃ old, wr.cell? ⟨w.heap.size, s - 1 - k, none⟩ = some old := ⟨_, hown.cell (s - 1 - k) (by rw [numTail_length _ _ _ (by omega)]; omega)⟩
      have hfree := hown.free (s - 1 - k)
      rw [← hx]
      have HX := Lib.hid hx; clear hx
      have HQ := Lib.hid hq; clear hq
      go_wp2
      go_roundw
      case rel =>
        refine ⟨k + 1, by omega, by go_num, by rw [← HQ.out]; try rfl, ?_, hb.setCell (Nat.le_refl _) _⟩
        rw [int_lo (x := (x : Int) % 256) (n := x) (by omega), ← numTail_step (by omega), show s - (k + 1) + 1 = s - k by omega, show s - 1 - (s - (k + 1)) = k by omega, ← HX.out, show s - (k + 1) = s - 1 - k by omega]
        exact hown.set _ _
      case measure => simp [intOf]; omega
    · obtain rfl : k = s := by omega
      go_wp2
      go_ret
      refine ⟨_, rfl, ?_, hb⟩
      rw [Nat.sub_self, numTail_zero] at hown
      rw [HF.out]; exact hown

end Go.Proofs.Ytgnciejbhaebeaa
