/- The walk of the law WireBack: it returns true. Conditions: the row's own. -/
import Derived.Test.YtacindehajholaaVWirePuts
import Derived.Test.YtacindehajholaaPl2
namespace Go.Proofs.Ytacindehajholaa
open Go Go.RowKit

theorem pow_walk {s : Nat} (h : s < 8) : IntKind.u64.wrap (2 ^ (8 * s)) = ((256 ^ s : Nat) : Int) := by
  have e : (2 : Int) ^ (8 * s) = ((256 ^ s : Nat) : Int) := by
    rw [Int.natCast_pow, Int.pow_mul]; rfl
  have hlt : 256 ^ s < 18446744073709551616 := Nat.lt_of_le_of_lt (Nat.pow_le_pow_right (by decide) (show s ≤ 7 by omega)) (by decide)
  rw [e]
  generalize 256 ^ s = P at *
  exact IntWalk.u64_in _ ⟨by omega, by omega⟩

/-- What is laid, one behind the other, is read back, one behind the other. -/
def allL (y s : Nat) (bs ms : List UInt8) : List UInt8 := ((varL y ++ numL y s) ++ textL bs) ++ ms
theorem back_var {y s : Nat} {bs ms : List UInt8} (hy : U64 y) : varR ⟨allL y s bs ms, 0, 0⟩ = (y, ⟨allL y s bs ms, (varL y).length, 0⟩) := by
  rw [varR, if_neg (by simp), List.drop_zero]
  show (match varGo (allL y s bs ms) 0 with | .bad e => _ | .ok n k => _) = _
  rw [allL, List.append_assoc, List.append_assoc, varGo_laid hy]
  show (y, (⟨_, 0 + _, 0⟩ : RS)) = _
  rw [Nat.zero_add]
theorem back_num {y s : Nat} {bs ms : List UInt8} (hs1 : 1 ≤ s) (hs8 : s ≤ 8) (hlt : y < 256 ^ s) :
    numR ⟨allL y s bs ms, (varL y).length, 0⟩ (s : Int) = (y, ⟨allL y s bs ms, (varL y).length + s, 0⟩) := by
  have hlen : (allL y s bs ms).length = (varL y).length + s + (textL bs).length + ms.length := by simp [allL, numL_length]; omega
  rw [numR, if_neg (by simp), if_neg (by omega), if_neg (by show ¬ (((allL y s bs ms).length : Int) - _ < _); rw [hlen]; show ¬ (_ - (((varL y).length : Nat) : Int) < _); omega)]
  simp only [Int.toNat_natCast]
  have e : ((allL y s bs ms).drop (varL y).length).take s = numL y s := by
    rw [allL, List.append_assoc, List.append_assoc, List.drop_left, List.take_left' (numL_length y s)]
  rw [e, beN_num, Nat.mod_eq_of_lt hlt]
theorem back_text {y s : Nat} {bs ms : List UInt8} (hb : bs.length ≤ 4096) :
    textR ⟨allL y s bs ms, (varL y).length + s, 0⟩ (bs.length : Int) = (bs, ⟨allL y s bs ms, (varL y).length + s + (textL bs).length, 0⟩) := by
  have ht : textL bs = varL bs.length ++ bs := if_pos hb
  have hd : (allL y s bs ms).drop ((varL y).length + s) = varL bs.length ++ (bs ++ ms) := by
    rw [allL, ht, List.append_assoc, List.drop_left' (by simp [numL_length]), List.append_assoc]
  have hlen : (allL y s bs ms).length = (varL y).length + s + (textL bs).length + ms.length := by simp [allL, numL_length]; omega
  have hl2 : (textL bs).length = (varL bs.length).length + bs.length := by rw [ht, List.length_append]
  rw [textR, if_neg (by simp)]
  show (match varGo ((allL y s bs ms).drop ((varL y).length + s)) 0 with | .bad e => _ | .ok n k => _) = _
  rw [hd, varGo_laid (Nat.lt_of_le_of_lt hb (by decide))]
  show (if _ then _ else if (allL y s bs ms).length < (varL y).length + s + (varL bs.length).length + bs.length then _ else _) = _
  rw [if_neg (by omega), if_neg (by rw [hlen, hl2]; omega)]
  show (((allL y s bs ms).drop ((varL y).length + s + (varL bs.length).length)).take bs.length, (⟨allL y s bs ms, (varL y).length + s + (varL bs.length).length + bs.length, 0⟩ : RS)) = _
  rw [← List.drop_drop, hd, List.drop_left, List.take_left, hl2, Nat.add_assoc ((varL y).length + s)]
theorem back_take {y s : Nat} {bs ms : List UInt8} :
    takeR ⟨allL y s bs ms, (varL y).length + s + (textL bs).length, 0⟩ ((ms.length : Nat) : Int) = (ms, ⟨allL y s bs ms, (allL y s bs ms).length, 0⟩) := by
  have hlen : (allL y s bs ms).length = (varL y).length + s + (textL bs).length + ms.length := by simp [allL, numL_length]; omega
  rw [takeR, if_neg (by simp), if_neg (by omega), if_neg (by show ¬ (((allL y s bs ms).length : Int) - (((varL y).length + s + (textL bs).length : Nat) : Int) < _); omega)]
  simp only [Int.toNat_natCast]
  have hd : (allL y s bs ms).drop ((varL y).length + s + (textL bs).length) = ms := by
    rw [allL, List.drop_left' (by simp [numL_length]; omega)]
  rw [hd, hlen, List.take_of_length_le (Nat.le_refl _)]

set_option maxRecDepth 100000 in
set_option maxHeartbeats 2000000 in
theorem WireBack_walk (w : World) (a0 : Int) (w0 : (Lit.int .u64 a0).wf = true) (size : Int) (_w1 : (Lit.int .i64 size).wf = true)
    (A : Option Addr) (n c : Nat) (bs : List UInt8) (hn : bs.length = n) (hr : Rd w A (bs.map bv)) (_hc : n ≤ c) (_hm : c ≤ maxLen) (hl : n ≤ 140737488351232)
    (A2 : Option Addr) (n2 c2 : Nat) (ms : List UInt8) (hn2 : ms.length = n2) (hr2 : Rd w A2 (ms.map bv)) (_hc2 : n2 ≤ c2) (_hm2 : c2 ≤ maxLen) (hl2 : n2 ≤ 140737488351232) :
    Calls Try.prog 8 #[.int .u64 a0, .int .i64 size, .slice A n c, .slice A2 n2 c2] w fun e w' => e = .returned (.bool true) ∧ Below w.heap.size w w' := by
  obtain ⟨x, rfl, hx⟩ := u64_of_wf w0
  clear w0
  by_cases hbad : size < 1 ∨ 8 < size ∨ 4096 < n ∨ 65536 < n2
  · rcases Int.lt_or_le size 1 with k1 | k1
    · clear hbad
      go_enter Try.func8, Try.ntmps8
      go_wp2_with (first | (go_at_call 12; refine (fixed_c w).mono ?_; rintro e w1 ⟨rfl, hb⟩))
      go_ret
      exact ⟨rfl, hb⟩
    rcases Int.lt_or_le 8 size with k2 | k2
    · clear hbad
      go_enter Try.func8, Try.ntmps8
      go_wp2_with (first | (go_at_call 12; refine (fixed_c w).mono ?_; rintro e w1 ⟨rfl, hb⟩))
      go_ret
      exact ⟨rfl, hb⟩
    rcases Nat.lt_or_ge 4096 n with k3 | k3
    · clear hbad
      go_enter Try.func8, Try.ntmps8
      go_wp2_with (first | (go_at_call 12; refine (fixed_c w).mono ?_; rintro e w1 ⟨rfl, hb⟩))
      go_ret
      exact ⟨rfl, hb⟩
    · have k4 : 65536 < n2 := by omega
      clear hbad
      go_enter Try.func8, Try.ntmps8
      go_wp2_with (first | (go_at_call 12; refine (fixed_c w).mono ?_; rintro e w1 ⟨rfl, hb⟩))
      go_ret
      exact ⟨rfl, hb⟩
  · obtain ⟨s, rfl⟩ := Int.eq_ofNat_of_zero_le (show 0 ≤ size by omega)
    have h1 : 1 ≤ s := by omega
    have h2 : s ≤ 8 := by omega
    have h3 : n ≤ 4096 := by omega
    have h4 : n2 ≤ 65536 := by omega
    subst hn
    subst hn2
    clear hbad
    have hy : ∃ y : Nat, U64 y ∧ y < 256 ^ s ∧ (s < 8 → (x : Int) % ((256 ^ s : Nat) : Int) = (y : Int)) ∧ (¬ s < 8 → x = y) := by
      by_cases h8 : s < 8
      · refine ⟨x % 256 ^ s, hx.le (Nat.mod_le _ _), Nat.mod_lt _ (Nat.pow_pos (by decide)), fun _ => (Int.natCast_emod _ _).symm, fun h => absurd h8 h⟩
      · obtain rfl : s = 8 := by omega
        exact ⟨x, hx, hx, fun h => absurd h (by decide), fun _ => rfl⟩
    obtain ⟨y, hyu, hys, hy1, hy2⟩ := hy
    obtain ⟨P, hP⟩ : ∃ P : Nat, P = 256 ^ s := ⟨_, rfl⟩
    have hP0 : (0 : Int) < (P : Int) := by
      have : 0 < 256 ^ s := Nat.pow_pos (by decide)
      omega
    have hte : textE bs = 0 := if_pos h3
    have htl := textL_len bs
    have hvl := varL_len10 hyu
    have hnl := numL_length y s
    have hli : numLI y (s : Int) = numL y s := by rw [numLI, if_pos (by omega), Int.toNat_natCast]
    have R1 := Lib.hid (back_var (s := s) (bs := bs) (ms := ms) hyu)
    have R2 := Lib.hid (back_num (y := y) (bs := bs) (ms := ms) h1 h2 hys)
    have R3 := Lib.hid (back_text (y := y) (s := s) (ms := ms) h3)
    have R4 := Lib.hid (back_take (y := y) (s := s) (bs := bs) (ms := ms))
    have hal : (allL y s bs ms).length ≤ 100000 := by simp [allL, hnl]; omega
    have TE := Lib.hid hte; clear hte
    have NL := Lib.hid hnl; clear hnl
    have LI := Lib.hid hli; clear hli
    have hw : s < 8 → IntKind.u64.wrap (2 ^ (8 * s)) = (P : Int) := fun h => by rw [pow_walk h, hP]
    rw [← hP] at hy1
    have HP := Lib.hid hP; clear hP hys
    rcases Nat.lt_or_ge s 8 with h8 | h8
    rotate_left
    obtain rfl : y = x := (hy2 (by omega)).symm
    clear hy1 hw hy2
    go_enter Try.func8, Try.ntmps8
    go_wp2_with (fail)
    rotate_left
    have em := hy1 h8
    have ew := hw h8
    have hP1 : ¬ ((P : Int) = 0) := by omega
    clear hy1 hy2 hw
    go_enter Try.func8, Try.ntmps8
    go_wp2_with (fail)
    rw [em]
    clear em ew hP1
    all_goals
      refine (Text_d A _ c bs w rfl hr (by omega)).mono ?_
      rintro e w1 ⟨A1, c1, rfl, ho1, hr1, hb1⟩
      rw [TE.out]
      go_wp2_with (fail)
      refine (Var_c y w1 hyu).mono ?_
      rintro e w2 ⟨v2, rfl, ho2, hb2⟩
      have hb12 := hb1.trans (hb2.mono hb1.size)
      have hr12 := hr1.below hb2
      go_wp2_with (fail)
      refine (Num_c y (s : Int) w2 hyu).mono ?_
      rintro e w3 ⟨v3, rfl, ho3, hb3⟩
      rw [LI.out] at ho3
      have hb13 := hb12.trans (hb3.mono hb12.size)
      have hr13 := hr12.below hb3
      have ho23 : OwnB w3 w1.heap.size v2 (varL y) := Own.below ho2 hb3
      obtain ⟨A3, c3, rfl, _, _, hr3, _⟩ := OwnB.form ho3
      rw [NL.out]
      have z3 := hb3.size
      have z2 := hb2.size
      have z1 := hb1.size
      have hB3 : Below w1.heap.size w1 w3 := hb2.trans (hb3.mono z2)
      clear ho2 ho3 hr12 hb12 hr13
      have e0 : (numL y s).length = s := NL.out
      have hal2 : (varL y ++ numL y s).length ≤ 20 := by rw [List.length_append]; omega
      have hal3 : ((varL y ++ numL y s) ++ textL bs).length ≤ 5000 := by rw [List.length_append]; omega
      have E0 := Lib.hid e0; clear e0
      go_wp2_with (first
        | (at_builtin; refine wpList_appB _ rfl (.tmp 49) (.tmp 52) rfl w1.heap.size _ (varL y) rfl ho23 A3 s c3 (numL y s) rfl NL.out hr3 (by omega) (by omega) ?_; intro v4 w4 k4 g4 _; have z4 := g4.size; have hB4 : Below w1.heap.size w1 w4 := hB3.grown g4 (by omega) (fun k hk => (ho23.lt k hk).1); have K4 := Lib.hid k4; clear k4; have G4 := Lib.hid g4; clear g4)
        | (at_builtin; refine wpList_appB _ rfl (.tmp 53) (.tmp 54) rfl w1.heap.size _ (varL y ++ numL y s) rfl K4.out A1 _ c1 (textL bs) rfl rfl (hr1.below hB4) (by omega) (by omega) ?_; intro v5 w5 k5 g5 _; have z5 := g5.size; have hB5 : Below w1.heap.size w1 w5 := hB4.grown g5 (by omega) (fun k hk => (K4.out.lt k hk).1); have K5 := Lib.hid k5; clear k5; have G5 := Lib.hid g5; clear g5)
        | (at_builtin; refine wpList_appB _ rfl (.tmp 55) (.tmp 56) rfl w1.heap.size _ ((varL y ++ numL y s) ++ textL bs) rfl K5.out A2 _ c2 ms rfl rfl (hr2.below (hb1.trans (hB5.mono hb1.size))) (by omega) (by omega) ?_; intro v6 w6 k6 g6 _; have z6 := g6.size; have hB6 : Below w1.heap.size w1 w6 := hB5.grown g6 (by omega) (fun k hk => (K5.out.lt k hk).1); have K6 := Lib.hid k6; clear k6; have G6 := Lib.hid g6; clear g6; obtain ⟨A6, c6, rfl, _, _, hr6, _⟩ := OwnB.form K6.out))
      have hr6' : Rd w6 A6 ((allL y s bs ms).map bv) := hr6
      have hbw6 : Below w.heap.size w w6 := hb1.trans (hB6.mono hb1.size)
      have hrA6 := hr.below hbw6
      have hrM6 := hr2.below hbw6
      clear hr6 K4 K5 K6 G4 G5 G6 hB4 hB5 hB6 hB3 hb13 hb1 hb2 hb3 ho1 hr1 hr3 ho23 hal2 hal3
      refine (Rnew_c A6 _ c6 (allL y s bs ms) w6 (by simp [allL]) hr6' (by have h9 : (numL y s).length = s := NL.out; omega)).mono ?_
      rintro e w7 ⟨r, rfl, hrr, hR7, hb7⟩
      have hbw7 := hbw6.trans (hb7.mono hbw6.size)
      go_wp2_with (fail)
      refine (Rvar_c r _ _ hR7).mono ?_
      rintro e w8 ⟨rfl, hR8, hg8⟩
      rw [R1.out] at hR8 ⊢
      have hbw8 := hbw7.grown hg8 hbw7.size (fun k hk => by injection hk with hk; have := hbw6.size; omega)
      go_wp2_with (fail)
      refine (Rnum_c r _ (s : Int) _ hR8 (WalkArith.wf_i64 (by omega))).mono ?_
      rintro e w9 ⟨rfl, hR9, hg9⟩
      rw [R2.out] at hR9 ⊢
      have hbw9 := hbw8.grown hg9 hbw8.size (fun k hk => by injection hk with hk; have := hbw6.size; omega)
      go_wp2_with (fail)
      refine (Rtext_c r _ (bs.length : Int) _ hR9 (WalkArith.wf_i64 (by omega))).mono ?_
      rintro e w10 ⟨v10, rfl, ho10, hR10, hg10⟩
      rw [R3.out] at hR10 ho10
      have hbw10 := hbw9.grown hg10 hbw9.size (fun k hk => by injection hk with hk; have := hbw6.size; omega)
      obtain ⟨A10, c10, rfl, _, _, hr10, _⟩ := OwnB.form ho10
      have hrA10 := hr.below hbw10
      clear hR7 hR8 hR9 hg8 hg9 hg10 hbw7 hbw8 hbw9 ho10 hb7 hr6' hrA6
      go_wp2_with (fail)
      refine (fixed_c w10).mono ?_
      rintro e w11 ⟨rfl, hb11⟩
      have hbw11 := hbw10.trans (hb11.mono hbw10.size)
      go_wp2_with (fail)
      refine (Same_t A10 A _ _ c10 c bs w11 rfl rfl (hr10.below hb11) (hrA10.below hb11) (by unfold maxLen; omega)).mono ?_
      rintro e w12 ⟨rfl, q12, rfl⟩
      have hR11 := hR10.below hb11
      go_wp2_with (fail)
      refine (Rerr_c r _ _ (hR11.drewN q12)).mono ?_
      rintro e w13 ⟨rfl, rfl⟩
      go_wp2_with (fail)
      refine (Rleft_c r _ _ (hR11.drewN q12)).mono ?_
      rintro e w13 ⟨rfl, q13, rfl⟩
      have eL : (allL y s bs ms).length - ((varL y).length + s + (textL bs).length) = ms.length := by simp [allL, numL_length]; omega
      simp only [eL]
      clear eL
      go_wp2_with (fail)
      refine (Rtake_c r _ (ms.length : Int) _ (hR11.drewN _) (WalkArith.wf_i64 (by omega))).mono ?_
      rintro e w14 ⟨v14, rfl, ho14, hR14, hg14⟩
      rw [R4.out] at ho14 hR14
      have hbw14 := (below_drewN hbw11 (q12 + q13)).grown hg14 hbw11.size (fun k hk => by injection hk with hk; have := hbw6.size; omega)
      obtain ⟨A14, c14, rfl, _, _, hr14, _⟩ := OwnB.form ho14
      clear ho14
      go_wp2_with (fail)
      refine (Same_t A14 A2 _ _ c14 c2 ms w14 rfl rfl hr14 (hr2.below hbw14) (by unfold maxLen; omega)).mono ?_
      rintro e w15 ⟨rfl, q15, rfl⟩
      have eE : endR ⟨allL y s bs ms, (allL y s bs ms).length, 0⟩ = 0 := if_neg (fun h => Nat.lt_irrefl _ h.2)
      have EE := Lib.hid eE; clear eE
      go_wp2_with (fail)
      refine (Rend_c r _ _ (hR14.drewN q15)).mono ?_
      rintro e w16 ⟨rfl, q16, rfl⟩
      rw [EE.out]
      go_wp2_with (fail)
      go_ret
      exact ⟨rfl, below_drewN hbw14 _⟩
end Go.Proofs.Ytacindehajholaa
