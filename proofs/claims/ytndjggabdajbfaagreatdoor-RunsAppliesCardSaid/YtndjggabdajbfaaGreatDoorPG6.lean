/- Parts one behind the other: What the reference's RowMay answers. Conditions: as told at each. -/
import Derived.Test.YtndjggabdajbfaaGreatDoorPG5

set_option linter.unusedVariables false
set_option linter.unusedSimpArgs false
/- What the reference's RowMay answers. Conditions: cells that can be read. -/
namespace Go.Proofs.YtndjggabdajbfaaGreatDoor
open Go Go.RowKit

theorem rowR_round {ds : List CeD} {k : Nat} {d : CeD} (hk : k < ds.length) (hd : d = ds[k]) : rowR (prevO ds k) (ds.drop k) = (goodR (prevO ds k) d (ds.drop (k + 1)) && rowR (prevO ds (k + 1)) (ds.drop (k + 1))) := by
  rw [List.drop_eq_getElem_cons hk, rowR, prevO, List.getElem?_eq_getElem hk, hd]
set_option maxRecDepth 100000 in
set_option maxHeartbeats 8000000 in
theorem refRowMay_c (A : Option Addr) (n c : Nat) (ds : List CeD) (w : World) (hn : ds.length = n) (hr : RdC w A ds) (hl : n ≤ 140737488355328) :
    Calls Tryz.prog 84 #[.slice A n c] w fun e w' => e = .returned (.bool (rowMayP ds)) ∧ Below w.heap.size w w' := by
  rw [rowMay_eq]; obtain ⟨R, eR⟩ : ∃ R, rowMayR ds = R := ⟨_, rfl⟩; rw [eR]
  rcases Nat.lt_or_ge n 1 with h0 | h0
  · have hR : R = false := by rw [← eR, rowMayR, decide_eq_false (by omega)]; rfl
    have HR := Lib.hid hR
    have d1 : ((n : Int) == 0) = true := by rw [beq_iff_eq]; omega
    clear hR eR h0
    go_enter Tryz.func84, Tryz.ntmps84
    go_wp2_with (fail)
    go_ret
    exact ⟨by rw [HR.out] <;> rfl, Below.refl _ _⟩
  have d1 : ((n : Int) == 0) = false := by rw [beq_eq_false_iff_ne]; omega
  rcases Nat.lt_or_ge 80 n with h1 | h1
  · have hR : R = false := by rw [← eR, rowMayR, decide_eq_false (p := ds.length ≤ 80) (by omega)]; simp
    have HR := Lib.hid hR
    have d2 : decide (80 < (n : Int)) = true := decide_eq_true (by omega)
    clear hR eR h0 h1
    go_enter Tryz.func84, Tryz.ntmps84
    go_wp2_with (fail)
    go_ret
    exact ⟨by rw [HR.out] <;> rfl, Below.refl _ _⟩
  have ER : Hid (R = rowR none ds) := Lib.hid (by rw [← eR, rowMayR, decide_eq_true (by omega), decide_eq_true (by omega)]; rfl)
  have HN := Lib.hid hn
  have HRD := Lib.hid hr
  have d2 : decide (80 < (n : Int)) = false := decide_eq_false (by omega)
  clear eR hn hr
  go_enter Tryz.func84, Tryz.ntmps84
  go_wp2_with (fail)
  go_loopw [3] (fun i wr => ∃ k : Nat, k ≤ n ∧ i = .int .i64 k ∧ Hid (rowR none ds = rowR (prevO ds k) (ds.drop k)) ∧ Hid (Below w.heap.size w wr)) (fun i _ => n - (intOf i).toNat)
  case atStart => exact ⟨0, Nat.zero_le _, rfl, Lib.hid rfl, Lib.hid (Below.refl _ _)⟩
  case round =>
    obtain ⟨k, hk, rfl, HG, HB⟩ := hrel
    rcases Nat.lt_or_ge k n with hlt | hge
    · have hlt' : (k : Int) < (n : Int) := by omega
      have hkl : k < ds.length := by rw [HN.out]; exact hlt
      obtain ⟨b, off, rfl, hb, hc0⟩ := HRD.out.cellsAt k hkl; obtain ⟨d, ed⟩ : ∃ d, d = ds[k] := ⟨_, rfl⟩; rw [← ed] at hc0
      have hround := rowR_round hkl ed
      obtain ⟨G, eG⟩ : ∃ G, goodR (prevO ds k) d (ds.drop (k + 1)) = G := ⟨_, rfl⟩; rw [eG, ← HG.out] at hround
      have EG := Lib.hid eG
      have HRO := Lib.hid hround
      have hc1 := hc0.below HB.out hb
      obtain ⟨c0, c1, c2, c3, c4, c5⟩ := hc1
      have hmay : ∀ w', Calls Tryz.prog 45 #[.agg #[.int .i32 d.r, .int .u8 d.w, .int .u32 d.fg, .int .u32 d.bg, .int .u8 d.at_, .int .u16 d.ln]] w' fun e w'' => e = .returned (.bool (mayC d)) ∧ Below w'.heap.size w' w'' := fun w' => refMayC_c d w'
      obtain ⟨M, eM⟩ : ∃ M, mayC d = M := ⟨_, rfl⟩; rw [eM] at hmay
      have EM := Lib.hid eM
      have HM := Lib.hid hmay
      clear hround eG hmay eM HG ed
      cases M
      · have HRR : Hid (R = false) := Lib.hid (by rw [ER.out, HRO.out, ← EG.out, goodR, EM.out]; rfl)
        go_wp2_with (go_at_call 45; (with_reducible refine (HM.out _).mono ?_); rintro _ w1 ⟨rfl, hb1⟩; have HB1 := Lib.hid (HB.out.trans (hb1.mono HB.out.size)); clear hb1)
        go_ret
        exact ⟨by rw [HRR.out] <;> rfl, HB1.out⟩
      go_wp2_with (go_at_call 45; (with_reducible refine (HM.out _).mono ?_); rintro _ w1 ⟨rfl, hb1⟩; have HB1 := Lib.hid (HB.out.trans (hb1.mono HB.out.size)); clear hb1)
      clear c0 c1 c2 c3 c4 c5
      have HC1 := Lib.hid (hc0.below HB1.out hb)
      have HBB : Hid (b < w1.heap.size) := Lib.hid (Nat.lt_of_lt_of_le hb HB1.out.size)
      obtain ⟨AA, eA⟩ : ∃ x, (d.w == 1) = x := ⟨_, rfl⟩
      have EA : Hid (isL d = AA) := Lib.hid (by rw [isL, ← beq_int]; exact eA)
      obtain ⟨RR, eR2⟩ : ∃ x, (d.w == 2) = x := ⟨_, rfl⟩
      have ER2 : Hid (isR d = RR) := Lib.hid (by rw [isR, ← beq_int]; exact eR2)
      have HWA : Hid (IntKind.i64.wrap ((k : Int) + 1) = (k : Int) + 1) := Lib.hid (by unfold IntKind.wrap; simp [IntKind.bits, IntKind.signed]; omega)
      have HWN : Hid (IntKind.i64.wrap ((n : Int) - 1) = (n : Int) - 1) := Lib.hid (by unfold IntKind.wrap; simp [IntKind.bits, IntKind.signed]; omega)
      clear hkl
      cases AA
      · cases RR
        · skip
          refine wp_region_rw 79 [Rl.eq (.slice (some ⟨b, off, none⟩) n c), Rl.eq (.int .i64 (k : Int)), Rl.eq (.pointer (some ⟨b, off + k * 6, none⟩)), Rl.eq (.pointer (some ⟨b, off + k * 6 + 1, none⟩)), Rl.eq (.int .u8 d.w), Rl.eq (.bool false), Rl.eq (.bool false), Rl.eq (undef), Rl.eq (undef), Rl.eq (undef), Rl.eq (undef), Rl.eq (undef), Rl.eq (undef), Rl.eq (undef), Rl.eq (undef), Rl.eq (undef), Rl.eq (undef), Rl.eq (undef), Rl.eq (undef), Rl.eq (undef), Rl.eq (undef), Rl.eq (undef), Rl.eq (undef), Rl.eq (undef), Rl.eq (undef), Rl.eq (undef), Rl.eq (undef), Rl.eq (undef), Rl.eq (undef), Rl.eq (undef), Rl.eq (undef), Rl.eq (undef), Rl.eq (undef), Rl.eq (undef), Rl.eq (undef), Rl.eq (.bool false)] [24, 25, 26, 27, 28, 29, 30, 31, 32, 33, 34, 35, 36, 37, 38, 39, 40, 41, 42, 43, 44, 45, 46, 47, 48, 49, 50, 51, 52, 53, 54, 55, 56, 57, 58, 59] (by kernel_rfl) rfl (by kernel_rfl) (by kernel_rfl) ?_ ?_
          · repeat (first | exact AllFrom.nil_ | (refine AllFrom.cons_ (by rfl) ?_ ?_; rotate_left))
            · intro f w' gG hF hD; have h0 : f 0 = .slice (some ⟨b, off, none⟩) n c := hF 0 (by kernel_rfl); rw [if_pos (wanted_none rfl)]; clear hF hD; exact gives_val (by simp only [execOp, evF, h0]; first | rfl | go_simp) ⟨Gr.refl _, rfl⟩
            · intro f w' gG hF hD; have h3 : f 3 = .int .i64 (k : Int) := hF 3 (by kernel_rfl); rw [if_pos (wanted_none rfl)]; clear hF hD; exact gives_val (by simp only [execOp, evF, h3]; first | rfl | go_simp) ⟨Gr.refl _, rfl⟩
            · intro f w' gG hF hD; have h24 : f 24 = .slice (some ⟨b, off, none⟩) n c := hD 0 24 (by kernel_rfl) rfl; have h25 : f 25 = .int .i64 (k : Int) := hD 1 25 (by kernel_rfl) rfl; rw [if_pos (wanted_none rfl)]; clear hF hD; exact gives_val (by simp only [execOp, evF, h24, h25]; first | rfl | go_simp) ⟨Gr.refl _, rfl⟩
            · intro f w' gG hF hD; have h26 : f 26 = .pointer (some ⟨b, off + k * 6, none⟩) := hD 2 26 (by kernel_rfl) rfl; rw [if_pos (wanted_none rfl)]; clear hF hD; exact gives_val (by simp only [execOp, evF, h26]; first | rfl | go_simp) ⟨Gr.refl _, rfl⟩
            · intro f w' gG hF hD; have h27 : f 27 = .pointer (some ⟨b, off + k * 6 + 1, none⟩) := hD 3 27 (by kernel_rfl) rfl; rw [if_pos (wanted_none rfl)]; clear hF hD; obtain ⟨z0, z1, z2, z3, z4, z5⟩ := HC1.out.below ((below_drewN (Below.refl w1.heap.size w1) 1).trans gG) HBB.out; exact gives_val (by simp only [execOp, evF, h27]; go_simp) ⟨Gr.refl _, rfl⟩
            · intro f w' gG hF hD; have h28 : f 28 = .int .u8 d.w := hD 4 28 (by kernel_rfl) rfl; rw [if_pos (wanted_none rfl)]; clear hF hD; exact gives_val (by simp only [execOp, evF, h28]; first | rfl | go_simp) ⟨Gr.refl _, rfl⟩
            · intro f w' gG hF hD; have h29 : f 29 = .bool false := hD 5 29 (by kernel_rfl) rfl; rw [if_pos (wanted_none rfl)]; clear hF hD; exact gives_val (by simp only [execOp, evF, h29]; first | rfl | go_simp) ⟨Gr.refl _, rfl⟩
            · intro f w' gG hF hD; rw [if_neg (unwanted_some (d := 30) (b := true) rfl rfl (show f 30 = .bool false from hD 6 30 (by kernel_rfl) rfl))]; exact rfl
            · intro f w' gG hF hD; rw [if_neg (unwanted_some (d := 30) (b := true) rfl rfl (show f 30 = .bool false from hD 6 30 (by kernel_rfl) rfl))]; exact rfl
            · intro f w' gG hF hD; rw [if_neg (unwanted_some (d := 30) (b := true) rfl rfl (show f 30 = .bool false from hD 6 30 (by kernel_rfl) rfl))]; exact rfl
            · intro f w' gG hF hD; rw [if_neg (unwanted_some (d := 30) (b := true) rfl rfl (show f 30 = .bool false from hD 6 30 (by kernel_rfl) rfl))]; exact rfl
            · intro f w' gG hF hD; rw [if_neg (unwanted_some (d := 30) (b := true) rfl rfl (show f 30 = .bool false from hD 6 30 (by kernel_rfl) rfl))]; exact rfl
            · intro f w' gG hF hD; rw [if_neg (unwanted_some (d := 30) (b := true) rfl rfl (show f 30 = .bool false from hD 6 30 (by kernel_rfl) rfl))]; exact rfl
            · intro f w' gG hF hD; rw [if_neg (unwanted_undef (d := 36) (b := false) rfl rfl (show f 36 = undef from hD 12 36 (by kernel_rfl) rfl))]; exact rfl
            · intro f w' gG hF hD; rw [if_neg (unwanted_undef (d := 36) (b := false) rfl rfl (show f 36 = undef from hD 12 36 (by kernel_rfl) rfl))]; exact rfl
            · intro f w' gG hF hD; rw [if_neg (unwanted_undef (d := 36) (b := false) rfl rfl (show f 36 = undef from hD 12 36 (by kernel_rfl) rfl))]; exact rfl
            · intro f w' gG hF hD; rw [if_neg (unwanted_undef (d := 36) (b := false) rfl rfl (show f 36 = undef from hD 12 36 (by kernel_rfl) rfl))]; exact rfl
            · intro f w' gG hF hD; rw [if_neg (unwanted_undef (d := 36) (b := false) rfl rfl (show f 36 = undef from hD 12 36 (by kernel_rfl) rfl))]; exact rfl
            · intro f w' gG hF hD; rw [if_neg (unwanted_undef (d := 36) (b := false) rfl rfl (show f 36 = undef from hD 12 36 (by kernel_rfl) rfl))]; exact rfl
            · intro f w' gG hF hD; rw [if_neg (unwanted_undef (d := 36) (b := false) rfl rfl (show f 36 = undef from hD 12 36 (by kernel_rfl) rfl))]; exact rfl
            · intro f w' gG hF hD; rw [if_neg (unwanted_some (d := 30) (b := true) rfl rfl (show f 30 = .bool false from hD 6 30 (by kernel_rfl) rfl))]; exact rfl
            · intro f w' gG hF hD; rw [if_neg (unwanted_some (d := 30) (b := true) rfl rfl (show f 30 = .bool false from hD 6 30 (by kernel_rfl) rfl))]; exact rfl
            · intro f w' gG hF hD; rw [if_neg (unwanted_undef (d := 45) (b := false) rfl rfl (show f 45 = undef from hD 21 45 (by kernel_rfl) rfl))]; exact rfl
            · intro f w' gG hF hD; rw [if_neg (unwanted_undef (d := 45) (b := false) rfl rfl (show f 45 = undef from hD 21 45 (by kernel_rfl) rfl))]; exact rfl
            · intro f w' gG hF hD; rw [if_neg (unwanted_undef (d := 45) (b := false) rfl rfl (show f 45 = undef from hD 21 45 (by kernel_rfl) rfl))]; exact rfl
            · intro f w' gG hF hD; rw [if_neg (unwanted_undef (d := 45) (b := false) rfl rfl (show f 45 = undef from hD 21 45 (by kernel_rfl) rfl))]; exact rfl
            · intro f w' gG hF hD; rw [if_neg (unwanted_undef (d := 45) (b := false) rfl rfl (show f 45 = undef from hD 21 45 (by kernel_rfl) rfl))]; exact rfl
            · intro f w' gG hF hD; rw [if_neg (unwanted_undef (d := 45) (b := false) rfl rfl (show f 45 = undef from hD 21 45 (by kernel_rfl) rfl))]; exact rfl
            · intro f w' gG hF hD; rw [if_neg (unwanted_undef (d := 45) (b := false) rfl rfl (show f 45 = undef from hD 21 45 (by kernel_rfl) rfl))]; exact rfl
            · intro f w' gG hF hD; rw [if_neg (unwanted_undef (d := 45) (b := false) rfl rfl (show f 45 = undef from hD 21 45 (by kernel_rfl) rfl))]; exact rfl
            · intro f w' gG hF hD; rw [if_neg (unwanted_undef (d := 45) (b := false) rfl rfl (show f 45 = undef from hD 21 45 (by kernel_rfl) rfl))]; exact rfl
            · intro f w' gG hF hD; rw [if_neg (unwanted_undef (d := 45) (b := false) rfl rfl (show f 45 = undef from hD 21 45 (by kernel_rfl) rfl))]; exact rfl
            · intro f w' gG hF hD; rw [if_neg (unwanted_undef (d := 45) (b := false) rfl rfl (show f 45 = undef from hD 21 45 (by kernel_rfl) rfl))]; exact rfl
            · intro f w' gG hF hD; rw [if_neg (unwanted_undef (d := 45) (b := false) rfl rfl (show f 45 = undef from hD 21 45 (by kernel_rfl) rfl))]; exact rfl
            · intro f w' gG hF hD; rw [if_neg (unwanted_some (d := 30) (b := true) rfl rfl (show f 30 = .bool false from hD 6 30 (by kernel_rfl) rfl))]; exact rfl
            · intro f w' gG hF hD; have h30 : f 30 = .bool false := hD 6 30 (by kernel_rfl) rfl; have h58 : f 58 = undef := hD 34 58 (by kernel_rfl) rfl; rw [if_pos (wanted_none rfl)]; clear hF hD; exact gives_val (by simp only [execOp, evF, h30, h58]; first | rfl | go_simp) ⟨Gr.refl _, rfl⟩
          · intro f w' gG hD; have h59 : f 59 = .bool false := hD 35 59 rfl; simp only [putAll, List.setIfInBounds_toArray, List.set_cons_zero, List.set_cons_succ, h59]; clear hD
            have hrr : rowR none ds = rowR (prevO ds (k + 1)) (ds.drop (k + 1)) := by rw [HRO.out, ← EG.out, goodR, EM.out, EA.out, ER2.out]; simp
            have HRR := Lib.hid hrr
            have HFIN : Hid (Below w.heap.size w w') := Lib.hid (HB1.out.trans (Below.mono ((below_drewN (Below.refl w1.heap.size w1) 1).trans gG) HB1.out.size))
            have hcz := (HC1.out.below ((below_drewN (Below.refl w1.heap.size w1) 1).trans gG) HBB.out).2.1
            clear hrr gG
            go_wp2_with (fail)
            go_roundw
            case rel => exact ⟨k + 1, by omega, by go_num, HRR, HFIN⟩
            case measure => simp [intOf]; omega
        · rcases Nat.eq_zero_or_pos k with hk0 | hk0
          · have hlf : Hid (lft (prevO ds k) = false) := Lib.hid (by rw [hk0]; rfl)
            have e0 : ((k : Int) == 0) = true := by rw [beq_iff_eq]; omega
            clear hk0; refine wp_region_rw 79 [Rl.eq (.slice (some ⟨b, off, none⟩) n c), Rl.eq (.int .i64 (k : Int)), Rl.eq (.pointer (some ⟨b, off + k * 6, none⟩)), Rl.eq (.pointer (some ⟨b, off + k * 6 + 1, none⟩)), Rl.eq (.int .u8 d.w), Rl.eq (.bool false), Rl.eq (.bool false), Rl.eq (undef), Rl.eq (undef), Rl.eq (undef), Rl.eq (undef), Rl.eq (undef), Rl.eq (undef), Rl.eq (undef), Rl.eq (undef), Rl.eq (undef), Rl.eq (undef), Rl.eq (undef), Rl.eq (undef), Rl.eq (undef), Rl.eq (undef), Rl.eq (undef), Rl.eq (undef), Rl.eq (undef), Rl.eq (undef), Rl.eq (undef), Rl.eq (undef), Rl.eq (undef), Rl.eq (undef), Rl.eq (undef), Rl.eq (undef), Rl.eq (undef), Rl.eq (undef), Rl.eq (undef), Rl.eq (undef), Rl.eq (.bool false)] [24, 25, 26, 27, 28, 29, 30, 31, 32, 33, 34, 35, 36, 37, 38, 39, 40, 41, 42, 43, 44, 45, 46, 47, 48, 49, 50, 51, 52, 53, 54, 55, 56, 57, 58, 59] (by kernel_rfl) rfl (by kernel_rfl) (by kernel_rfl) ?_ ?_
            · repeat (first | exact AllFrom.nil_ | (refine AllFrom.cons_ (by rfl) ?_ ?_; rotate_left))
              · intro f w' gG hF hD; have h0 : f 0 = .slice (some ⟨b, off, none⟩) n c := hF 0 (by kernel_rfl); rw [if_pos (wanted_none rfl)]; clear hF hD; exact gives_val (by simp only [execOp, evF, h0]; first | rfl | go_simp) ⟨Gr.refl _, rfl⟩
              · intro f w' gG hF hD; have h3 : f 3 = .int .i64 (k : Int) := hF 3 (by kernel_rfl); rw [if_pos (wanted_none rfl)]; clear hF hD; exact gives_val (by simp only [execOp, evF, h3]; first | rfl | go_simp) ⟨Gr.refl _, rfl⟩
              · intro f w' gG hF hD; have h24 : f 24 = .slice (some ⟨b, off, none⟩) n c := hD 0 24 (by kernel_rfl) rfl; have h25 : f 25 = .int .i64 (k : Int) := hD 1 25 (by kernel_rfl) rfl; rw [if_pos (wanted_none rfl)]; clear hF hD; exact gives_val (by simp only [execOp, evF, h24, h25]; first | rfl | go_simp) ⟨Gr.refl _, rfl⟩
              · intro f w' gG hF hD; have h26 : f 26 = .pointer (some ⟨b, off + k * 6, none⟩) := hD 2 26 (by kernel_rfl) rfl; rw [if_pos (wanted_none rfl)]; clear hF hD; exact gives_val (by simp only [execOp, evF, h26]; first | rfl | go_simp) ⟨Gr.refl _, rfl⟩
              · intro f w' gG hF hD; have h27 : f 27 = .pointer (some ⟨b, off + k * 6 + 1, none⟩) := hD 3 27 (by kernel_rfl) rfl; rw [if_pos (wanted_none rfl)]; clear hF hD; obtain ⟨z0, z1, z2, z3, z4, z5⟩ := HC1.out.below ((below_drewN (Below.refl w1.heap.size w1) 1).trans gG) HBB.out; exact gives_val (by simp only [execOp, evF, h27]; go_simp) ⟨Gr.refl _, rfl⟩
              · intro f w' gG hF hD; have h28 : f 28 = .int .u8 d.w := hD 4 28 (by kernel_rfl) rfl; rw [if_pos (wanted_none rfl)]; clear hF hD; exact gives_val (by simp only [execOp, evF, h28]; first | rfl | go_simp) ⟨Gr.refl _, rfl⟩
              · intro f w' gG hF hD; have h29 : f 29 = .bool false := hD 5 29 (by kernel_rfl) rfl; rw [if_pos (wanted_none rfl)]; clear hF hD; exact gives_val (by simp only [execOp, evF, h29]; first | rfl | go_simp) ⟨Gr.refl _, rfl⟩
              · intro f w' gG hF hD; rw [if_neg (unwanted_some (d := 30) (b := true) rfl rfl (show f 30 = .bool false from hD 6 30 (by kernel_rfl) rfl))]; exact rfl
              · intro f w' gG hF hD; rw [if_neg (unwanted_some (d := 30) (b := true) rfl rfl (show f 30 = .bool false from hD 6 30 (by kernel_rfl) rfl))]; exact rfl
              · intro f w' gG hF hD; rw [if_neg (unwanted_some (d := 30) (b := true) rfl rfl (show f 30 = .bool false from hD 6 30 (by kernel_rfl) rfl))]; exact rfl
              · intro f w' gG hF hD; rw [if_neg (unwanted_some (d := 30) (b := true) rfl rfl (show f 30 = .bool false from hD 6 30 (by kernel_rfl) rfl))]; exact rfl
              · intro f w' gG hF hD; rw [if_neg (unwanted_some (d := 30) (b := true) rfl rfl (show f 30 = .bool false from hD 6 30 (by kernel_rfl) rfl))]; exact rfl
              · intro f w' gG hF hD; rw [if_neg (unwanted_some (d := 30) (b := true) rfl rfl (show f 30 = .bool false from hD 6 30 (by kernel_rfl) rfl))]; exact rfl
              · intro f w' gG hF hD; rw [if_neg (unwanted_undef (d := 36) (b := false) rfl rfl (show f 36 = undef from hD 12 36 (by kernel_rfl) rfl))]; exact rfl
              · intro f w' gG hF hD; rw [if_neg (unwanted_undef (d := 36) (b := false) rfl rfl (show f 36 = undef from hD 12 36 (by kernel_rfl) rfl))]; exact rfl
              · intro f w' gG hF hD; rw [if_neg (unwanted_undef (d := 36) (b := false) rfl rfl (show f 36 = undef from hD 12 36 (by kernel_rfl) rfl))]; exact rfl
              · intro f w' gG hF hD; rw [if_neg (unwanted_undef (d := 36) (b := false) rfl rfl (show f 36 = undef from hD 12 36 (by kernel_rfl) rfl))]; exact rfl
              · intro f w' gG hF hD; rw [if_neg (unwanted_undef (d := 36) (b := false) rfl rfl (show f 36 = undef from hD 12 36 (by kernel_rfl) rfl))]; exact rfl
              · intro f w' gG hF hD; rw [if_neg (unwanted_undef (d := 36) (b := false) rfl rfl (show f 36 = undef from hD 12 36 (by kernel_rfl) rfl))]; exact rfl
              · intro f w' gG hF hD; rw [if_neg (unwanted_undef (d := 36) (b := false) rfl rfl (show f 36 = undef from hD 12 36 (by kernel_rfl) rfl))]; exact rfl
              · intro f w' gG hF hD; rw [if_neg (unwanted_some (d := 30) (b := true) rfl rfl (show f 30 = .bool false from hD 6 30 (by kernel_rfl) rfl))]; exact rfl
              · intro f w' gG hF hD; rw [if_neg (unwanted_some (d := 30) (b := true) rfl rfl (show f 30 = .bool false from hD 6 30 (by kernel_rfl) rfl))]; exact rfl
              · intro f w' gG hF hD; rw [if_neg (unwanted_undef (d := 45) (b := false) rfl rfl (show f 45 = undef from hD 21 45 (by kernel_rfl) rfl))]; exact rfl
              · intro f w' gG hF hD; rw [if_neg (unwanted_undef (d := 45) (b := false) rfl rfl (show f 45 = undef from hD 21 45 (by kernel_rfl) rfl))]; exact rfl
              · intro f w' gG hF hD; rw [if_neg (unwanted_undef (d := 45) (b := false) rfl rfl (show f 45 = undef from hD 21 45 (by kernel_rfl) rfl))]; exact rfl
              · intro f w' gG hF hD; rw [if_neg (unwanted_undef (d := 45) (b := false) rfl rfl (show f 45 = undef from hD 21 45 (by kernel_rfl) rfl))]; exact rfl
              · intro f w' gG hF hD; rw [if_neg (unwanted_undef (d := 45) (b := false) rfl rfl (show f 45 = undef from hD 21 45 (by kernel_rfl) rfl))]; exact rfl
              · intro f w' gG hF hD; rw [if_neg (unwanted_undef (d := 45) (b := false) rfl rfl (show f 45 = undef from hD 21 45 (by kernel_rfl) rfl))]; exact rfl
              · intro f w' gG hF hD; rw [if_neg (unwanted_undef (d := 45) (b := false) rfl rfl (show f 45 = undef from hD 21 45 (by kernel_rfl) rfl))]; exact rfl
              · intro f w' gG hF hD; rw [if_neg (unwanted_undef (d := 45) (b := false) rfl rfl (show f 45 = undef from hD 21 45 (by kernel_rfl) rfl))]; exact rfl
              · intro f w' gG hF hD; rw [if_neg (unwanted_undef (d := 45) (b := false) rfl rfl (show f 45 = undef from hD 21 45 (by kernel_rfl) rfl))]; exact rfl
              · intro f w' gG hF hD; rw [if_neg (unwanted_undef (d := 45) (b := false) rfl rfl (show f 45 = undef from hD 21 45 (by kernel_rfl) rfl))]; exact rfl
              · intro f w' gG hF hD; rw [if_neg (unwanted_undef (d := 45) (b := false) rfl rfl (show f 45 = undef from hD 21 45 (by kernel_rfl) rfl))]; exact rfl
              · intro f w' gG hF hD; rw [if_neg (unwanted_undef (d := 45) (b := false) rfl rfl (show f 45 = undef from hD 21 45 (by kernel_rfl) rfl))]; exact rfl
              · intro f w' gG hF hD; rw [if_neg (unwanted_some (d := 30) (b := true) rfl rfl (show f 30 = .bool false from hD 6 30 (by kernel_rfl) rfl))]; exact rfl
              · intro f w' gG hF hD; have h30 : f 30 = .bool false := hD 6 30 (by kernel_rfl) rfl; have h58 : f 58 = undef := hD 34 58 (by kernel_rfl) rfl; rw [if_pos (wanted_none rfl)]; clear hF hD; exact gives_val (by simp only [execOp, evF, h30, h58]; first | rfl | go_simp) ⟨Gr.refl _, rfl⟩
            · intro f w' gG hD; have h59 : f 59 = .bool false := hD 35 59 rfl; simp only [putAll, List.setIfInBounds_toArray, List.set_cons_zero, List.set_cons_succ, h59]; clear hD
              have hcz := (HC1.out.below ((below_drewN (Below.refl w1.heap.size w1) 1).trans gG) HBB.out).2.1
              have HRR : Hid (R = false) := Lib.hid (by rw [ER.out, HRO.out, ← EG.out, goodR, EM.out, EA.out, ER2.out, hlf.out]; simp)
              have HFIN : Hid (Below w.heap.size w w') := Lib.hid (HB1.out.trans (Below.mono ((below_drewN (Below.refl w1.heap.size w1) 1).trans gG) HB1.out.size))
              clear gG
              go_wp2_with (fail)
              go_ret
              exact ⟨by rw [HRR.out] <;> rfl, HFIN.out⟩
          · have hql : k - 1 < ds.length := by have := HN.out; omega
            have e0 : ((k : Int) == 0) = false := by rw [beq_eq_false_iff_ne]; omega
            have hk1 : (1 : Int) ≤ (k : Int) := by omega
            obtain ⟨p, ep⟩ : ∃ p, p = ds[k - 1] := ⟨_, rfl⟩
            have hpo : prevO ds k = some p := by
              obtain ⟨q, rfl⟩ : ∃ q, k = q + 1 := ⟨k - 1, by omega⟩
              have hq2 : q < ds.length := by omega
              rw [prevO, List.getElem?_eq_getElem hq2, ep]; rfl
            obtain ⟨b', off', e', -, hp0⟩ := HRD.out.cellsAt (k - 1) hql; rw [← ep] at hp0
            injection e' with e'
            injection e' with e1 e2
            subst e1 e2
            have HP1 := Lib.hid (hp0.below HB1.out hb)
            obtain ⟨L, eL⟩ : ∃ L, (p.w == 1) = L := ⟨_, rfl⟩
            have HLF : Hid (lft (prevO ds k) = L) := Lib.hid (by rw [hpo, lft, isL, ← beq_int]; exact eL)
            have eN : (p.w != 1) = (!L) := by rw [bne, eL]
            clear hpo hp0 ep hql hk0 eL
            cases L
            · skip
              refine wp_region_rw 79 [Rl.eq (.slice (some ⟨b, off, none⟩) n c), Rl.eq (.int .i64 (k : Int)), Rl.eq (.pointer (some ⟨b, off + k * 6, none⟩)), Rl.eq (.pointer (some ⟨b, off + k * 6 + 1, none⟩)), Rl.eq (.int .u8 d.w), Rl.eq (.bool false), Rl.eq (.bool false), Rl.eq (undef), Rl.eq (undef), Rl.eq (undef), Rl.eq (undef), Rl.eq (undef), Rl.eq (undef), Rl.eq (undef), Rl.eq (undef), Rl.eq (undef), Rl.eq (undef), Rl.eq (undef), Rl.eq (undef), Rl.eq (undef), Rl.eq (undef), Rl.eq (undef), Rl.eq (undef), Rl.eq (undef), Rl.eq (undef), Rl.eq (undef), Rl.eq (undef), Rl.eq (undef), Rl.eq (undef), Rl.eq (undef), Rl.eq (undef), Rl.eq (undef), Rl.eq (undef), Rl.eq (undef), Rl.eq (undef), Rl.eq (.bool false)] [24, 25, 26, 27, 28, 29, 30, 31, 32, 33, 34, 35, 36, 37, 38, 39, 40, 41, 42, 43, 44, 45, 46, 47, 48, 49, 50, 51, 52, 53, 54, 55, 56, 57, 58, 59] (by kernel_rfl) rfl (by kernel_rfl) (by kernel_rfl) ?_ ?_
              · repeat (first | exact AllFrom.nil_ | (refine AllFrom.cons_ (by rfl) ?_ ?_; rotate_left))
                · intro f w' gG hF hD; have h0 : f 0 = .slice (some ⟨b, off, none⟩) n c := hF 0 (by kernel_rfl); rw [if_pos (wanted_none rfl)]; clear hF hD; exact gives_val (by simp only [execOp, evF, h0]; first | rfl | go_simp) ⟨Gr.refl _, rfl⟩
                · intro f w' gG hF hD; have h3 : f 3 = .int .i64 (k : Int) := hF 3 (by kernel_rfl); rw [if_pos (wanted_none rfl)]; clear hF hD; exact gives_val (by simp only [execOp, evF, h3]; first | rfl | go_simp) ⟨Gr.refl _, rfl⟩
                · intro f w' gG hF hD; have h24 : f 24 = .slice (some ⟨b, off, none⟩) n c := hD 0 24 (by kernel_rfl) rfl; have h25 : f 25 = .int .i64 (k : Int) := hD 1 25 (by kernel_rfl) rfl; rw [if_pos (wanted_none rfl)]; clear hF hD; exact gives_val (by simp only [execOp, evF, h24, h25]; first | rfl | go_simp) ⟨Gr.refl _, rfl⟩
                · intro f w' gG hF hD; have h26 : f 26 = .pointer (some ⟨b, off + k * 6, none⟩) := hD 2 26 (by kernel_rfl) rfl; rw [if_pos (wanted_none rfl)]; clear hF hD; exact gives_val (by simp only [execOp, evF, h26]; first | rfl | go_simp) ⟨Gr.refl _, rfl⟩
                · intro f w' gG hF hD; have h27 : f 27 = .pointer (some ⟨b, off + k * 6 + 1, none⟩) := hD 3 27 (by kernel_rfl) rfl; rw [if_pos (wanted_none rfl)]; clear hF hD; obtain ⟨z0, z1, z2, z3, z4, z5⟩ := HC1.out.below ((below_drewN (Below.refl w1.heap.size w1) 1).trans gG) HBB.out; exact gives_val (by simp only [execOp, evF, h27]; go_simp) ⟨Gr.refl _, rfl⟩
                · intro f w' gG hF hD; have h28 : f 28 = .int .u8 d.w := hD 4 28 (by kernel_rfl) rfl; rw [if_pos (wanted_none rfl)]; clear hF hD; exact gives_val (by simp only [execOp, evF, h28]; first | rfl | go_simp) ⟨Gr.refl _, rfl⟩
                · intro f w' gG hF hD; have h29 : f 29 = .bool false := hD 5 29 (by kernel_rfl) rfl; rw [if_pos (wanted_none rfl)]; clear hF hD; exact gives_val (by simp only [execOp, evF, h29]; first | rfl | go_simp) ⟨Gr.refl _, rfl⟩
                · intro f w' gG hF hD; rw [if_neg (unwanted_some (d := 30) (b := true) rfl rfl (show f 30 = .bool false from hD 6 30 (by kernel_rfl) rfl))]; exact rfl
                · intro f w' gG hF hD; rw [if_neg (unwanted_some (d := 30) (b := true) rfl rfl (show f 30 = .bool false from hD 6 30 (by kernel_rfl) rfl))]; exact rfl
                · intro f w' gG hF hD; rw [if_neg (unwanted_some (d := 30) (b := true) rfl rfl (show f 30 = .bool false from hD 6 30 (by kernel_rfl) rfl))]; exact rfl
                · intro f w' gG hF hD; rw [if_neg (unwanted_some (d := 30) (b := true) rfl rfl (show f 30 = .bool false from hD 6 30 (by kernel_rfl) rfl))]; exact rfl
                · intro f w' gG hF hD; rw [if_neg (unwanted_some (d := 30) (b := true) rfl rfl (show f 30 = .bool false from hD 6 30 (by kernel_rfl) rfl))]; exact rfl
                · intro f w' gG hF hD; rw [if_neg (unwanted_some (d := 30) (b := true) rfl rfl (show f 30 = .bool false from hD 6 30 (by kernel_rfl) rfl))]; exact rfl
                · intro f w' gG hF hD; rw [if_neg (unwanted_undef (d := 36) (b := false) rfl rfl (show f 36 = undef from hD 12 36 (by kernel_rfl) rfl))]; exact rfl
                · intro f w' gG hF hD; rw [if_neg (unwanted_undef (d := 36) (b := false) rfl rfl (show f 36 = undef from hD 12 36 (by kernel_rfl) rfl))]; exact rfl
                · intro f w' gG hF hD; rw [if_neg (unwanted_undef (d := 36) (b := false) rfl rfl (show f 36 = undef from hD 12 36 (by kernel_rfl) rfl))]; exact rfl
                · intro f w' gG hF hD; rw [if_neg (unwanted_undef (d := 36) (b := false) rfl rfl (show f 36 = undef from hD 12 36 (by kernel_rfl) rfl))]; exact rfl
                · intro f w' gG hF hD; rw [if_neg (unwanted_undef (d := 36) (b := false) rfl rfl (show f 36 = undef from hD 12 36 (by kernel_rfl) rfl))]; exact rfl
                · intro f w' gG hF hD; rw [if_neg (unwanted_undef (d := 36) (b := false) rfl rfl (show f 36 = undef from hD 12 36 (by kernel_rfl) rfl))]; exact rfl
                · intro f w' gG hF hD; rw [if_neg (unwanted_undef (d := 36) (b := false) rfl rfl (show f 36 = undef from hD 12 36 (by kernel_rfl) rfl))]; exact rfl
                · intro f w' gG hF hD; rw [if_neg (unwanted_some (d := 30) (b := true) rfl rfl (show f 30 = .bool false from hD 6 30 (by kernel_rfl) rfl))]; exact rfl
                · intro f w' gG hF hD; rw [if_neg (unwanted_some (d := 30) (b := true) rfl rfl (show f 30 = .bool false from hD 6 30 (by kernel_rfl) rfl))]; exact rfl
                · intro f w' gG hF hD; rw [if_neg (unwanted_undef (d := 45) (b := false) rfl rfl (show f 45 = undef from hD 21 45 (by kernel_rfl) rfl))]; exact rfl
                · intro f w' gG hF hD; rw [if_neg (unwanted_undef (d := 45) (b := false) rfl rfl (show f 45 = undef from hD 21 45 (by kernel_rfl) rfl))]; exact rfl
                · intro f w' gG hF hD; rw [if_neg (unwanted_undef (d := 45) (b := false) rfl rfl (show f 45 = undef from hD 21 45 (by kernel_rfl) rfl))]; exact rfl
                · intro f w' gG hF hD; rw [if_neg (unwanted_undef (d := 45) (b := false) rfl rfl (show f 45 = undef from hD 21 45 (by kernel_rfl) rfl))]; exact rfl
                · intro f w' gG hF hD; rw [if_neg (unwanted_undef (d := 45) (b := false) rfl rfl (show f 45 = undef from hD 21 45 (by kernel_rfl) rfl))]; exact rfl
                · intro f w' gG hF hD; rw [if_neg (unwanted_undef (d := 45) (b := false) rfl rfl (show f 45 = undef from hD 21 45 (by kernel_rfl) rfl))]; exact rfl
                · intro f w' gG hF hD; rw [if_neg (unwanted_undef (d := 45) (b := false) rfl rfl (show f 45 = undef from hD 21 45 (by kernel_rfl) rfl))]; exact rfl
                · intro f w' gG hF hD; rw [if_neg (unwanted_undef (d := 45) (b := false) rfl rfl (show f 45 = undef from hD 21 45 (by kernel_rfl) rfl))]; exact rfl
                · intro f w' gG hF hD; rw [if_neg (unwanted_undef (d := 45) (b := false) rfl rfl (show f 45 = undef from hD 21 45 (by kernel_rfl) rfl))]; exact rfl
                · intro f w' gG hF hD; rw [if_neg (unwanted_undef (d := 45) (b := false) rfl rfl (show f 45 = undef from hD 21 45 (by kernel_rfl) rfl))]; exact rfl
                · intro f w' gG hF hD; rw [if_neg (unwanted_undef (d := 45) (b := false) rfl rfl (show f 45 = undef from hD 21 45 (by kernel_rfl) rfl))]; exact rfl
                · intro f w' gG hF hD; rw [if_neg (unwanted_undef (d := 45) (b := false) rfl rfl (show f 45 = undef from hD 21 45 (by kernel_rfl) rfl))]; exact rfl
                · intro f w' gG hF hD; rw [if_neg (unwanted_some (d := 30) (b := true) rfl rfl (show f 30 = .bool false from hD 6 30 (by kernel_rfl) rfl))]; exact rfl
                · intro f w' gG hF hD; have h30 : f 30 = .bool false := hD 6 30 (by kernel_rfl) rfl; have h58 : f 58 = undef := hD 34 58 (by kernel_rfl) rfl; rw [if_pos (wanted_none rfl)]; clear hF hD; exact gives_val (by simp only [execOp, evF, h30, h58]; first | rfl | go_simp) ⟨Gr.refl _, rfl⟩
              · intro f w' gG hD; have h59 : f 59 = .bool false := hD 35 59 rfl; simp only [putAll, List.setIfInBounds_toArray, List.set_cons_zero, List.set_cons_succ, h59]; clear hD
                have hcz := (HC1.out.below ((below_drewN (Below.refl w1.heap.size w1) 1).trans gG) HBB.out).2.1
                have hpz := (HP1.out.below ((below_drewN (Below.refl w1.heap.size w1) 1).trans gG) HBB.out).2.1
                have HRR : Hid (R = false) := Lib.hid (by rw [ER.out, HRO.out, ← EG.out, goodR, EM.out, EA.out, ER2.out, HLF.out]; simp)
                have HFIN : Hid (Below w.heap.size w w') := Lib.hid (HB1.out.trans (Below.mono ((below_drewN (Below.refl w1.heap.size w1) 1).trans gG) HB1.out.size))
                clear gG
                go_wp2_with (fail)
                go_ret
                exact ⟨by rw [HRR.out] <;> rfl, HFIN.out⟩
            · skip
              refine wp_region_rw 79 [Rl.eq (.slice (some ⟨b, off, none⟩) n c), Rl.eq (.int .i64 (k : Int)), Rl.eq (.pointer (some ⟨b, off + k * 6, none⟩)), Rl.eq (.pointer (some ⟨b, off + k * 6 + 1, none⟩)), Rl.eq (.int .u8 d.w), Rl.eq (.bool false), Rl.eq (.bool false), Rl.eq (undef), Rl.eq (undef), Rl.eq (undef), Rl.eq (undef), Rl.eq (undef), Rl.eq (undef), Rl.eq (undef), Rl.eq (undef), Rl.eq (undef), Rl.eq (undef), Rl.eq (undef), Rl.eq (undef), Rl.eq (undef), Rl.eq (undef), Rl.eq (undef), Rl.eq (undef), Rl.eq (undef), Rl.eq (undef), Rl.eq (undef), Rl.eq (undef), Rl.eq (undef), Rl.eq (undef), Rl.eq (undef), Rl.eq (undef), Rl.eq (undef), Rl.eq (undef), Rl.eq (undef), Rl.eq (undef), Rl.eq (.bool false)] [24, 25, 26, 27, 28, 29, 30, 31, 32, 33, 34, 35, 36, 37, 38, 39, 40, 41, 42, 43, 44, 45, 46, 47, 48, 49, 50, 51, 52, 53, 54, 55, 56, 57, 58, 59] (by kernel_rfl) rfl (by kernel_rfl) (by kernel_rfl) ?_ ?_
              · repeat (first | exact AllFrom.nil_ | (refine AllFrom.cons_ (by rfl) ?_ ?_; rotate_left))
                · intro f w' gG hF hD; have h0 : f 0 = .slice (some ⟨b, off, none⟩) n c := hF 0 (by kernel_rfl); rw [if_pos (wanted_none rfl)]; clear hF hD; exact gives_val (by simp only [execOp, evF, h0]; first | rfl | go_simp) ⟨Gr.refl _, rfl⟩
                · intro f w' gG hF hD; have h3 : f 3 = .int .i64 (k : Int) := hF 3 (by kernel_rfl); rw [if_pos (wanted_none rfl)]; clear hF hD; exact gives_val (by simp only [execOp, evF, h3]; first | rfl | go_simp) ⟨Gr.refl _, rfl⟩
                · intro f w' gG hF hD; have h24 : f 24 = .slice (some ⟨b, off, none⟩) n c := hD 0 24 (by kernel_rfl) rfl; have h25 : f 25 = .int .i64 (k : Int) := hD 1 25 (by kernel_rfl) rfl; rw [if_pos (wanted_none rfl)]; clear hF hD; exact gives_val (by simp only [execOp, evF, h24, h25]; first | rfl | go_simp) ⟨Gr.refl _, rfl⟩
                · intro f w' gG hF hD; have h26 : f 26 = .pointer (some ⟨b, off + k * 6, none⟩) := hD 2 26 (by kernel_rfl) rfl; rw [if_pos (wanted_none rfl)]; clear hF hD; exact gives_val (by simp only [execOp, evF, h26]; first | rfl | go_simp) ⟨Gr.refl _, rfl⟩
                · intro f w' gG hF hD; have h27 : f 27 = .pointer (some ⟨b, off + k * 6 + 1, none⟩) := hD 3 27 (by kernel_rfl) rfl; rw [if_pos (wanted_none rfl)]; clear hF hD; obtain ⟨z0, z1, z2, z3, z4, z5⟩ := HC1.out.below ((below_drewN (Below.refl w1.heap.size w1) 1).trans gG) HBB.out; exact gives_val (by simp only [execOp, evF, h27]; go_simp) ⟨Gr.refl _, rfl⟩
                · intro f w' gG hF hD; have h28 : f 28 = .int .u8 d.w := hD 4 28 (by kernel_rfl) rfl; rw [if_pos (wanted_none rfl)]; clear hF hD; exact gives_val (by simp only [execOp, evF, h28]; first | rfl | go_simp) ⟨Gr.refl _, rfl⟩
                · intro f w' gG hF hD; have h29 : f 29 = .bool false := hD 5 29 (by kernel_rfl) rfl; rw [if_pos (wanted_none rfl)]; clear hF hD; exact gives_val (by simp only [execOp, evF, h29]; first | rfl | go_simp) ⟨Gr.refl _, rfl⟩
                · intro f w' gG hF hD; rw [if_neg (unwanted_some (d := 30) (b := true) rfl rfl (show f 30 = .bool false from hD 6 30 (by kernel_rfl) rfl))]; exact rfl
                · intro f w' gG hF hD; rw [if_neg (unwanted_some (d := 30) (b := true) rfl rfl (show f 30 = .bool false from hD 6 30 (by kernel_rfl) rfl))]; exact rfl
                · intro f w' gG hF hD; rw [if_neg (unwanted_some (d := 30) (b := true) rfl rfl (show f 30 = .bool false from hD 6 30 (by kernel_rfl) rfl))]; exact rfl
                · intro f w' gG hF hD; rw [if_neg (unwanted_some (d := 30) (b := true) rfl rfl (show f 30 = .bool false from hD 6 30 (by kernel_rfl) rfl))]; exact rfl
                · intro f w' gG hF hD; rw [if_neg (unwanted_some (d := 30) (b := true) rfl rfl (show f 30 = .bool false from hD 6 30 (by kernel_rfl) rfl))]; exact rfl
                · intro f w' gG hF hD; rw [if_neg (unwanted_some (d := 30) (b := true) rfl rfl (show f 30 = .bool false from hD 6 30 (by kernel_rfl) rfl))]; exact rfl
                · intro f w' gG hF hD; rw [if_neg (unwanted_undef (d := 36) (b := false) rfl rfl (show f 36 = undef from hD 12 36 (by kernel_rfl) rfl))]; exact rfl
                · intro f w' gG hF hD; rw [if_neg (unwanted_undef (d := 36) (b := false) rfl rfl (show f 36 = undef from hD 12 36 (by kernel_rfl) rfl))]; exact rfl
                · intro f w' gG hF hD; rw [if_neg (unwanted_undef (d := 36) (b := false) rfl rfl (show f 36 = undef from hD 12 36 (by kernel_rfl) rfl))]; exact rfl
                · intro f w' gG hF hD; rw [if_neg (unwanted_undef (d := 36) (b := false) rfl rfl (show f 36 = undef from hD 12 36 (by kernel_rfl) rfl))]; exact rfl
                · intro f w' gG hF hD; rw [if_neg (unwanted_undef (d := 36) (b := false) rfl rfl (show f 36 = undef from hD 12 36 (by kernel_rfl) rfl))]; exact rfl
                · intro f w' gG hF hD; rw [if_neg (unwanted_undef (d := 36) (b := false) rfl rfl (show f 36 = undef from hD 12 36 (by kernel_rfl) rfl))]; exact rfl
                · intro f w' gG hF hD; rw [if_neg (unwanted_undef (d := 36) (b := false) rfl rfl (show f 36 = undef from hD 12 36 (by kernel_rfl) rfl))]; exact rfl
                · intro f w' gG hF hD; rw [if_neg (unwanted_some (d := 30) (b := true) rfl rfl (show f 30 = .bool false from hD 6 30 (by kernel_rfl) rfl))]; exact rfl
                · intro f w' gG hF hD; rw [if_neg (unwanted_some (d := 30) (b := true) rfl rfl (show f 30 = .bool false from hD 6 30 (by kernel_rfl) rfl))]; exact rfl
                · intro f w' gG hF hD; rw [if_neg (unwanted_undef (d := 45) (b := false) rfl rfl (show f 45 = undef from hD 21 45 (by kernel_rfl) rfl))]; exact rfl
                · intro f w' gG hF hD; rw [if_neg (unwanted_undef (d := 45) (b := false) rfl rfl (show f 45 = undef from hD 21 45 (by kernel_rfl) rfl))]; exact rfl
                · intro f w' gG hF hD; rw [if_neg (unwanted_undef (d := 45) (b := false) rfl rfl (show f 45 = undef from hD 21 45 (by kernel_rfl) rfl))]; exact rfl
                · intro f w' gG hF hD; rw [if_neg (unwanted_undef (d := 45) (b := false) rfl rfl (show f 45 = undef from hD 21 45 (by kernel_rfl) rfl))]; exact rfl
                · intro f w' gG hF hD; rw [if_neg (unwanted_undef (d := 45) (b := false) rfl rfl (show f 45 = undef from hD 21 45 (by kernel_rfl) rfl))]; exact rfl
                · intro f w' gG hF hD; rw [if_neg (unwanted_undef (d := 45) (b := false) rfl rfl (show f 45 = undef from hD 21 45 (by kernel_rfl) rfl))]; exact rfl
                · intro f w' gG hF hD; rw [if_neg (unwanted_undef (d := 45) (b := false) rfl rfl (show f 45 = undef from hD 21 45 (by kernel_rfl) rfl))]; exact rfl
                · intro f w' gG hF hD; rw [if_neg (unwanted_undef (d := 45) (b := false) rfl rfl (show f 45 = undef from hD 21 45 (by kernel_rfl) rfl))]; exact rfl
                · intro f w' gG hF hD; rw [if_neg (unwanted_undef (d := 45) (b := false) rfl rfl (show f 45 = undef from hD 21 45 (by kernel_rfl) rfl))]; exact rfl
                · intro f w' gG hF hD; rw [if_neg (unwanted_undef (d := 45) (b := false) rfl rfl (show f 45 = undef from hD 21 45 (by kernel_rfl) rfl))]; exact rfl
                · intro f w' gG hF hD; rw [if_neg (unwanted_undef (d := 45) (b := false) rfl rfl (show f 45 = undef from hD 21 45 (by kernel_rfl) rfl))]; exact rfl
                · intro f w' gG hF hD; rw [if_neg (unwanted_undef (d := 45) (b := false) rfl rfl (show f 45 = undef from hD 21 45 (by kernel_rfl) rfl))]; exact rfl
                · intro f w' gG hF hD; rw [if_neg (unwanted_some (d := 30) (b := true) rfl rfl (show f 30 = .bool false from hD 6 30 (by kernel_rfl) rfl))]; exact rfl
                · intro f w' gG hF hD; have h30 : f 30 = .bool false := hD 6 30 (by kernel_rfl) rfl; have h58 : f 58 = undef := hD 34 58 (by kernel_rfl) rfl; rw [if_pos (wanted_none rfl)]; clear hF hD; exact gives_val (by simp only [execOp, evF, h30, h58]; first | rfl | go_simp) ⟨Gr.refl _, rfl⟩
              · intro f w' gG hD; have h59 : f 59 = .bool false := hD 35 59 rfl; simp only [putAll, List.setIfInBounds_toArray, List.set_cons_zero, List.set_cons_succ, h59]; clear hD
                have hcz := (HC1.out.below ((below_drewN (Below.refl w1.heap.size w1) 1).trans gG) HBB.out).2.1
                have hpz := (HP1.out.below ((below_drewN (Below.refl w1.heap.size w1) 1).trans gG) HBB.out).2.1
                have hrr : rowR none ds = rowR (prevO ds (k + 1)) (ds.drop (k + 1)) := by rw [HRO.out, ← EG.out, goodR, EM.out, EA.out, ER2.out, HLF.out]; simp
                have HRR := Lib.hid hrr
                have HFIN : Hid (Below w.heap.size w w') := Lib.hid (HB1.out.trans (Below.mono ((below_drewN (Below.refl w1.heap.size w1) 1).trans gG) HB1.out.size))
                have hcz := (HC1.out.below ((below_drewN (Below.refl w1.heap.size w1) 1).trans gG) HBB.out).2.1
                clear hrr gG
                go_wp2_with (fail)
                go_roundw
                case rel => exact ⟨k + 1, by omega, by go_num, HRR, HFIN⟩
                case measure => simp [intOf]; omega
      · have hrr0 : RR = false := by
          rw [← eR2, beq_int]
          have := of_decide_eq_true (show decide (d.w = 1) = true by rw [← beq_int]; exact eA)
          exact decide_eq_false (by omega)
        subst hrr0
        by_cases hlast : k + 1 = n
        · have HLQ : Hid (((k : Int) == (n : Int) - 1) = true) := Lib.hid (by rw [beq_iff_eq]; omega)
          have hnx : Hid (nxt d (ds.drop (k + 1)) = false) := Lib.hid (by rw [List.drop_of_length_le (by rw [HN.out]; omega)]; rfl)
          clear hlast; refine wp_region_rw 79 [Rl.eq (.slice (some ⟨b, off, none⟩) n c), Rl.eq (.int .i64 (k : Int)), Rl.eq (.pointer (some ⟨b, off + k * 6, none⟩)), Rl.eq (.pointer (some ⟨b, off + k * 6 + 1, none⟩)), Rl.eq (.int .u8 d.w), Rl.eq (.bool true), Rl.eq (.bool true), Rl.eq (.int .i64 (k : Int)), Rl.eq (.slice (some ⟨b, off, none⟩) n c), Rl.eq (.int .i64 (n : Int)), Rl.eq (.int .i64 ((n : Int) - 1)), Rl.eq (.bool true), Rl.eq (.bool true), Rl.eq (undef), Rl.eq (undef), Rl.eq (undef), Rl.eq (undef), Rl.eq (undef), Rl.eq (undef), Rl.eq (undef), Rl.eq (.bool true), Rl.eq (.bool true), Rl.eq (undef), Rl.eq (undef), Rl.eq (undef), Rl.eq (undef), Rl.eq (undef), Rl.eq (undef), Rl.eq (undef), Rl.eq (undef), Rl.eq (undef), Rl.eq (undef), Rl.eq (undef), Rl.eq (undef), Rl.eq (.bool true), Rl.eq (.bool true)] [24, 25, 26, 27, 28, 29, 30, 31, 32, 33, 34, 35, 36, 37, 38, 39, 40, 41, 42, 43, 44, 45, 46, 47, 48, 49, 50, 51, 52, 53, 54, 55, 56, 57, 58, 59] (by kernel_rfl) rfl (by kernel_rfl) (by kernel_rfl) ?_ ?_
          · repeat (first | exact AllFrom.nil_ | (refine AllFrom.cons_ (by rfl) ?_ ?_; rotate_left))
            · intro f w' gG hF hD; have h0 : f 0 = .slice (some ⟨b, off, none⟩) n c := hF 0 (by kernel_rfl); rw [if_pos (wanted_none rfl)]; clear hF hD; exact gives_val (by simp only [execOp, evF, h0]; first | rfl | go_simp) ⟨Gr.refl _, rfl⟩
            · intro f w' gG hF hD; have h3 : f 3 = .int .i64 (k : Int) := hF 3 (by kernel_rfl); rw [if_pos (wanted_none rfl)]; clear hF hD; exact gives_val (by simp only [execOp, evF, h3]; first | rfl | go_simp) ⟨Gr.refl _, rfl⟩
            · intro f w' gG hF hD; have h24 : f 24 = .slice (some ⟨b, off, none⟩) n c := hD 0 24 (by kernel_rfl) rfl; have h25 : f 25 = .int .i64 (k : Int) := hD 1 25 (by kernel_rfl) rfl; rw [if_pos (wanted_none rfl)]; clear hF hD; exact gives_val (by simp only [execOp, evF, h24, h25]; first | rfl | go_simp) ⟨Gr.refl _, rfl⟩
            · intro f w' gG hF hD; have h26 : f 26 = .pointer (some ⟨b, off + k * 6, none⟩) := hD 2 26 (by kernel_rfl) rfl; rw [if_pos (wanted_none rfl)]; clear hF hD; exact gives_val (by simp only [execOp, evF, h26]; first | rfl | go_simp) ⟨Gr.refl _, rfl⟩
            · intro f w' gG hF hD; have h27 : f 27 = .pointer (some ⟨b, off + k * 6 + 1, none⟩) := hD 3 27 (by kernel_rfl) rfl; rw [if_pos (wanted_none rfl)]; clear hF hD; obtain ⟨z0, z1, z2, z3, z4, z5⟩ := HC1.out.below ((below_drewN (Below.refl w1.heap.size w1) 1).trans gG) HBB.out; exact gives_val (by simp only [execOp, evF, h27]; go_simp) ⟨Gr.refl _, rfl⟩
            · intro f w' gG hF hD; have h28 : f 28 = .int .u8 d.w := hD 4 28 (by kernel_rfl) rfl; rw [if_pos (wanted_none rfl)]; clear hF hD; exact gives_val (by simp only [execOp, evF, h28]; first | rfl | go_simp) ⟨Gr.refl _, rfl⟩
            · intro f w' gG hF hD; have h29 : f 29 = .bool true := hD 5 29 (by kernel_rfl) rfl; rw [if_pos (wanted_none rfl)]; clear hF hD; exact gives_val (by simp only [execOp, evF, h29]; first | rfl | go_simp) ⟨Gr.refl _, rfl⟩
            · intro f w' gG hF hD; have h3 : f 3 = .int .i64 (k : Int) := hF 3 (by kernel_rfl); rw [if_pos (wanted_some (d := 30) rfl rfl (hD 6 30 (by kernel_rfl) rfl))]; clear hF hD; exact gives_val (by simp only [execOp, evF, h3]; first | rfl | go_simp) ⟨Gr.refl _, rfl⟩
            · intro f w' gG hF hD; have h0 : f 0 = .slice (some ⟨b, off, none⟩) n c := hF 0 (by kernel_rfl); rw [if_pos (wanted_some (d := 30) rfl rfl (hD 6 30 (by kernel_rfl) rfl))]; clear hF hD; exact gives_val (by simp only [execOp, evF, h0]; first | rfl | go_simp) ⟨Gr.refl _, rfl⟩
            · intro f w' gG hF hD; have h32 : f 32 = .slice (some ⟨b, off, none⟩) n c := hD 8 32 (by kernel_rfl) rfl; rw [if_pos (wanted_some (d := 30) rfl rfl (hD 6 30 (by kernel_rfl) rfl))]; clear hF hD; exact gives_val (by unfold execOp; simp only [resolve, invoke, builtin, Sem.run_bind, Sem.run_pure, Result.andThen_ok, List.map_toArray, List.map_cons, List.map_nil, evF, h32]; first | rfl | go_simp) ⟨Gr.refl _, rfl⟩
            · intro f w' gG hF hD; have h33 : f 33 = .int .i64 (n : Int) := hD 9 33 (by kernel_rfl) rfl; rw [if_pos (wanted_some (d := 30) rfl rfl (hD 6 30 (by kernel_rfl) rfl))]; clear hF hD; exact gives_val (by simp only [execOp, evF, h33]; go_simp; exact HWN.out) ⟨Gr.refl _, rfl⟩
            · intro f w' gG hF hD; have h31 : f 31 = .int .i64 (k : Int) := hD 7 31 (by kernel_rfl) rfl; have h34 : f 34 = .int .i64 ((n : Int) - 1) := hD 10 34 (by kernel_rfl) rfl; rw [if_pos (wanted_some (d := 30) rfl rfl (hD 6 30 (by kernel_rfl) rfl))]; clear hF hD
              have hq := HLQ.out
              exact gives_val (by simp only [execOp, evF, h31, h34]; go_simp) ⟨Gr.refl _, rfl⟩
            · intro f w' gG hF hD; have h35 : f 35 = .bool true := hD 11 35 (by kernel_rfl) rfl; rw [if_pos (wanted_some (d := 30) rfl rfl (hD 6 30 (by kernel_rfl) rfl))]; clear hF hD; exact gives_val (by simp only [execOp, evF, h35]; first | rfl | go_simp) ⟨Gr.refl _, rfl⟩
            · intro f w' gG hF hD; rw [if_neg (unwanted_some (d := 36) (b := false) rfl rfl (show f 36 = .bool true from hD 12 36 (by kernel_rfl) rfl))]; exact rfl
            · intro f w' gG hF hD; rw [if_neg (unwanted_some (d := 36) (b := false) rfl rfl (show f 36 = .bool true from hD 12 36 (by kernel_rfl) rfl))]; exact rfl
            · intro f w' gG hF hD; rw [if_neg (unwanted_some (d := 36) (b := false) rfl rfl (show f 36 = .bool true from hD 12 36 (by kernel_rfl) rfl))]; exact rfl
            · intro f w' gG hF hD; rw [if_neg (unwanted_some (d := 36) (b := false) rfl rfl (show f 36 = .bool true from hD 12 36 (by kernel_rfl) rfl))]; exact rfl
            · intro f w' gG hF hD; rw [if_neg (unwanted_some (d := 36) (b := false) rfl rfl (show f 36 = .bool true from hD 12 36 (by kernel_rfl) rfl))]; exact rfl
            · intro f w' gG hF hD; rw [if_neg (unwanted_some (d := 36) (b := false) rfl rfl (show f 36 = .bool true from hD 12 36 (by kernel_rfl) rfl))]; exact rfl
            · intro f w' gG hF hD; rw [if_neg (unwanted_some (d := 36) (b := false) rfl rfl (show f 36 = .bool true from hD 12 36 (by kernel_rfl) rfl))]; exact rfl
            · intro f w' gG hF hD; have h36 : f 36 = .bool true := hD 12 36 (by kernel_rfl) rfl; have h43 : f 43 = undef := hD 19 43 (by kernel_rfl) rfl; rw [if_pos (wanted_some (d := 30) rfl rfl (hD 6 30 (by kernel_rfl) rfl))]; clear hF hD; exact gives_val (by simp only [execOp, evF, h36, h43]; first | rfl | go_simp) ⟨Gr.refl _, rfl⟩
            · intro f w' gG hF hD; have h44 : f 44 = .bool true := hD 20 44 (by kernel_rfl) rfl; rw [if_pos (wanted_some (d := 30) rfl rfl (hD 6 30 (by kernel_rfl) rfl))]; clear hF hD; exact gives_val (by simp only [execOp, evF, h44]; first | rfl | go_simp) ⟨Gr.refl _, rfl⟩
            · intro f w' gG hF hD; rw [if_neg (unwanted_some (d := 45) (b := false) rfl rfl (show f 45 = .bool true from hD 21 45 (by kernel_rfl) rfl))]; exact rfl
            · intro f w' gG hF hD; rw [if_neg (unwanted_some (d := 45) (b := false) rfl rfl (show f 45 = .bool true from hD 21 45 (by kernel_rfl) rfl))]; exact rfl
            · intro f w' gG hF hD; rw [if_neg (unwanted_some (d := 45) (b := false) rfl rfl (show f 45 = .bool true from hD 21 45 (by kernel_rfl) rfl))]; exact rfl
            · intro f w' gG hF hD; rw [if_neg (unwanted_some (d := 45) (b := false) rfl rfl (show f 45 = .bool true from hD 21 45 (by kernel_rfl) rfl))]; exact rfl
            · intro f w' gG hF hD; rw [if_neg (unwanted_some (d := 45) (b := false) rfl rfl (show f 45 = .bool true from hD 21 45 (by kernel_rfl) rfl))]; exact rfl
            · intro f w' gG hF hD; rw [if_neg (unwanted_some (d := 45) (b := false) rfl rfl (show f 45 = .bool true from hD 21 45 (by kernel_rfl) rfl))]; exact rfl
            · intro f w' gG hF hD; rw [if_neg (unwanted_some (d := 45) (b := false) rfl rfl (show f 45 = .bool true from hD 21 45 (by kernel_rfl) rfl))]; exact rfl
            · intro f w' gG hF hD; rw [if_neg (unwanted_some (d := 45) (b := false) rfl rfl (show f 45 = .bool true from hD 21 45 (by kernel_rfl) rfl))]; exact rfl
            · intro f w' gG hF hD; rw [if_neg (unwanted_some (d := 45) (b := false) rfl rfl (show f 45 = .bool true from hD 21 45 (by kernel_rfl) rfl))]; exact rfl
            · intro f w' gG hF hD; rw [if_neg (unwanted_some (d := 45) (b := false) rfl rfl (show f 45 = .bool true from hD 21 45 (by kernel_rfl) rfl))]; exact rfl
            · intro f w' gG hF hD; rw [if_neg (unwanted_some (d := 45) (b := false) rfl rfl (show f 45 = .bool true from hD 21 45 (by kernel_rfl) rfl))]; exact rfl
            · intro f w' gG hF hD; rw [if_neg (unwanted_some (d := 45) (b := false) rfl rfl (show f 45 = .bool true from hD 21 45 (by kernel_rfl) rfl))]; exact rfl
            · intro f w' gG hF hD; have h45 : f 45 = .bool true := hD 21 45 (by kernel_rfl) rfl; have h57 : f 57 = undef := hD 33 57 (by kernel_rfl) rfl; rw [if_pos (wanted_some (d := 30) rfl rfl (hD 6 30 (by kernel_rfl) rfl))]; clear hF hD; exact gives_val (by simp only [execOp, evF, h45, h57]; first | rfl | go_simp) ⟨Gr.refl _, rfl⟩
            · intro f w' gG hF hD; have h30 : f 30 = .bool true := hD 6 30 (by kernel_rfl) rfl; have h58 : f 58 = .bool true := hD 34 58 (by kernel_rfl) rfl; rw [if_pos (wanted_none rfl)]; clear hF hD; exact gives_val (by simp only [execOp, evF, h30, h58]; first | rfl | go_simp) ⟨Gr.refl _, rfl⟩
          · intro f w' gG hD; have h59 : f 59 = .bool true := hD 35 59 rfl; simp only [putAll, List.setIfInBounds_toArray, List.set_cons_zero, List.set_cons_succ, h59]; clear hD
            have HRR : Hid (R = false) := Lib.hid (by rw [ER.out, HRO.out, ← EG.out, goodR, EM.out, EA.out, ER2.out, hnx.out]; simp)
            have HFIN : Hid (Below w.heap.size w w') := Lib.hid (HB1.out.trans (Below.mono ((below_drewN (Below.refl w1.heap.size w1) 1).trans gG) HB1.out.size))
            clear gG
            go_wp2_with (fail)
            go_ret
            exact ⟨by rw [HRR.out] <;> rfl, HFIN.out⟩
        · have HLQ : Hid (((k : Int) == (n : Int) - 1) = false) := Lib.hid (by rw [beq_eq_false_iff_ne]; omega)
          have HL2 : Hid (k + 1 < n) := Lib.hid (by omega)
          have hxl : k + 1 < ds.length := by rw [HN.out]; omega
          obtain ⟨x, ex⟩ : ∃ x, x = ds[k + 1] := ⟨_, rfl⟩
          have hdx : ds.drop (k + 1) = x :: ds.drop (k + 1 + 1) := by rw [List.drop_eq_getElem_cons hxl, ex]
          obtain ⟨b', off', e', -, hp0⟩ := HRD.out.cellsAt (k + 1) hxl; rw [← ex] at hp0
          injection e' with e'
          injection e' with e1 e2
          subst e1 e2
          have HX1 := Lib.hid (hp0.below HB1.out hb)
          obtain ⟨NX, eNX⟩ : ∃ y, (x.w == 2) = y := ⟨_, rfl⟩; obtain ⟨PE, ePE⟩ : ∃ y, penEq x d = y := ⟨_, rfl⟩
          have EPE := Lib.hid ePE
          have HXN : Hid ((x.w != 2) = (!NX)) := Lib.hid (by rw [bne, eNX])
          have hnx : Hid (nxt d (ds.drop (k + 1)) = (NX && PE)) := Lib.hid (by rw [hdx]; show (isR x && penEq x d) = _; rw [isR, ← beq_int, eNX, ePE])
          clear hlast hp0 hdx ex eNX ePE hxl
          cases NX
          · skip
            refine wp_region_rw 79 [Rl.eq (.slice (some ⟨b, off, none⟩) n c), Rl.eq (.int .i64 (k : Int)), Rl.eq (.pointer (some ⟨b, off + k * 6, none⟩)), Rl.eq (.pointer (some ⟨b, off + k * 6 + 1, none⟩)), Rl.eq (.int .u8 d.w), Rl.eq (.bool true), Rl.eq (.bool true), Rl.eq (.int .i64 (k : Int)), Rl.eq (.slice (some ⟨b, off, none⟩) n c), Rl.eq (.int .i64 (n : Int)), Rl.eq (.int .i64 ((n : Int) - 1)), Rl.eq (.bool false), Rl.eq (.bool false), Rl.eq (.slice (some ⟨b, off, none⟩) n c), Rl.eq (.int .i64 (k : Int)), Rl.eq (.int .i64 ((k : Int) + 1)), Rl.eq (.pointer (some ⟨b, off + (k + 1) * 6, none⟩)), Rl.eq (.pointer (some ⟨b, off + (k + 1) * 6 + 1, none⟩)), Rl.eq (.int .u8 x.w), Rl.eq (.bool true), Rl.eq (.bool true), Rl.eq (.bool true), Rl.eq (undef), Rl.eq (undef), Rl.eq (undef), Rl.eq (undef), Rl.eq (undef), Rl.eq (undef), Rl.eq (undef), Rl.eq (undef), Rl.eq (undef), Rl.eq (undef), Rl.eq (undef), Rl.eq (undef), Rl.eq (.bool true), Rl.eq (.bool true)] [24, 25, 26, 27, 28, 29, 30, 31, 32, 33, 34, 35, 36, 37, 38, 39, 40, 41, 42, 43, 44, 45, 46, 47, 48, 49, 50, 51, 52, 53, 54, 55, 56, 57, 58, 59] (by kernel_rfl) rfl (by kernel_rfl) (by kernel_rfl) ?_ ?_
            · repeat (first | exact AllFrom.nil_ | (refine AllFrom.cons_ (by rfl) ?_ ?_; rotate_left))
              · intro f w' gG hF hD; have h0 : f 0 = .slice (some ⟨b, off, none⟩) n c := hF 0 (by kernel_rfl); rw [if_pos (wanted_none rfl)]; clear hF hD; exact gives_val (by simp only [execOp, evF, h0]; first | rfl | go_simp) ⟨Gr.refl _, rfl⟩
              · intro f w' gG hF hD; have h3 : f 3 = .int .i64 (k : Int) := hF 3 (by kernel_rfl); rw [if_pos (wanted_none rfl)]; clear hF hD; exact gives_val (by simp only [execOp, evF, h3]; first | rfl | go_simp) ⟨Gr.refl _, rfl⟩
              · intro f w' gG hF hD; have h24 : f 24 = .slice (some ⟨b, off, none⟩) n c := hD 0 24 (by kernel_rfl) rfl; have h25 : f 25 = .int .i64 (k : Int) := hD 1 25 (by kernel_rfl) rfl; rw [if_pos (wanted_none rfl)]; clear hF hD; exact gives_val (by simp only [execOp, evF, h24, h25]; first | rfl | go_simp) ⟨Gr.refl _, rfl⟩
              · intro f w' gG hF hD; have h26 : f 26 = .pointer (some ⟨b, off + k * 6, none⟩) := hD 2 26 (by kernel_rfl) rfl; rw [if_pos (wanted_none rfl)]; clear hF hD; exact gives_val (by simp only [execOp, evF, h26]; first | rfl | go_simp) ⟨Gr.refl _, rfl⟩
              · intro f w' gG hF hD; have h27 : f 27 = .pointer (some ⟨b, off + k * 6 + 1, none⟩) := hD 3 27 (by kernel_rfl) rfl; rw [if_pos (wanted_none rfl)]; clear hF hD; obtain ⟨z0, z1, z2, z3, z4, z5⟩ := HC1.out.below ((below_drewN (Below.refl w1.heap.size w1) 1).trans gG) HBB.out; exact gives_val (by simp only [execOp, evF, h27]; go_simp) ⟨Gr.refl _, rfl⟩
              · intro f w' gG hF hD; have h28 : f 28 = .int .u8 d.w := hD 4 28 (by kernel_rfl) rfl; rw [if_pos (wanted_none rfl)]; clear hF hD; exact gives_val (by simp only [execOp, evF, h28]; first | rfl | go_simp) ⟨Gr.refl _, rfl⟩
              · intro f w' gG hF hD; have h29 : f 29 = .bool true := hD 5 29 (by kernel_rfl) rfl; rw [if_pos (wanted_none rfl)]; clear hF hD; exact gives_val (by simp only [execOp, evF, h29]; first | rfl | go_simp) ⟨Gr.refl _, rfl⟩
              · intro f w' gG hF hD; have h3 : f 3 = .int .i64 (k : Int) := hF 3 (by kernel_rfl); rw [if_pos (wanted_some (d := 30) rfl rfl (hD 6 30 (by kernel_rfl) rfl))]; clear hF hD; exact gives_val (by simp only [execOp, evF, h3]; first | rfl | go_simp) ⟨Gr.refl _, rfl⟩
              · intro f w' gG hF hD; have h0 : f 0 = .slice (some ⟨b, off, none⟩) n c := hF 0 (by kernel_rfl); rw [if_pos (wanted_some (d := 30) rfl rfl (hD 6 30 (by kernel_rfl) rfl))]; clear hF hD; exact gives_val (by simp only [execOp, evF, h0]; first | rfl | go_simp) ⟨Gr.refl _, rfl⟩
              · intro f w' gG hF hD; have h32 : f 32 = .slice (some ⟨b, off, none⟩) n c := hD 8 32 (by kernel_rfl) rfl; rw [if_pos (wanted_some (d := 30) rfl rfl (hD 6 30 (by kernel_rfl) rfl))]; clear hF hD; exact gives_val (by unfold execOp; simp only [resolve, invoke, builtin, Sem.run_bind, Sem.run_pure, Result.andThen_ok, List.map_toArray, List.map_cons, List.map_nil, evF, h32]; first | rfl | go_simp) ⟨Gr.refl _, rfl⟩
              · intro f w' gG hF hD; have h33 : f 33 = .int .i64 (n : Int) := hD 9 33 (by kernel_rfl) rfl; rw [if_pos (wanted_some (d := 30) rfl rfl (hD 6 30 (by kernel_rfl) rfl))]; clear hF hD; exact gives_val (by simp only [execOp, evF, h33]; go_simp; exact HWN.out) ⟨Gr.refl _, rfl⟩
              · intro f w' gG hF hD; have h31 : f 31 = .int .i64 (k : Int) := hD 7 31 (by kernel_rfl) rfl; have h34 : f 34 = .int .i64 ((n : Int) - 1) := hD 10 34 (by kernel_rfl) rfl; rw [if_pos (wanted_some (d := 30) rfl rfl (hD 6 30 (by kernel_rfl) rfl))]; clear hF hD
                have hq := HLQ.out
                exact gives_val (by simp only [execOp, evF, h31, h34]; go_simp) ⟨Gr.refl _, rfl⟩
              · intro f w' gG hF hD; have h35 : f 35 = .bool false := hD 11 35 (by kernel_rfl) rfl; rw [if_pos (wanted_some (d := 30) rfl rfl (hD 6 30 (by kernel_rfl) rfl))]; clear hF hD; exact gives_val (by simp only [execOp, evF, h35]; first | rfl | go_simp) ⟨Gr.refl _, rfl⟩
              · intro f w' gG hF hD; have h0 : f 0 = .slice (some ⟨b, off, none⟩) n c := hF 0 (by kernel_rfl); rw [if_pos (wanted_some (d := 36) rfl rfl (hD 12 36 (by kernel_rfl) rfl))]; clear hF hD; exact gives_val (by simp only [execOp, evF, h0]; first | rfl | go_simp) ⟨Gr.refl _, rfl⟩
              · intro f w' gG hF hD; have h3 : f 3 = .int .i64 (k : Int) := hF 3 (by kernel_rfl); rw [if_pos (wanted_some (d := 36) rfl rfl (hD 12 36 (by kernel_rfl) rfl))]; clear hF hD; exact gives_val (by simp only [execOp, evF, h3]; first | rfl | go_simp) ⟨Gr.refl _, rfl⟩
              · intro f w' gG hF hD; have h38 : f 38 = .int .i64 (k : Int) := hD 14 38 (by kernel_rfl) rfl; rw [if_pos (wanted_some (d := 36) rfl rfl (hD 12 36 (by kernel_rfl) rfl))]; clear hF hD; exact gives_val (by simp only [execOp, evF, h38]; go_simp; exact HWA.out) ⟨Gr.refl _, rfl⟩
              · intro f w' gG hF hD; have h37 : f 37 = .slice (some ⟨b, off, none⟩) n c := hD 13 37 (by kernel_rfl) rfl; have h39 : f 39 = .int .i64 ((k : Int) + 1) := hD 15 39 (by kernel_rfl) rfl; rw [if_pos (wanted_some (d := 36) rfl rfl (hD 12 36 (by kernel_rfl) rfl))]; clear hF hD
                have hk1 : ¬ ((k : Int) + 1 < 0) := by omega
                have hk2 : (k : Int) + 1 < (n : Int) := by have := HL2.out; omega
                exact gives_val (by simp only [execOp, evF, h37, h39]; go_simp) ⟨Gr.refl _, rfl⟩
              · intro f w' gG hF hD; have h40 : f 40 = .pointer (some ⟨b, off + (k + 1) * 6, none⟩) := hD 16 40 (by kernel_rfl) rfl; rw [if_pos (wanted_some (d := 36) rfl rfl (hD 12 36 (by kernel_rfl) rfl))]; clear hF hD; exact gives_val (by simp only [execOp, evF, h40]; first | rfl | go_simp) ⟨Gr.refl _, rfl⟩
              · intro f w' gG hF hD; have h41 : f 41 = .pointer (some ⟨b, off + (k + 1) * 6 + 1, none⟩) := hD 17 41 (by kernel_rfl) rfl; rw [if_pos (wanted_some (d := 36) rfl rfl (hD 12 36 (by kernel_rfl) rfl))]; clear hF hD; obtain ⟨z0, z1, z2, z3, z4, z5⟩ := HX1.out.below ((below_drewN (Below.refl w1.heap.size w1) 1).trans gG) HBB.out; exact gives_val (by simp only [execOp, evF, h41]; go_simp) ⟨Gr.refl _, rfl⟩
              · intro f w' gG hF hD; have h42 : f 42 = .int .u8 x.w := hD 18 42 (by kernel_rfl) rfl; rw [if_pos (wanted_some (d := 36) rfl rfl (hD 12 36 (by kernel_rfl) rfl))]; clear hF hD
                have hq := HXN.out
                exact gives_val (by simp only [execOp, evF, h42]; go_simp) ⟨Gr.refl _, rfl⟩
              · intro f w' gG hF hD; have h36 : f 36 = .bool false := hD 12 36 (by kernel_rfl) rfl; have h43 : f 43 = .bool true := hD 19 43 (by kernel_rfl) rfl; rw [if_pos (wanted_some (d := 30) rfl rfl (hD 6 30 (by kernel_rfl) rfl))]; clear hF hD; exact gives_val (by simp only [execOp, evF, h36, h43]; first | rfl | go_simp) ⟨Gr.refl _, rfl⟩
              · intro f w' gG hF hD; have h44 : f 44 = .bool true := hD 20 44 (by kernel_rfl) rfl; rw [if_pos (wanted_some (d := 30) rfl rfl (hD 6 30 (by kernel_rfl) rfl))]; clear hF hD; exact gives_val (by simp only [execOp, evF, h44]; first | rfl | go_simp) ⟨Gr.refl _, rfl⟩
              · intro f w' gG hF hD; rw [if_neg (unwanted_some (d := 45) (b := false) rfl rfl (show f 45 = .bool true from hD 21 45 (by kernel_rfl) rfl))]; exact rfl
              · intro f w' gG hF hD; rw [if_neg (unwanted_some (d := 45) (b := false) rfl rfl (show f 45 = .bool true from hD 21 45 (by kernel_rfl) rfl))]; exact rfl
              · intro f w' gG hF hD; rw [if_neg (unwanted_some (d := 45) (b := false) rfl rfl (show f 45 = .bool true from hD 21 45 (by kernel_rfl) rfl))]; exact rfl
              · intro f w' gG hF hD; rw [if_neg (unwanted_some (d := 45) (b := false) rfl rfl (show f 45 = .bool true from hD 21 45 (by kernel_rfl) rfl))]; exact rfl
              · intro f w' gG hF hD; rw [if_neg (unwanted_some (d := 45) (b := false) rfl rfl (show f 45 = .bool true from hD 21 45 (by kernel_rfl) rfl))]; exact rfl
              · intro f w' gG hF hD; rw [if_neg (unwanted_some (d := 45) (b := false) rfl rfl (show f 45 = .bool true from hD 21 45 (by kernel_rfl) rfl))]; exact rfl
              · intro f w' gG hF hD; rw [if_neg (unwanted_some (d := 45) (b := false) rfl rfl (show f 45 = .bool true from hD 21 45 (by kernel_rfl) rfl))]; exact rfl
              · intro f w' gG hF hD; rw [if_neg (unwanted_some (d := 45) (b := false) rfl rfl (show f 45 = .bool true from hD 21 45 (by kernel_rfl) rfl))]; exact rfl
              · intro f w' gG hF hD; rw [if_neg (unwanted_some (d := 45) (b := false) rfl rfl (show f 45 = .bool true from hD 21 45 (by kernel_rfl) rfl))]; exact rfl
              · intro f w' gG hF hD; rw [if_neg (unwanted_some (d := 45) (b := false) rfl rfl (show f 45 = .bool true from hD 21 45 (by kernel_rfl) rfl))]; exact rfl
              · intro f w' gG hF hD; rw [if_neg (unwanted_some (d := 45) (b := false) rfl rfl (show f 45 = .bool true from hD 21 45 (by kernel_rfl) rfl))]; exact rfl
              · intro f w' gG hF hD; rw [if_neg (unwanted_some (d := 45) (b := false) rfl rfl (show f 45 = .bool true from hD 21 45 (by kernel_rfl) rfl))]; exact rfl
              · intro f w' gG hF hD; have h45 : f 45 = .bool true := hD 21 45 (by kernel_rfl) rfl; have h57 : f 57 = undef := hD 33 57 (by kernel_rfl) rfl; rw [if_pos (wanted_some (d := 30) rfl rfl (hD 6 30 (by kernel_rfl) rfl))]; clear hF hD; exact gives_val (by simp only [execOp, evF, h45, h57]; first | rfl | go_simp) ⟨Gr.refl _, rfl⟩
              · intro f w' gG hF hD; have h30 : f 30 = .bool true := hD 6 30 (by kernel_rfl) rfl; have h58 : f 58 = .bool true := hD 34 58 (by kernel_rfl) rfl; rw [if_pos (wanted_none rfl)]; clear hF hD; exact gives_val (by simp only [execOp, evF, h30, h58]; first | rfl | go_simp) ⟨Gr.refl _, rfl⟩
            · intro f w' gG hD; have h59 : f 59 = .bool true := hD 35 59 rfl; simp only [putAll, List.setIfInBounds_toArray, List.set_cons_zero, List.set_cons_succ, h59]; clear hD
              have HRR : Hid (R = false) := Lib.hid (by rw [ER.out, HRO.out, ← EG.out, goodR, EM.out, EA.out, ER2.out, hnx.out]; simp)
              have HFIN : Hid (Below w.heap.size w w') := Lib.hid (HB1.out.trans (Below.mono ((below_drewN (Below.refl w1.heap.size w1) 1).trans gG) HB1.out.size))
              clear gG
              go_wp2_with (fail)
              go_ret
              exact ⟨by rw [HRR.out] <;> rfl, HFIN.out⟩
          · cases PE
            · skip
              refine wp_region_rw 79 [Rl.eq (.slice (some ⟨b, off, none⟩) n c), Rl.eq (.int .i64 (k : Int)), Rl.eq (.pointer (some ⟨b, off + k * 6, none⟩)), Rl.eq (.pointer (some ⟨b, off + k * 6 + 1, none⟩)), Rl.eq (.int .u8 d.w), Rl.eq (.bool true), Rl.eq (.bool true), Rl.eq (.int .i64 (k : Int)), Rl.eq (.slice (some ⟨b, off, none⟩) n c), Rl.eq (.int .i64 (n : Int)), Rl.eq (.int .i64 ((n : Int) - 1)), Rl.eq (.bool false), Rl.eq (.bool false), Rl.eq (.slice (some ⟨b, off, none⟩) n c), Rl.eq (.int .i64 (k : Int)), Rl.eq (.int .i64 ((k : Int) + 1)), Rl.eq (.pointer (some ⟨b, off + (k + 1) * 6, none⟩)), Rl.eq (.pointer (some ⟨b, off + (k + 1) * 6 + 1, none⟩)), Rl.eq (.int .u8 x.w), Rl.eq (.bool false), Rl.eq (.bool false), Rl.eq (.bool false), Rl.eq (.slice (some ⟨b, off, none⟩) n c), Rl.eq (.int .i64 (k : Int)), Rl.eq (.int .i64 ((k : Int) + 1)), Rl.eq (.pointer (some ⟨b, off + (k + 1) * 6, none⟩)), Rl.eq (.pointer (some ⟨b, off + (k + 1) * 6 + 2, none⟩)), Rl.eq (.agg #[.int .u32 x.fg, .int .u32 x.bg, .int .u8 x.at_, .int .u16 x.ln]), Rl.eq (.slice (some ⟨b, off, none⟩) n c), Rl.eq (.int .i64 (k : Int)), Rl.eq (.pointer (some ⟨b, off + k * 6, none⟩)), Rl.eq (.pointer (some ⟨b, off + k * 6 + 2, none⟩)), Rl.eq (.agg #[.int .u32 d.fg, .int .u32 d.bg, .int .u8 d.at_, .int .u16 d.ln]), Rl.eq (.bool true), Rl.eq (.bool true), Rl.eq (.bool true)] [24, 25, 26, 27, 28, 29, 30, 31, 32, 33, 34, 35, 36, 37, 38, 39, 40, 41, 42, 43, 44, 45, 46, 47, 48, 49, 50, 51, 52, 53, 54, 55, 56, 57, 58, 59] (by kernel_rfl) rfl (by kernel_rfl) (by kernel_rfl) ?_ ?_
              · repeat (first | exact AllFrom.nil_ | (refine AllFrom.cons_ (by rfl) ?_ ?_; rotate_left))
                · intro f w' gG hF hD; have h0 : f 0 = .slice (some ⟨b, off, none⟩) n c := hF 0 (by kernel_rfl); rw [if_pos (wanted_none rfl)]; clear hF hD; exact gives_val (by simp only [execOp, evF, h0]; first | rfl | go_simp) ⟨Gr.refl _, rfl⟩
                · intro f w' gG hF hD; have h3 : f 3 = .int .i64 (k : Int) := hF 3 (by kernel_rfl); rw [if_pos (wanted_none rfl)]; clear hF hD; exact gives_val (by simp only [execOp, evF, h3]; first | rfl | go_simp) ⟨Gr.refl _, rfl⟩
                · intro f w' gG hF hD; have h24 : f 24 = .slice (some ⟨b, off, none⟩) n c := hD 0 24 (by kernel_rfl) rfl; have h25 : f 25 = .int .i64 (k : Int) := hD 1 25 (by kernel_rfl) rfl; rw [if_pos (wanted_none rfl)]; clear hF hD; exact gives_val (by simp only [execOp, evF, h24, h25]; first | rfl | go_simp) ⟨Gr.refl _, rfl⟩
                · intro f w' gG hF hD; have h26 : f 26 = .pointer (some ⟨b, off + k * 6, none⟩) := hD 2 26 (by kernel_rfl) rfl; rw [if_pos (wanted_none rfl)]; clear hF hD; exact gives_val (by simp only [execOp, evF, h26]; first | rfl | go_simp) ⟨Gr.refl _, rfl⟩
                · intro f w' gG hF hD; have h27 : f 27 = .pointer (some ⟨b, off + k * 6 + 1, none⟩) := hD 3 27 (by kernel_rfl) rfl; rw [if_pos (wanted_none rfl)]; clear hF hD; obtain ⟨z0, z1, z2, z3, z4, z5⟩ := HC1.out.below ((below_drewN (Below.refl w1.heap.size w1) 1).trans gG) HBB.out; exact gives_val (by simp only [execOp, evF, h27]; go_simp) ⟨Gr.refl _, rfl⟩
                · intro f w' gG hF hD; have h28 : f 28 = .int .u8 d.w := hD 4 28 (by kernel_rfl) rfl; rw [if_pos (wanted_none rfl)]; clear hF hD; exact gives_val (by simp only [execOp, evF, h28]; first | rfl | go_simp) ⟨Gr.refl _, rfl⟩
                · intro f w' gG hF hD; have h29 : f 29 = .bool true := hD 5 29 (by kernel_rfl) rfl; rw [if_pos (wanted_none rfl)]; clear hF hD; exact gives_val (by simp only [execOp, evF, h29]; first | rfl | go_simp) ⟨Gr.refl _, rfl⟩
                · intro f w' gG hF hD; have h3 : f 3 = .int .i64 (k : Int) := hF 3 (by kernel_rfl); rw [if_pos (wanted_some (d := 30) rfl rfl (hD 6 30 (by kernel_rfl) rfl))]; clear hF hD; exact gives_val (by simp only [execOp, evF, h3]; first | rfl | go_simp) ⟨Gr.refl _, rfl⟩
                · intro f w' gG hF hD; have h0 : f 0 = .slice (some ⟨b, off, none⟩) n c := hF 0 (by kernel_rfl); rw [if_pos (wanted_some (d := 30) rfl rfl (hD 6 30 (by kernel_rfl) rfl))]; clear hF hD; exact gives_val (by simp only [execOp, evF, h0]; first | rfl | go_simp) ⟨Gr.refl _, rfl⟩
                · intro f w' gG hF hD; have h32 : f 32 = .slice (some ⟨b, off, none⟩) n c := hD 8 32 (by kernel_rfl) rfl; rw [if_pos (wanted_some (d := 30) rfl rfl (hD 6 30 (by kernel_rfl) rfl))]; clear hF hD; exact gives_val (by unfold execOp; simp only [resolve, invoke, builtin, Sem.run_bind, Sem.run_pure, Result.andThen_ok, List.map_toArray, List.map_cons, List.map_nil, evF, h32]; first | rfl | go_simp) ⟨Gr.refl _, rfl⟩
                · intro f w' gG hF hD; have h33 : f 33 = .int .i64 (n : Int) := hD 9 33 (by kernel_rfl) rfl; rw [if_pos (wanted_some (d := 30) rfl rfl (hD 6 30 (by kernel_rfl) rfl))]; clear hF hD; exact gives_val (by simp only [execOp, evF, h33]; go_simp; exact HWN.out) ⟨Gr.refl _, rfl⟩
                · intro f w' gG hF hD; have h31 : f 31 = .int .i64 (k : Int) := hD 7 31 (by kernel_rfl) rfl; have h34 : f 34 = .int .i64 ((n : Int) - 1) := hD 10 34 (by kernel_rfl) rfl; rw [if_pos (wanted_some (d := 30) rfl rfl (hD 6 30 (by kernel_rfl) rfl))]; clear hF hD
                  have hq := HLQ.out
                  exact gives_val (by simp only [execOp, evF, h31, h34]; go_simp) ⟨Gr.refl _, rfl⟩
                · intro f w' gG hF hD; have h35 : f 35 = .bool false := hD 11 35 (by kernel_rfl) rfl; rw [if_pos (wanted_some (d := 30) rfl rfl (hD 6 30 (by kernel_rfl) rfl))]; clear hF hD; exact gives_val (by simp only [execOp, evF, h35]; first | rfl | go_simp) ⟨Gr.refl _, rfl⟩
                · intro f w' gG hF hD; have h0 : f 0 = .slice (some ⟨b, off, none⟩) n c := hF 0 (by kernel_rfl); rw [if_pos (wanted_some (d := 36) rfl rfl (hD 12 36 (by kernel_rfl) rfl))]; clear hF hD; exact gives_val (by simp only [execOp, evF, h0]; first | rfl | go_simp) ⟨Gr.refl _, rfl⟩
                · intro f w' gG hF hD; have h3 : f 3 = .int .i64 (k : Int) := hF 3 (by kernel_rfl); rw [if_pos (wanted_some (d := 36) rfl rfl (hD 12 36 (by kernel_rfl) rfl))]; clear hF hD; exact gives_val (by simp only [execOp, evF, h3]; first | rfl | go_simp) ⟨Gr.refl _, rfl⟩
                · intro f w' gG hF hD; have h38 : f 38 = .int .i64 (k : Int) := hD 14 38 (by kernel_rfl) rfl; rw [if_pos (wanted_some (d := 36) rfl rfl (hD 12 36 (by kernel_rfl) rfl))]; clear hF hD; exact gives_val (by simp only [execOp, evF, h38]; go_simp; exact HWA.out) ⟨Gr.refl _, rfl⟩
                · intro f w' gG hF hD; have h37 : f 37 = .slice (some ⟨b, off, none⟩) n c := hD 13 37 (by kernel_rfl) rfl; have h39 : f 39 = .int .i64 ((k : Int) + 1) := hD 15 39 (by kernel_rfl) rfl; rw [if_pos (wanted_some (d := 36) rfl rfl (hD 12 36 (by kernel_rfl) rfl))]; clear hF hD
                  have hk1 : ¬ ((k : Int) + 1 < 0) := by omega
                  have hk2 : (k : Int) + 1 < (n : Int) := by have := HL2.out; omega
                  exact gives_val (by simp only [execOp, evF, h37, h39]; go_simp) ⟨Gr.refl _, rfl⟩
                · intro f w' gG hF hD; have h40 : f 40 = .pointer (some ⟨b, off + (k + 1) * 6, none⟩) := hD 16 40 (by kernel_rfl) rfl; rw [if_pos (wanted_some (d := 36) rfl rfl (hD 12 36 (by kernel_rfl) rfl))]; clear hF hD; exact gives_val (by simp only [execOp, evF, h40]; first | rfl | go_simp) ⟨Gr.refl _, rfl⟩
                · intro f w' gG hF hD; have h41 : f 41 = .pointer (some ⟨b, off + (k + 1) * 6 + 1, none⟩) := hD 17 41 (by kernel_rfl) rfl; rw [if_pos (wanted_some (d := 36) rfl rfl (hD 12 36 (by kernel_rfl) rfl))]; clear hF hD; obtain ⟨z0, z1, z2, z3, z4, z5⟩ := HX1.out.below ((below_drewN (Below.refl w1.heap.size w1) 1).trans gG) HBB.out; exact gives_val (by simp only [execOp, evF, h41]; go_simp) ⟨Gr.refl _, rfl⟩
                · intro f w' gG hF hD; have h42 : f 42 = .int .u8 x.w := hD 18 42 (by kernel_rfl) rfl; rw [if_pos (wanted_some (d := 36) rfl rfl (hD 12 36 (by kernel_rfl) rfl))]; clear hF hD
                  have hq := HXN.out
                  exact gives_val (by simp only [execOp, evF, h42]; go_simp) ⟨Gr.refl _, rfl⟩
                · intro f w' gG hF hD; have h36 : f 36 = .bool false := hD 12 36 (by kernel_rfl) rfl; have h43 : f 43 = .bool false := hD 19 43 (by kernel_rfl) rfl; rw [if_pos (wanted_some (d := 30) rfl rfl (hD 6 30 (by kernel_rfl) rfl))]; clear hF hD; exact gives_val (by simp only [execOp, evF, h36, h43]; first | rfl | go_simp) ⟨Gr.refl _, rfl⟩
                · intro f w' gG hF hD; have h44 : f 44 = .bool false := hD 20 44 (by kernel_rfl) rfl; rw [if_pos (wanted_some (d := 30) rfl rfl (hD 6 30 (by kernel_rfl) rfl))]; clear hF hD; exact gives_val (by simp only [execOp, evF, h44]; first | rfl | go_simp) ⟨Gr.refl _, rfl⟩
                · intro f w' gG hF hD; have h0 : f 0 = .slice (some ⟨b, off, none⟩) n c := hF 0 (by kernel_rfl); rw [if_pos (wanted_some (d := 45) rfl rfl (hD 21 45 (by kernel_rfl) rfl))]; clear hF hD; exact gives_val (by simp only [execOp, evF, h0]; first | rfl | go_simp) ⟨Gr.refl _, rfl⟩
                · intro f w' gG hF hD; have h3 : f 3 = .int .i64 (k : Int) := hF 3 (by kernel_rfl); rw [if_pos (wanted_some (d := 45) rfl rfl (hD 21 45 (by kernel_rfl) rfl))]; clear hF hD; exact gives_val (by simp only [execOp, evF, h3]; first | rfl | go_simp) ⟨Gr.refl _, rfl⟩
                · intro f w' gG hF hD; have h47 : f 47 = .int .i64 (k : Int) := hD 23 47 (by kernel_rfl) rfl; rw [if_pos (wanted_some (d := 45) rfl rfl (hD 21 45 (by kernel_rfl) rfl))]; clear hF hD; exact gives_val (by simp only [execOp, evF, h47]; go_simp; exact HWA.out) ⟨Gr.refl _, rfl⟩
                · intro f w' gG hF hD; have h46 : f 46 = .slice (some ⟨b, off, none⟩) n c := hD 22 46 (by kernel_rfl) rfl; have h48 : f 48 = .int .i64 ((k : Int) + 1) := hD 24 48 (by kernel_rfl) rfl; rw [if_pos (wanted_some (d := 45) rfl rfl (hD 21 45 (by kernel_rfl) rfl))]; clear hF hD
                  have hk1 : ¬ ((k : Int) + 1 < 0) := by omega
                  have hk2 : (k : Int) + 1 < (n : Int) := by have := HL2.out; omega
                  exact gives_val (by simp only [execOp, evF, h46, h48]; go_simp) ⟨Gr.refl _, rfl⟩
                · intro f w' gG hF hD; have h49 : f 49 = .pointer (some ⟨b, off + (k + 1) * 6, none⟩) := hD 25 49 (by kernel_rfl) rfl; rw [if_pos (wanted_some (d := 45) rfl rfl (hD 21 45 (by kernel_rfl) rfl))]; clear hF hD; exact gives_val (by simp only [execOp, evF, h49]; first | rfl | go_simp) ⟨Gr.refl _, rfl⟩
                · intro f w' gG hF hD; have h50 : f 50 = .pointer (some ⟨b, off + (k + 1) * 6 + 2, none⟩) := hD 26 50 (by kernel_rfl) rfl; rw [if_pos (wanted_some (d := 45) rfl rfl (hD 21 45 (by kernel_rfl) rfl))]; clear hF hD; obtain ⟨z0, z1, z2, z3, z4, z5⟩ := HX1.out.below ((below_drewN (Below.refl w1.heap.size w1) 1).trans gG) HBB.out; exact gives_val (by simp only [execOp, evF, h50]; go_simp) ⟨Gr.refl _, rfl⟩
                · intro f w' gG hF hD; have h0 : f 0 = .slice (some ⟨b, off, none⟩) n c := hF 0 (by kernel_rfl); rw [if_pos (wanted_some (d := 45) rfl rfl (hD 21 45 (by kernel_rfl) rfl))]; clear hF hD; exact gives_val (by simp only [execOp, evF, h0]; first | rfl | go_simp) ⟨Gr.refl _, rfl⟩
                · intro f w' gG hF hD; have h3 : f 3 = .int .i64 (k : Int) := hF 3 (by kernel_rfl); rw [if_pos (wanted_some (d := 45) rfl rfl (hD 21 45 (by kernel_rfl) rfl))]; clear hF hD; exact gives_val (by simp only [execOp, evF, h3]; first | rfl | go_simp) ⟨Gr.refl _, rfl⟩
                · intro f w' gG hF hD; have h52 : f 52 = .slice (some ⟨b, off, none⟩) n c := hD 28 52 (by kernel_rfl) rfl; have h53 : f 53 = .int .i64 (k : Int) := hD 29 53 (by kernel_rfl) rfl; rw [if_pos (wanted_some (d := 45) rfl rfl (hD 21 45 (by kernel_rfl) rfl))]; clear hF hD; exact gives_val (by simp only [execOp, evF, h52, h53]; first | rfl | go_simp) ⟨Gr.refl _, rfl⟩
                · intro f w' gG hF hD; have h54 : f 54 = .pointer (some ⟨b, off + k * 6, none⟩) := hD 30 54 (by kernel_rfl) rfl; rw [if_pos (wanted_some (d := 45) rfl rfl (hD 21 45 (by kernel_rfl) rfl))]; clear hF hD; exact gives_val (by simp only [execOp, evF, h54]; first | rfl | go_simp) ⟨Gr.refl _, rfl⟩
                · intro f w' gG hF hD; have h55 : f 55 = .pointer (some ⟨b, off + k * 6 + 2, none⟩) := hD 31 55 (by kernel_rfl) rfl; rw [if_pos (wanted_some (d := 45) rfl rfl (hD 21 45 (by kernel_rfl) rfl))]; clear hF hD; obtain ⟨z0, z1, z2, z3, z4, z5⟩ := HC1.out.below ((below_drewN (Below.refl w1.heap.size w1) 1).trans gG) HBB.out; exact gives_val (by simp only [execOp, evF, h55]; go_simp) ⟨Gr.refl _, rfl⟩
                · intro f w' gG hF hD; have h51 : f 51 = .agg #[.int .u32 x.fg, .int .u32 x.bg, .int .u8 x.at_, .int .u16 x.ln] := hD 27 51 (by kernel_rfl) rfl; have h56 : f 56 = .agg #[.int .u32 d.fg, .int .u32 d.bg, .int .u8 d.at_, .int .u16 d.ln] := hD 32 56 (by kernel_rfl) rfl; rw [if_pos (wanted_some (d := 45) rfl rfl (hD 21 45 (by kernel_rfl) rfl))]; clear hF hD
                  have hpe := run_penNe x d
                  unfold CeD.pen at hpe
                  exact gives_val (by simp only [execOp, evF, h51, h56, hpe, EPE.out]; go_simp; exact EPE.out) ⟨Gr.refl _, rfl⟩
                · intro f w' gG hF hD; have h45 : f 45 = .bool false := hD 21 45 (by kernel_rfl) rfl; have h57 : f 57 = .bool true := hD 33 57 (by kernel_rfl) rfl; rw [if_pos (wanted_some (d := 30) rfl rfl (hD 6 30 (by kernel_rfl) rfl))]; clear hF hD; exact gives_val (by simp only [execOp, evF, h45, h57]; first | rfl | go_simp) ⟨Gr.refl _, rfl⟩
                · intro f w' gG hF hD; have h30 : f 30 = .bool true := hD 6 30 (by kernel_rfl) rfl; have h58 : f 58 = .bool true := hD 34 58 (by kernel_rfl) rfl; rw [if_pos (wanted_none rfl)]; clear hF hD; exact gives_val (by simp only [execOp, evF, h30, h58]; first | rfl | go_simp) ⟨Gr.refl _, rfl⟩
              · intro f w' gG hD; have h59 : f 59 = .bool true := hD 35 59 rfl; simp only [putAll, List.setIfInBounds_toArray, List.set_cons_zero, List.set_cons_succ, h59]; clear hD
                have HRR : Hid (R = false) := Lib.hid (by rw [ER.out, HRO.out, ← EG.out, goodR, EM.out, EA.out, ER2.out, hnx.out]; simp)
                have HFIN : Hid (Below w.heap.size w w') := Lib.hid (HB1.out.trans (Below.mono ((below_drewN (Below.refl w1.heap.size w1) 1).trans gG) HB1.out.size))
                clear gG
                go_wp2_with (fail)
                go_ret
                exact ⟨by rw [HRR.out] <;> rfl, HFIN.out⟩
            · skip
              refine wp_region_rw 79 [Rl.eq (.slice (some ⟨b, off, none⟩) n c), Rl.eq (.int .i64 (k : Int)), Rl.eq (.pointer (some ⟨b, off + k * 6, none⟩)), Rl.eq (.pointer (some ⟨b, off + k * 6 + 1, none⟩)), Rl.eq (.int .u8 d.w), Rl.eq (.bool true), Rl.eq (.bool true), Rl.eq (.int .i64 (k : Int)), Rl.eq (.slice (some ⟨b, off, none⟩) n c), Rl.eq (.int .i64 (n : Int)), Rl.eq (.int .i64 ((n : Int) - 1)), Rl.eq (.bool false), Rl.eq (.bool false), Rl.eq (.slice (some ⟨b, off, none⟩) n c), Rl.eq (.int .i64 (k : Int)), Rl.eq (.int .i64 ((k : Int) + 1)), Rl.eq (.pointer (some ⟨b, off + (k + 1) * 6, none⟩)), Rl.eq (.pointer (some ⟨b, off + (k + 1) * 6 + 1, none⟩)), Rl.eq (.int .u8 x.w), Rl.eq (.bool false), Rl.eq (.bool false), Rl.eq (.bool false), Rl.eq (.slice (some ⟨b, off, none⟩) n c), Rl.eq (.int .i64 (k : Int)), Rl.eq (.int .i64 ((k : Int) + 1)), Rl.eq (.pointer (some ⟨b, off + (k + 1) * 6, none⟩)), Rl.eq (.pointer (some ⟨b, off + (k + 1) * 6 + 2, none⟩)), Rl.eq (.agg #[.int .u32 x.fg, .int .u32 x.bg, .int .u8 x.at_, .int .u16 x.ln]), Rl.eq (.slice (some ⟨b, off, none⟩) n c), Rl.eq (.int .i64 (k : Int)), Rl.eq (.pointer (some ⟨b, off + k * 6, none⟩)), Rl.eq (.pointer (some ⟨b, off + k * 6 + 2, none⟩)), Rl.eq (.agg #[.int .u32 d.fg, .int .u32 d.bg, .int .u8 d.at_, .int .u16 d.ln]), Rl.eq (.bool false), Rl.eq (.bool false), Rl.eq (.bool false)] [24, 25, 26, 27, 28, 29, 30, 31, 32, 33, 34, 35, 36, 37, 38, 39, 40, 41, 42, 43, 44, 45, 46, 47, 48, 49, 50, 51, 52, 53, 54, 55, 56, 57, 58, 59] (by kernel_rfl) rfl (by kernel_rfl) (by kernel_rfl) ?_ ?_
              · repeat (first | exact AllFrom.nil_ | (refine AllFrom.cons_ (by rfl) ?_ ?_; rotate_left))
                · intro f w' gG hF hD; have h0 : f 0 = .slice (some ⟨b, off, none⟩) n c := hF 0 (by kernel_rfl); rw [if_pos (wanted_none rfl)]; clear hF hD; exact gives_val (by simp only [execOp, evF, h0]; first | rfl | go_simp) ⟨Gr.refl _, rfl⟩
                · intro f w' gG hF hD; have h3 : f 3 = .int .i64 (k : Int) := hF 3 (by kernel_rfl); rw [if_pos (wanted_none rfl)]; clear hF hD; exact gives_val (by simp only [execOp, evF, h3]; first | rfl | go_simp) ⟨Gr.refl _, rfl⟩
                · intro f w' gG hF hD; have h24 : f 24 = .slice (some ⟨b, off, none⟩) n c := hD 0 24 (by kernel_rfl) rfl; have h25 : f 25 = .int .i64 (k : Int) := hD 1 25 (by kernel_rfl) rfl; rw [if_pos (wanted_none rfl)]; clear hF hD; exact gives_val (by simp only [execOp, evF, h24, h25]; first | rfl | go_simp) ⟨Gr.refl _, rfl⟩
                · intro f w' gG hF hD; have h26 : f 26 = .pointer (some ⟨b, off + k * 6, none⟩) := hD 2 26 (by kernel_rfl) rfl; rw [if_pos (wanted_none rfl)]; clear hF hD; exact gives_val (by simp only [execOp, evF, h26]; first | rfl | go_simp) ⟨Gr.refl _, rfl⟩
                · intro f w' gG hF hD; have h27 : f 27 = .pointer (some ⟨b, off + k * 6 + 1, none⟩) := hD 3 27 (by kernel_rfl) rfl; rw [if_pos (wanted_none rfl)]; clear hF hD; obtain ⟨z0, z1, z2, z3, z4, z5⟩ := HC1.out.below ((below_drewN (Below.refl w1.heap.size w1) 1).trans gG) HBB.out; exact gives_val (by simp only [execOp, evF, h27]; go_simp) ⟨Gr.refl _, rfl⟩
                · intro f w' gG hF hD; have h28 : f 28 = .int .u8 d.w := hD 4 28 (by kernel_rfl) rfl; rw [if_pos (wanted_none rfl)]; clear hF hD; exact gives_val (by simp only [execOp, evF, h28]; first | rfl | go_simp) ⟨Gr.refl _, rfl⟩
                · intro f w' gG hF hD; have h29 : f 29 = .bool true := hD 5 29 (by kernel_rfl) rfl; rw [if_pos (wanted_none rfl)]; clear hF hD; exact gives_val (by simp only [execOp, evF, h29]; first | rfl | go_simp) ⟨Gr.refl _, rfl⟩
                · intro f w' gG hF hD; have h3 : f 3 = .int .i64 (k : Int) := hF 3 (by kernel_rfl); rw [if_pos (wanted_some (d := 30) rfl rfl (hD 6 30 (by kernel_rfl) rfl))]; clear hF hD; exact gives_val (by simp only [execOp, evF, h3]; first | rfl | go_simp) ⟨Gr.refl _, rfl⟩
                · intro f w' gG hF hD; have h0 : f 0 = .slice (some ⟨b, off, none⟩) n c := hF 0 (by kernel_rfl); rw [if_pos (wanted_some (d := 30) rfl rfl (hD 6 30 (by kernel_rfl) rfl))]; clear hF hD; exact gives_val (by simp only [execOp, evF, h0]; first | rfl | go_simp) ⟨Gr.refl _, rfl⟩
                · intro f w' gG hF hD; have h32 : f 32 = .slice (some ⟨b, off, none⟩) n c := hD 8 32 (by kernel_rfl) rfl; rw [if_pos (wanted_some (d := 30) rfl rfl (hD 6 30 (by kernel_rfl) rfl))]; clear hF hD; exact gives_val (by unfold execOp; simp only [resolve, invoke, builtin, Sem.run_bind, Sem.run_pure, Result.andThen_ok, List.map_toArray, List.map_cons, List.map_nil, evF, h32]; first | rfl | go_simp) ⟨Gr.refl _, rfl⟩
                · intro f w' gG hF hD; have h33 : f 33 = .int .i64 (n : Int) := hD 9 33 (by kernel_rfl) rfl; rw [if_pos (wanted_some (d := 30) rfl rfl (hD 6 30 (by kernel_rfl) rfl))]; clear hF hD; exact gives_val (by simp only [execOp, evF, h33]; go_simp; exact HWN.out) ⟨Gr.refl _, rfl⟩
                · intro f w' gG hF hD; have h31 : f 31 = .int .i64 (k : Int) := hD 7 31 (by kernel_rfl) rfl; have h34 : f 34 = .int .i64 ((n : Int) - 1) := hD 10 34 (by kernel_rfl) rfl; rw [if_pos (wanted_some (d := 30) rfl rfl (hD 6 30 (by kernel_rfl) rfl))]; clear hF hD
                  have hq := HLQ.out
                  exact gives_val (by simp only [execOp, evF, h31, h34]; go_simp) ⟨Gr.refl _, rfl⟩
                · intro f w' gG hF hD; have h35 : f 35 = .bool false := hD 11 35 (by kernel_rfl) rfl; rw [if_pos (wanted_some (d := 30) rfl rfl (hD 6 30 (by kernel_rfl) rfl))]; clear hF hD; exact gives_val (by simp only [execOp, evF, h35]; first | rfl | go_simp) ⟨Gr.refl _, rfl⟩
                · intro f w' gG hF hD; have h0 : f 0 = .slice (some ⟨b, off, none⟩) n c := hF 0 (by kernel_rfl); rw [if_pos (wanted_some (d := 36) rfl rfl (hD 12 36 (by kernel_rfl) rfl))]; clear hF hD; exact gives_val (by simp only [execOp, evF, h0]; first | rfl | go_simp) ⟨Gr.refl _, rfl⟩
                · intro f w' gG hF hD; have h3 : f 3 = .int .i64 (k : Int) := hF 3 (by kernel_rfl); rw [if_pos (wanted_some (d := 36) rfl rfl (hD 12 36 (by kernel_rfl) rfl))]; clear hF hD; exact gives_val (by simp only [execOp, evF, h3]; first | rfl | go_simp) ⟨Gr.refl _, rfl⟩
                · intro f w' gG hF hD; have h38 : f 38 = .int .i64 (k : Int) := hD 14 38 (by kernel_rfl) rfl; rw [if_pos (wanted_some (d := 36) rfl rfl (hD 12 36 (by kernel_rfl) rfl))]; clear hF hD; exact gives_val (by simp only [execOp, evF, h38]; go_simp; exact HWA.out) ⟨Gr.refl _, rfl⟩
                · intro f w' gG hF hD; have h37 : f 37 = .slice (some ⟨b, off, none⟩) n c := hD 13 37 (by kernel_rfl) rfl; have h39 : f 39 = .int .i64 ((k : Int) + 1) := hD 15 39 (by kernel_rfl) rfl; rw [if_pos (wanted_some (d := 36) rfl rfl (hD 12 36 (by kernel_rfl) rfl))]; clear hF hD
                  have hk1 : ¬ ((k : Int) + 1 < 0) := by omega
                  have hk2 : (k : Int) + 1 < (n : Int) := by have := HL2.out; omega
                  exact gives_val (by simp only [execOp, evF, h37, h39]; go_simp) ⟨Gr.refl _, rfl⟩
                · intro f w' gG hF hD; have h40 : f 40 = .pointer (some ⟨b, off + (k + 1) * 6, none⟩) := hD 16 40 (by kernel_rfl) rfl; rw [if_pos (wanted_some (d := 36) rfl rfl (hD 12 36 (by kernel_rfl) rfl))]; clear hF hD; exact gives_val (by simp only [execOp, evF, h40]; first | rfl | go_simp) ⟨Gr.refl _, rfl⟩
                · intro f w' gG hF hD; have h41 : f 41 = .pointer (some ⟨b, off + (k + 1) * 6 + 1, none⟩) := hD 17 41 (by kernel_rfl) rfl; rw [if_pos (wanted_some (d := 36) rfl rfl (hD 12 36 (by kernel_rfl) rfl))]; clear hF hD; obtain ⟨z0, z1, z2, z3, z4, z5⟩ := HX1.out.below ((below_drewN (Below.refl w1.heap.size w1) 1).trans gG) HBB.out; exact gives_val (by simp only [execOp, evF, h41]; go_simp) ⟨Gr.refl _, rfl⟩
                · intro f w' gG hF hD; have h42 : f 42 = .int .u8 x.w := hD 18 42 (by kernel_rfl) rfl; rw [if_pos (wanted_some (d := 36) rfl rfl (hD 12 36 (by kernel_rfl) rfl))]; clear hF hD
                  have hq := HXN.out
                  exact gives_val (by simp only [execOp, evF, h42]; go_simp) ⟨Gr.refl _, rfl⟩
                · intro f w' gG hF hD; have h36 : f 36 = .bool false := hD 12 36 (by kernel_rfl) rfl; have h43 : f 43 = .bool false := hD 19 43 (by kernel_rfl) rfl; rw [if_pos (wanted_some (d := 30) rfl rfl (hD 6 30 (by kernel_rfl) rfl))]; clear hF hD; exact gives_val (by simp only [execOp, evF, h36, h43]; first | rfl | go_simp) ⟨Gr.refl _, rfl⟩
                · intro f w' gG hF hD; have h44 : f 44 = .bool false := hD 20 44 (by kernel_rfl) rfl; rw [if_pos (wanted_some (d := 30) rfl rfl (hD 6 30 (by kernel_rfl) rfl))]; clear hF hD; exact gives_val (by simp only [execOp, evF, h44]; first | rfl | go_simp) ⟨Gr.refl _, rfl⟩
                · intro f w' gG hF hD; have h0 : f 0 = .slice (some ⟨b, off, none⟩) n c := hF 0 (by kernel_rfl); rw [if_pos (wanted_some (d := 45) rfl rfl (hD 21 45 (by kernel_rfl) rfl))]; clear hF hD; exact gives_val (by simp only [execOp, evF, h0]; first | rfl | go_simp) ⟨Gr.refl _, rfl⟩
                · intro f w' gG hF hD; have h3 : f 3 = .int .i64 (k : Int) := hF 3 (by kernel_rfl); rw [if_pos (wanted_some (d := 45) rfl rfl (hD 21 45 (by kernel_rfl) rfl))]; clear hF hD; exact gives_val (by simp only [execOp, evF, h3]; first | rfl | go_simp) ⟨Gr.refl _, rfl⟩
                · intro f w' gG hF hD; have h47 : f 47 = .int .i64 (k : Int) := hD 23 47 (by kernel_rfl) rfl; rw [if_pos (wanted_some (d := 45) rfl rfl (hD 21 45 (by kernel_rfl) rfl))]; clear hF hD; exact gives_val (by simp only [execOp, evF, h47]; go_simp; exact HWA.out) ⟨Gr.refl _, rfl⟩
                · intro f w' gG hF hD; have h46 : f 46 = .slice (some ⟨b, off, none⟩) n c := hD 22 46 (by kernel_rfl) rfl; have h48 : f 48 = .int .i64 ((k : Int) + 1) := hD 24 48 (by kernel_rfl) rfl; rw [if_pos (wanted_some (d := 45) rfl rfl (hD 21 45 (by kernel_rfl) rfl))]; clear hF hD
                  have hk1 : ¬ ((k : Int) + 1 < 0) := by omega
                  have hk2 : (k : Int) + 1 < (n : Int) := by have := HL2.out; omega
                  exact gives_val (by simp only [execOp, evF, h46, h48]; go_simp) ⟨Gr.refl _, rfl⟩
                · intro f w' gG hF hD; have h49 : f 49 = .pointer (some ⟨b, off + (k + 1) * 6, none⟩) := hD 25 49 (by kernel_rfl) rfl; rw [if_pos (wanted_some (d := 45) rfl rfl (hD 21 45 (by kernel_rfl) rfl))]; clear hF hD; exact gives_val (by simp only [execOp, evF, h49]; first | rfl | go_simp) ⟨Gr.refl _, rfl⟩
                · intro f w' gG hF hD; have h50 : f 50 = .pointer (some ⟨b, off + (k + 1) * 6 + 2, none⟩) := hD 26 50 (by kernel_rfl) rfl; rw [if_pos (wanted_some (d := 45) rfl rfl (hD 21 45 (by kernel_rfl) rfl))]; clear hF hD; obtain ⟨z0, z1, z2, z3, z4, z5⟩ := HX1.out.below ((below_drewN (Below.refl w1.heap.size w1) 1).trans gG) HBB.out; exact gives_val (by simp only [execOp, evF, h50]; go_simp) ⟨Gr.refl _, rfl⟩
                · intro f w' gG hF hD; have h0 : f 0 = .slice (some ⟨b, off, none⟩) n c := hF 0 (by kernel_rfl); rw [if_pos (wanted_some (d := 45) rfl rfl (hD 21 45 (by kernel_rfl) rfl))]; clear hF hD; exact gives_val (by simp only [execOp, evF, h0]; first | rfl | go_simp) ⟨Gr.refl _, rfl⟩
                · intro f w' gG hF hD; have h3 : f 3 = .int .i64 (k : Int) := hF 3 (by kernel_rfl); rw [if_pos (wanted_some (d := 45) rfl rfl (hD 21 45 (by kernel_rfl) rfl))]; clear hF hD; exact gives_val (by simp only [execOp, evF, h3]; first | rfl | go_simp) ⟨Gr.refl _, rfl⟩
                · intro f w' gG hF hD; have h52 : f 52 = .slice (some ⟨b, off, none⟩) n c := hD 28 52 (by kernel_rfl) rfl; have h53 : f 53 = .int .i64 (k : Int) := hD 29 53 (by kernel_rfl) rfl; rw [if_pos (wanted_some (d := 45) rfl rfl (hD 21 45 (by kernel_rfl) rfl))]; clear hF hD; exact gives_val (by simp only [execOp, evF, h52, h53]; first | rfl | go_simp) ⟨Gr.refl _, rfl⟩
                · intro f w' gG hF hD; have h54 : f 54 = .pointer (some ⟨b, off + k * 6, none⟩) := hD 30 54 (by kernel_rfl) rfl; rw [if_pos (wanted_some (d := 45) rfl rfl (hD 21 45 (by kernel_rfl) rfl))]; clear hF hD; exact gives_val (by simp only [execOp, evF, h54]; first | rfl | go_simp) ⟨Gr.refl _, rfl⟩
                · intro f w' gG hF hD; have h55 : f 55 = .pointer (some ⟨b, off + k * 6 + 2, none⟩) := hD 31 55 (by kernel_rfl) rfl; rw [if_pos (wanted_some (d := 45) rfl rfl (hD 21 45 (by kernel_rfl) rfl))]; clear hF hD; obtain ⟨z0, z1, z2, z3, z4, z5⟩ := HC1.out.below ((below_drewN (Below.refl w1.heap.size w1) 1).trans gG) HBB.out; exact gives_val (by simp only [execOp, evF, h55]; go_simp) ⟨Gr.refl _, rfl⟩
                · intro f w' gG hF hD; have h51 : f 51 = .agg #[.int .u32 x.fg, .int .u32 x.bg, .int .u8 x.at_, .int .u16 x.ln] := hD 27 51 (by kernel_rfl) rfl; have h56 : f 56 = .agg #[.int .u32 d.fg, .int .u32 d.bg, .int .u8 d.at_, .int .u16 d.ln] := hD 32 56 (by kernel_rfl) rfl; rw [if_pos (wanted_some (d := 45) rfl rfl (hD 21 45 (by kernel_rfl) rfl))]; clear hF hD
                  have hpe := run_penNe x d
                  unfold CeD.pen at hpe
                  exact gives_val (by simp only [execOp, evF, h51, h56, hpe, EPE.out]; go_simp; exact EPE.out) ⟨Gr.refl _, rfl⟩
                · intro f w' gG hF hD; have h45 : f 45 = .bool false := hD 21 45 (by kernel_rfl) rfl; have h57 : f 57 = .bool false := hD 33 57 (by kernel_rfl) rfl; rw [if_pos (wanted_some (d := 30) rfl rfl (hD 6 30 (by kernel_rfl) rfl))]; clear hF hD; exact gives_val (by simp only [execOp, evF, h45, h57]; first | rfl | go_simp) ⟨Gr.refl _, rfl⟩
                · intro f w' gG hF hD; have h30 : f 30 = .bool true := hD 6 30 (by kernel_rfl) rfl; have h58 : f 58 = .bool false := hD 34 58 (by kernel_rfl) rfl; rw [if_pos (wanted_none rfl)]; clear hF hD; exact gives_val (by simp only [execOp, evF, h30, h58]; first | rfl | go_simp) ⟨Gr.refl _, rfl⟩
              · intro f w' gG hD; have h59 : f 59 = .bool false := hD 35 59 rfl; simp only [putAll, List.setIfInBounds_toArray, List.set_cons_zero, List.set_cons_succ, h59]; clear hD
                have hrr : rowR none ds = rowR (prevO ds (k + 1)) (ds.drop (k + 1)) := by rw [HRO.out, ← EG.out, goodR, EM.out, EA.out, ER2.out, hnx.out]; simp
                have HRR := Lib.hid hrr
                have HFIN : Hid (Below w.heap.size w w') := Lib.hid (HB1.out.trans (Below.mono ((below_drewN (Below.refl w1.heap.size w1) 1).trans gG) HB1.out.size))
                have hcz := (HC1.out.below ((below_drewN (Below.refl w1.heap.size w1) 1).trans gG) HBB.out).2.1
                clear hrr gG
                go_wp2_with (fail)
                go_roundw
                case rel => exact ⟨k + 1, by omega, by go_num, HRR, HFIN⟩
                case measure => simp [intOf]; omega
    · obtain rfl : n = k := by omega
      have hge' : ¬ ((n : Int) < (n : Int)) := by omega
      have HRR : Hid (R = true) := Lib.hid (by rw [ER.out, HG.out, List.drop_of_length_le (by have := HN.out; omega), rowR])
      go_wp2_with (fail)
      go_ret
      exact ⟨by rw [HRR.out] <;> rfl, HB.out⟩
end Go.Proofs.YtndjggabdajbfaaGreatDoor


