/- The walk of the law MacPieces: it returns true. Conditions: the row's own; the table stands. -/
import Derived.Test.YtacindehajholaaDoorMl
import Derived.Test.YtacindehajholaaDoorOp2
import Derived.Test.YtacindehajholaaDoorRp
namespace Go.Proofs.YtacindehajholaaDoor
open Go Go.RowKit
attribute [local go_sem] run_eq_sumV run_guard_sumV

set_option maxRecDepth 100000 in
set_option maxHeartbeats 4000000 in
theorem MacPieces_walk (w : World) (A : Option Addr) (n c : Nat) (bs : List UInt8) (hn : bs.length = n) (hr : Rd w A (bs.map bv)) (hc : n ≤ c) (hm : c ≤ maxLen) (hl : n ≤ 140737488351232)
    (A2 : Option Addr) (n2 c2 : Nat) (bs2 : List UInt8) (hn2 : bs2.length = n2) (hr2 : Rd w A2 (bs2.map bv)) (hc2 : n2 ≤ c2) (hm2 : c2 ≤ maxLen) (hl2 : n2 ≤ 140737488351232)
    (z : Int) (_hz : (Lit.int .i64 z).wf = true) (hT : Tab w) :
    Calls Tryd.prog 9 #[.slice A n c, .slice A2 n2 c2, .int .i64 z] w fun e w' => e = .returned (.bool true) ∧ Below w.heap.size w w' := by
  have HN := Lib.hid hn; clear hn
  have HN2 := Lib.hid hn2; clear hn2
  have HT := Lib.hid hT; clear hT
  go_enter Tryd.func9, Tryd.ntmps9
  go_wp2_with (fail)
  have r1 := RdS_lit w [(A, n, c), (A2, n2, c2)] [bs, bs2] 25 rfl (by
    simp only [List.zip_cons_cons, List.zip_nil_right, List.forall_mem_cons]
    exact ⟨⟨HN.out, hr, hc, hm⟩, ⟨HN2.out, hr2, hc2, hm2⟩, fun x hx => by cases hx⟩)
  simp only [List.map_cons, List.map_nil] at r1
  have k1 := (Below.refl w.heap.size w).alloc (Nat.le_refl _) (.cells #[.slice A n c, .slice A2 n2 c2] 25)
  refine (great_c _ 2 2 [bs, bs2] _ rfl r1 (by omega) (by
    simp only [List.forall_mem_cons]
    exact ⟨by rw [HN.out]; exact hl, by rw [HN2.out]; exact hl2, fun x hx => by cases hx⟩)).mono ?_
  rintro e w' ⟨⟨g, rfl, hg⟩, rfl⟩
  clear r1
  have HG := Lib.hid hg; clear hg
  cases g with
  | true =>
    go_wp2_with (fail)
    refine (fixed4_c _ (Tab.below HT.out k1 HT.out.1)).mono ?_
    rintro e w1 ⟨rfl, hb1⟩
    go_wp2_with (fail)
    go_ret
    exact ⟨rfl, k1.trans (hb1.mono k1.size)⟩
  | false =>
    have hsz := HG.out rfl
    simp only [List.flatten_cons, List.flatten_nil, List.append_nil, List.length_append] at hsz
    rw [HN.out, HN2.out] at hsz
    have hl3 : bs2.length ≤ 900000000 := by rw [HN2.out]; omega
    have HL3 := Lib.hid hl3; clear hl3
    have cont : ∃ K : Nat, K ≤ n2 ∧ ((z ≤ 0 ∧ K = 0) ∨ (0 < z ∧ z ≤ (n2 : Int) ∧ z = (K : Int)) ∨ ((n2 : Int) < z ∧ 0 < z ∧ K = n2)) := by
      rcases Int.lt_or_le 0 z with h0 | h0
      · rcases Int.lt_or_le (n2 : Int) z with h1 | h1
        · exact ⟨n2, Nat.le_refl _, .inr (.inr ⟨h1, h0, rfl⟩)⟩
        · exact ⟨z.toNat, by omega, .inr (.inl ⟨h0, h1, by omega⟩)⟩
      · exact ⟨0, Nat.zero_le _, .inl ⟨h0, rfl⟩⟩
    obtain ⟨K, hK, hcase⟩ := cont
    have hKc : K ≤ c2 := by omega
    have s1 := k1.size
    obtain ⟨A6, c6, H6, r6, q6, q6'⟩ := cutFrom w A2 n2 c2 K bs2 HN2.out hr2 hK hc2
    have rt := hr2.take K
    rw [← List.map_take] at rt
    have ht1 : (bs2.take K).length = K := by rw [List.length_take, HN2.out]; omega
    have ht2 : (bs2.drop K).length = n2 - K := by rw [List.length_drop, HN2.out]
    have HT1 := Lib.hid ht1; clear ht1
    have HT2 := Lib.hid ht2; clear ht2
    rcases hcase with ⟨h0, e0⟩ | ⟨h0, h1, e0⟩ | ⟨h1, h0, e0⟩
    · have hzz : (0 : Int) = (K : Int) := by omega
      have HE := Lib.hid e0; clear e0
      have HZ := Lib.hid hzz; clear hzz
      go_wp2_with (fail)
      skip
      have kk := below_drewN k1 1
      refine wp_region_rl 45 [Rl.eq (.bool true), Rl.eq (.bool true), Rl.eq (.slice A n c), Rl.eq (.slice A2 n2 c2), Rl.eq (.int .i64 (K : Int)), Rl.eq (.slice A2 K c2), Rl.eq (.slice A2 n2 c2), Rl.eq (.int .i64 (K : Int)), Rl.eq (.slice A6 (n2 - K) c6), Rl.rds 2 [bs2.take K, bs2.drop K], Rl.eq (sumV (codeB bs bs2)), Rl.eq (.slice A n c), Rl.eq (.slice A2 n2 c2), Rl.rds 1 [bs2], Rl.eq (sumV (codeB bs bs2)), Rl.eq (.bool true), Rl.eq (.bool true), Rl.eq (.bool true), Rl.eq (.slice A n c), Rl.eq (.slice A2 n2 c2), Rl.rds 2 [[], bs2], Rl.eq (sumV (codeB bs bs2)), Rl.eq (.slice A n c), Rl.eq (.slice A2 n2 c2), Rl.rds 1 [bs2], Rl.eq (sumV (codeB bs bs2)), Rl.eq (.bool true), Rl.eq (.bool true), Rl.eq (.bool true)] (by kernel_rfl) rfl (by kernel_rfl) ?_ ?_
      · repeat (first | exact AllFrom.nil_ | (refine AllFrom.cons_ (by rfl) ?_ ?_; rotate_left))
        · intro f w' g hF hD
          rw [if_pos (wanted_none rfl)]
          clear hF hD
          refine gives_func rfl Tryd.func19 (by kernel_rfl) rfl (args := #[]) (by simp) ((fixed4_c _ (Tab.below HT.out (kk.trans (g.mono kk.size)) HT.out.1)).mono ?_)
          rintro e w'' ⟨rfl, hb⟩
          exact ⟨_, rfl, hb, rfl⟩
        · intro f w' g hF hD
          have h17 : f 17 = (.bool true) := hD 0 17 (by kernel_rfl) rfl
          rw [if_pos (wanted_none rfl)]
          clear hF hD
          exact gives_val (by simp only [execOp, evF, h17]; first | rfl | go_simp) ⟨Gr.refl _, rfl⟩
        · intro f w' g hF hD
          have h0 : f 0 = .slice A n c := hF 0 (by kernel_rfl)
          rw [if_pos (wanted_some (d := 18) rfl rfl (hD 1 18 (by kernel_rfl) rfl))]
          clear hF hD
          exact gives_val (by simp only [execOp, evF, h0]; first | rfl | go_simp) ⟨Gr.refl _, rfl⟩
        · intro f w' g hF hD
          have h1 : f 1 = .slice A2 n2 c2 := hF 1 (by kernel_rfl)
          rw [if_pos (wanted_some (d := 18) rfl rfl (hD 1 18 (by kernel_rfl) rfl))]
          clear hF hD
          exact gives_val (by simp only [execOp, evF, h1]; first | rfl | go_simp) ⟨Gr.refl _, rfl⟩
        · intro f w' g hF hD
          have h2 : f 2 = .int .i64 (K : Int) := (hF 2 (by kernel_rfl)).trans (congrArg (Value.int .i64) (by first | exact HZ.out | (have := HZ.out; omega)))
          rw [if_pos (wanted_some (d := 18) rfl rfl (hD 1 18 (by kernel_rfl) rfl))]
          clear hF hD
          exact gives_val (by simp only [execOp, evF, h2]; first | rfl | go_simp) ⟨Gr.refl _, rfl⟩
        · intro f w' g hF hD
          have h20 : f 20 = (.slice A2 n2 c2) := hD 3 20 (by kernel_rfl) rfl
          have h21 : f 21 = (.int .i64 (K : Int)) := hD 4 21 (by kernel_rfl) rfl
          rw [if_pos (wanted_some (d := 18) rfl rfl (hD 1 18 (by kernel_rfl) rfl))]
          clear hF hD
          exact gives_val (by simp only [execOp, evF, Option.map_some, Option.map_none, h20, h21]; go_simp) ⟨Gr.refl _, rfl⟩
        · intro f w' g hF hD
          have h1 : f 1 = .slice A2 n2 c2 := hF 1 (by kernel_rfl)
          rw [if_pos (wanted_some (d := 18) rfl rfl (hD 1 18 (by kernel_rfl) rfl))]
          clear hF hD
          exact gives_val (by simp only [execOp, evF, h1]; first | rfl | go_simp) ⟨Gr.refl _, rfl⟩
        · intro f w' g hF hD
          have h2 : f 2 = .int .i64 (K : Int) := (hF 2 (by kernel_rfl)).trans (congrArg (Value.int .i64) (by first | exact HZ.out | (have := HZ.out; omega)))
          rw [if_pos (wanted_some (d := 18) rfl rfl (hD 1 18 (by kernel_rfl) rfl))]
          clear hF hD
          exact gives_val (by simp only [execOp, evF, h2]; first | rfl | go_simp) ⟨Gr.refl _, rfl⟩
        · intro f w' g hF hD
          have h23 : f 23 = (.slice A2 n2 c2) := hD 6 23 (by kernel_rfl) rfl
          have h24 : f 24 = (.int .i64 (K : Int)) := hD 7 24 (by kernel_rfl) rfl
          rw [if_pos (wanted_some (d := 18) rfl rfl (hD 1 18 (by kernel_rfl) rfl))]
          clear hF hD
          exact gives_val (by simp only [execOp, evF, Option.map_some, Option.map_none, h23, h24]; simp only [Sem.run_bind, H6.out, Result.andThen_ok, Sem.run_pure]) ⟨Gr.refl _, rfl⟩
        · intro f w' g hF hD
          have h22 : f 22 = (.slice A2 K c2) := hD 5 22 (by kernel_rfl) rfl
          have h25 : f 25 = (.slice A6 (n2 - K) c6) := hD 8 25 (by kernel_rfl) rfl
          rw [if_pos (wanted_some (d := 18) rfl rfl (hD 1 18 (by kernel_rfl) rfl))]
          clear hF hD
          have kg := kk.trans (g.mono kk.size)
          have r1 := rds_lit w' [(A2, K, c2), (A6, n2 - K, c6)] [bs2.take K, bs2.drop K] 2 rfl rfl (by
              simp only [List.zip_cons_cons, List.zip_nil_right, List.forall_mem_cons]
              exact ⟨⟨HT1.out, rt.below kg, hKc, hm2⟩, ⟨HT2.out, r6.below kg, q6, Nat.le_trans q6' hm2⟩, fun x hx => by cases hx⟩)
          simp only [List.map_cons, List.map_nil] at r1
          exact gives_val (by simp only [execOp, evF, h22, h25]; first | rfl | go_simp) ⟨(Below.refl _ _).alloc (Nat.le_refl _) _, r1⟩
        · intro f w' g hF hD
          have h19 : f 19 = (.slice A n c) := hD 2 19 (by kernel_rfl) rfl
          obtain ⟨X26, h26, r26⟩ : ∃ X, f 26 = .slice X 2 2 ∧ RdS w' X [bs2.take K, bs2.drop K] := hD 9 26 (by kernel_rfl) rfl
          rw [if_pos (wanted_some (d := 18) rfl rfl (hD 1 18 (by kernel_rfl) rfl))]
          clear hF hD
          have kg := kk.trans (g.mono kk.size)
          refine gives_func rfl Tryd.func21 (by kernel_rfl) rfl (by simp only [List.map_toArray, List.map_cons, List.map_nil, evF, h19, h26]) ((Code_c A n c bs X26 2 2 [bs2.take K, bs2.drop K] bs2 _ HN.out (hr.below kg) hc hm (by omega) rfl r26 (by omega) (by simp) HL3.out (Tab.below HT.out kg HT.out.1)).mono ?_)
          rintro e w'' ⟨rfl, hb⟩
          exact ⟨_, rfl, hb, rfl⟩
        · intro f w' g hF hD
          have h0 : f 0 = .slice A n c := hF 0 (by kernel_rfl)
          rw [if_pos (wanted_some (d := 18) rfl rfl (hD 1 18 (by kernel_rfl) rfl))]
          clear hF hD
          exact gives_val (by simp only [execOp, evF, h0]; first | rfl | go_simp) ⟨Gr.refl _, rfl⟩
        · intro f w' g hF hD
          have h1 : f 1 = .slice A2 n2 c2 := hF 1 (by kernel_rfl)
          rw [if_pos (wanted_some (d := 18) rfl rfl (hD 1 18 (by kernel_rfl) rfl))]
          clear hF hD
          exact gives_val (by simp only [execOp, evF, h1]; first | rfl | go_simp) ⟨Gr.refl _, rfl⟩
        · intro f w' g hF hD
          have h29 : f 29 = (.slice A2 n2 c2) := hD 12 29 (by kernel_rfl) rfl
          rw [if_pos (wanted_some (d := 18) rfl rfl (hD 1 18 (by kernel_rfl) rfl))]
          clear hF hD
          have kg := kk.trans (g.mono kk.size)
          have r1 := rds_lit w' [(A2, n2, c2)] [bs2] 1 rfl rfl (by
              simp only [List.zip_cons_cons, List.zip_nil_right, List.forall_mem_cons]
              exact ⟨⟨HN2.out, hr2.below kg, hc2, hm2⟩, fun x hx => by cases hx⟩)
          simp only [List.map_cons, List.map_nil] at r1
          exact gives_val (by simp only [execOp, evF, h29]; first | rfl | go_simp) ⟨(Below.refl _ _).alloc (Nat.le_refl _) _, r1⟩
        · intro f w' g hF hD
          have h28 : f 28 = (.slice A n c) := hD 11 28 (by kernel_rfl) rfl
          obtain ⟨X30, h30, r30⟩ : ∃ X, f 30 = .slice X 1 1 ∧ RdS w' X [bs2] := hD 13 30 (by kernel_rfl) rfl
          rw [if_pos (wanted_some (d := 18) rfl rfl (hD 1 18 (by kernel_rfl) rfl))]
          clear hF hD
          have kg := kk.trans (g.mono kk.size)
          refine gives_func rfl Tryd.func21 (by kernel_rfl) rfl (by simp only [List.map_toArray, List.map_cons, List.map_nil, evF, h28, h30]) ((Code_c A n c bs X30 1 1 [bs2] bs2 _ HN.out (hr.below kg) hc hm (by omega) rfl r30 (by omega) (by simp) HL3.out (Tab.below HT.out kg HT.out.1)).mono ?_)
          rintro e w'' ⟨rfl, hb⟩
          exact ⟨_, rfl, hb, rfl⟩
        · intro f w' g hF hD
          have h27 : f 27 = (sumV (codeB bs bs2)) := hD 10 27 (by kernel_rfl) rfl
          have h31 : f 31 = (sumV (codeB bs bs2)) := hD 14 31 (by kernel_rfl) rfl
          rw [if_pos (wanted_some (d := 18) rfl rfl (hD 1 18 (by kernel_rfl) rfl))]
          clear hF hD
          exact gives_val (by simp only [execOp, evF, h27, h31]; first | rfl | go_simp) ⟨Gr.refl _, rfl⟩
        · intro f w' g hF hD
          have h18 : f 18 = (.bool true) := hD 1 18 (by kernel_rfl) rfl
          have h32 : f 32 = (.bool true) := hD 15 32 (by kernel_rfl) rfl
          rw [if_pos (wanted_none rfl)]
          clear hF hD
          exact gives_val (by simp only [execOp, evF, h18, h32]; first | rfl | go_simp) ⟨Gr.refl _, rfl⟩
        · intro f w' g hF hD
          have h33 : f 33 = (.bool true) := hD 16 33 (by kernel_rfl) rfl
          rw [if_pos (wanted_none rfl)]
          clear hF hD
          exact gives_val (by simp only [execOp, evF, h33]; first | rfl | go_simp) ⟨Gr.refl _, rfl⟩
        · intro f w' g hF hD
          have h0 : f 0 = .slice A n c := hF 0 (by kernel_rfl)
          rw [if_pos (wanted_some (d := 34) rfl rfl (hD 17 34 (by kernel_rfl) rfl))]
          clear hF hD
          exact gives_val (by simp only [execOp, evF, h0]; first | rfl | go_simp) ⟨Gr.refl _, rfl⟩
        · intro f w' g hF hD
          have h1 : f 1 = .slice A2 n2 c2 := hF 1 (by kernel_rfl)
          rw [if_pos (wanted_some (d := 34) rfl rfl (hD 17 34 (by kernel_rfl) rfl))]
          clear hF hD
          exact gives_val (by simp only [execOp, evF, h1]; first | rfl | go_simp) ⟨Gr.refl _, rfl⟩
        · intro f w' g hF hD
          have h36 : f 36 = (.slice A2 n2 c2) := hD 19 36 (by kernel_rfl) rfl
          rw [if_pos (wanted_some (d := 34) rfl rfl (hD 17 34 (by kernel_rfl) rfl))]
          clear hF hD
          have kg := kk.trans (g.mono kk.size)
          have r1 := rds_lit w' [(none, 0, 0), (A2, n2, c2)] [[], bs2] 2 rfl rfl (by
              simp only [List.zip_cons_cons, List.zip_nil_right, List.forall_mem_cons]
              exact ⟨⟨rfl, Rd.nil_, Nat.le_refl _, by decide⟩, ⟨HN2.out, hr2.below kg, hc2, hm2⟩, fun x hx => by cases hx⟩)
          simp only [List.map_cons, List.map_nil] at r1
          exact gives_val (by simp only [execOp, evF, h36]; first | rfl | go_simp) ⟨(Below.refl _ _).alloc (Nat.le_refl _) _, r1⟩
        · intro f w' g hF hD
          have h35 : f 35 = (.slice A n c) := hD 18 35 (by kernel_rfl) rfl
          obtain ⟨X37, h37, r37⟩ : ∃ X, f 37 = .slice X 2 2 ∧ RdS w' X [[], bs2] := hD 20 37 (by kernel_rfl) rfl
          rw [if_pos (wanted_some (d := 34) rfl rfl (hD 17 34 (by kernel_rfl) rfl))]
          clear hF hD
          have kg := kk.trans (g.mono kk.size)
          refine gives_func rfl Tryd.func21 (by kernel_rfl) rfl (by simp only [List.map_toArray, List.map_cons, List.map_nil, evF, h35, h37]) ((Code_c A n c bs X37 2 2 [[], bs2] bs2 _ HN.out (hr.below kg) hc hm (by omega) rfl r37 (by omega) (by simp) HL3.out (Tab.below HT.out kg HT.out.1)).mono ?_)
          rintro e w'' ⟨rfl, hb⟩
          exact ⟨_, rfl, hb, rfl⟩
        · intro f w' g hF hD
          have h0 : f 0 = .slice A n c := hF 0 (by kernel_rfl)
          rw [if_pos (wanted_some (d := 34) rfl rfl (hD 17 34 (by kernel_rfl) rfl))]
          clear hF hD
          exact gives_val (by simp only [execOp, evF, h0]; first | rfl | go_simp) ⟨Gr.refl _, rfl⟩
        · intro f w' g hF hD
          have h1 : f 1 = .slice A2 n2 c2 := hF 1 (by kernel_rfl)
          rw [if_pos (wanted_some (d := 34) rfl rfl (hD 17 34 (by kernel_rfl) rfl))]
          clear hF hD
          exact gives_val (by simp only [execOp, evF, h1]; first | rfl | go_simp) ⟨Gr.refl _, rfl⟩
        · intro f w' g hF hD
          have h40 : f 40 = (.slice A2 n2 c2) := hD 23 40 (by kernel_rfl) rfl
          rw [if_pos (wanted_some (d := 34) rfl rfl (hD 17 34 (by kernel_rfl) rfl))]
          clear hF hD
          have kg := kk.trans (g.mono kk.size)
          have r1 := rds_lit w' [(A2, n2, c2)] [bs2] 1 rfl rfl (by
              simp only [List.zip_cons_cons, List.zip_nil_right, List.forall_mem_cons]
              exact ⟨⟨HN2.out, hr2.below kg, hc2, hm2⟩, fun x hx => by cases hx⟩)
          simp only [List.map_cons, List.map_nil] at r1
          exact gives_val (by simp only [execOp, evF, h40]; first | rfl | go_simp) ⟨(Below.refl _ _).alloc (Nat.le_refl _) _, r1⟩
        · intro f w' g hF hD
          have h39 : f 39 = (.slice A n c) := hD 22 39 (by kernel_rfl) rfl
          obtain ⟨X41, h41, r41⟩ : ∃ X, f 41 = .slice X 1 1 ∧ RdS w' X [bs2] := hD 24 41 (by kernel_rfl) rfl
          rw [if_pos (wanted_some (d := 34) rfl rfl (hD 17 34 (by kernel_rfl) rfl))]
          clear hF hD
          have kg := kk.trans (g.mono kk.size)
          refine gives_func rfl Tryd.func21 (by kernel_rfl) rfl (by simp only [List.map_toArray, List.map_cons, List.map_nil, evF, h39, h41]) ((Code_c A n c bs X41 1 1 [bs2] bs2 _ HN.out (hr.below kg) hc hm (by omega) rfl r41 (by omega) (by simp) HL3.out (Tab.below HT.out kg HT.out.1)).mono ?_)
          rintro e w'' ⟨rfl, hb⟩
          exact ⟨_, rfl, hb, rfl⟩
        · intro f w' g hF hD
          have h38 : f 38 = (sumV (codeB bs bs2)) := hD 21 38 (by kernel_rfl) rfl
          have h42 : f 42 = (sumV (codeB bs bs2)) := hD 25 42 (by kernel_rfl) rfl
          rw [if_pos (wanted_some (d := 34) rfl rfl (hD 17 34 (by kernel_rfl) rfl))]
          clear hF hD
          exact gives_val (by simp only [execOp, evF, h38, h42]; first | rfl | go_simp) ⟨Gr.refl _, rfl⟩
        · intro f w' g hF hD
          have h34 : f 34 = (.bool true) := hD 17 34 (by kernel_rfl) rfl
          have h43 : f 43 = (.bool true) := hD 26 43 (by kernel_rfl) rfl
          rw [if_pos (wanted_none rfl)]
          clear hF hD
          exact gives_val (by simp only [execOp, evF, h34, h43]; first | rfl | go_simp) ⟨Gr.refl _, rfl⟩
        · intro f w' g hF hD
          have h44 : f 44 = (.bool true) := hD 27 44 (by kernel_rfl) rfl
          rw [if_pos (wanted_none rfl)]
          clear hF hD
          exact gives_val (by simp only [execOp, evF, h44]; first | rfl | go_simp) ⟨Gr.refl _, rfl⟩
      · intro f w' g hF hD
        have h6 : f 6 = .bool true := hD 28 6 rfl
        simp only [List.range, List.range.loop, List.map]
        rw [h6]
        clear hF hD
        go_wp2
        go_ret
        exact ⟨rfl, kk.trans (g.mono kk.size)⟩
    · have hzz : z = (K : Int) := e0
      have HE := Lib.hid e0; clear e0
      have HZ := Lib.hid hzz; clear hzz
      go_wp2_with (fail)
      skip
      have kk := below_drewN k1 1
      refine wp_region_rl 45 [Rl.eq (.bool true), Rl.eq (.bool true), Rl.eq (.slice A n c), Rl.eq (.slice A2 n2 c2), Rl.eq (.int .i64 (K : Int)), Rl.eq (.slice A2 K c2), Rl.eq (.slice A2 n2 c2), Rl.eq (.int .i64 (K : Int)), Rl.eq (.slice A6 (n2 - K) c6), Rl.rds 2 [bs2.take K, bs2.drop K], Rl.eq (sumV (codeB bs bs2)), Rl.eq (.slice A n c), Rl.eq (.slice A2 n2 c2), Rl.rds 1 [bs2], Rl.eq (sumV (codeB bs bs2)), Rl.eq (.bool true), Rl.eq (.bool true), Rl.eq (.bool true), Rl.eq (.slice A n c), Rl.eq (.slice A2 n2 c2), Rl.rds 2 [[], bs2], Rl.eq (sumV (codeB bs bs2)), Rl.eq (.slice A n c), Rl.eq (.slice A2 n2 c2), Rl.rds 1 [bs2], Rl.eq (sumV (codeB bs bs2)), Rl.eq (.bool true), Rl.eq (.bool true), Rl.eq (.bool true)] (by kernel_rfl) rfl (by kernel_rfl) ?_ ?_
      · repeat (first | exact AllFrom.nil_ | (refine AllFrom.cons_ (by rfl) ?_ ?_; rotate_left))
        · intro f w' g hF hD
          rw [if_pos (wanted_none rfl)]
          clear hF hD
          refine gives_func rfl Tryd.func19 (by kernel_rfl) rfl (args := #[]) (by simp) ((fixed4_c _ (Tab.below HT.out (kk.trans (g.mono kk.size)) HT.out.1)).mono ?_)
          rintro e w'' ⟨rfl, hb⟩
          exact ⟨_, rfl, hb, rfl⟩
        · intro f w' g hF hD
          have h17 : f 17 = (.bool true) := hD 0 17 (by kernel_rfl) rfl
          rw [if_pos (wanted_none rfl)]
          clear hF hD
          exact gives_val (by simp only [execOp, evF, h17]; first | rfl | go_simp) ⟨Gr.refl _, rfl⟩
        · intro f w' g hF hD
          have h0 : f 0 = .slice A n c := hF 0 (by kernel_rfl)
          rw [if_pos (wanted_some (d := 18) rfl rfl (hD 1 18 (by kernel_rfl) rfl))]
          clear hF hD
          exact gives_val (by simp only [execOp, evF, h0]; first | rfl | go_simp) ⟨Gr.refl _, rfl⟩
        · intro f w' g hF hD
          have h1 : f 1 = .slice A2 n2 c2 := hF 1 (by kernel_rfl)
          rw [if_pos (wanted_some (d := 18) rfl rfl (hD 1 18 (by kernel_rfl) rfl))]
          clear hF hD
          exact gives_val (by simp only [execOp, evF, h1]; first | rfl | go_simp) ⟨Gr.refl _, rfl⟩
        · intro f w' g hF hD
          have h2 : f 2 = .int .i64 (K : Int) := (hF 2 (by kernel_rfl)).trans (congrArg (Value.int .i64) (by first | exact HZ.out | (have := HZ.out; omega)))
          rw [if_pos (wanted_some (d := 18) rfl rfl (hD 1 18 (by kernel_rfl) rfl))]
          clear hF hD
          exact gives_val (by simp only [execOp, evF, h2]; first | rfl | go_simp) ⟨Gr.refl _, rfl⟩
        · intro f w' g hF hD
          have h20 : f 20 = (.slice A2 n2 c2) := hD 3 20 (by kernel_rfl) rfl
          have h21 : f 21 = (.int .i64 (K : Int)) := hD 4 21 (by kernel_rfl) rfl
          rw [if_pos (wanted_some (d := 18) rfl rfl (hD 1 18 (by kernel_rfl) rfl))]
          clear hF hD
          exact gives_val (by simp only [execOp, evF, Option.map_some, Option.map_none, h20, h21]; go_simp) ⟨Gr.refl _, rfl⟩
        · intro f w' g hF hD
          have h1 : f 1 = .slice A2 n2 c2 := hF 1 (by kernel_rfl)
          rw [if_pos (wanted_some (d := 18) rfl rfl (hD 1 18 (by kernel_rfl) rfl))]
          clear hF hD
          exact gives_val (by simp only [execOp, evF, h1]; first | rfl | go_simp) ⟨Gr.refl _, rfl⟩
        · intro f w' g hF hD
          have h2 : f 2 = .int .i64 (K : Int) := (hF 2 (by kernel_rfl)).trans (congrArg (Value.int .i64) (by first | exact HZ.out | (have := HZ.out; omega)))
          rw [if_pos (wanted_some (d := 18) rfl rfl (hD 1 18 (by kernel_rfl) rfl))]
          clear hF hD
          exact gives_val (by simp only [execOp, evF, h2]; first | rfl | go_simp) ⟨Gr.refl _, rfl⟩
        · intro f w' g hF hD
          have h23 : f 23 = (.slice A2 n2 c2) := hD 6 23 (by kernel_rfl) rfl
          have h24 : f 24 = (.int .i64 (K : Int)) := hD 7 24 (by kernel_rfl) rfl
          rw [if_pos (wanted_some (d := 18) rfl rfl (hD 1 18 (by kernel_rfl) rfl))]
          clear hF hD
          exact gives_val (by simp only [execOp, evF, Option.map_some, Option.map_none, h23, h24]; simp only [Sem.run_bind, H6.out, Result.andThen_ok, Sem.run_pure]) ⟨Gr.refl _, rfl⟩
        · intro f w' g hF hD
          have h22 : f 22 = (.slice A2 K c2) := hD 5 22 (by kernel_rfl) rfl
          have h25 : f 25 = (.slice A6 (n2 - K) c6) := hD 8 25 (by kernel_rfl) rfl
          rw [if_pos (wanted_some (d := 18) rfl rfl (hD 1 18 (by kernel_rfl) rfl))]
          clear hF hD
          have kg := kk.trans (g.mono kk.size)
          have r1 := rds_lit w' [(A2, K, c2), (A6, n2 - K, c6)] [bs2.take K, bs2.drop K] 2 rfl rfl (by
              simp only [List.zip_cons_cons, List.zip_nil_right, List.forall_mem_cons]
              exact ⟨⟨HT1.out, rt.below kg, hKc, hm2⟩, ⟨HT2.out, r6.below kg, q6, Nat.le_trans q6' hm2⟩, fun x hx => by cases hx⟩)
          simp only [List.map_cons, List.map_nil] at r1
          exact gives_val (by simp only [execOp, evF, h22, h25]; first | rfl | go_simp) ⟨(Below.refl _ _).alloc (Nat.le_refl _) _, r1⟩
        · intro f w' g hF hD
          have h19 : f 19 = (.slice A n c) := hD 2 19 (by kernel_rfl) rfl
          obtain ⟨X26, h26, r26⟩ : ∃ X, f 26 = .slice X 2 2 ∧ RdS w' X [bs2.take K, bs2.drop K] := hD 9 26 (by kernel_rfl) rfl
          rw [if_pos (wanted_some (d := 18) rfl rfl (hD 1 18 (by kernel_rfl) rfl))]
          clear hF hD
          have kg := kk.trans (g.mono kk.size)
          refine gives_func rfl Tryd.func21 (by kernel_rfl) rfl (by simp only [List.map_toArray, List.map_cons, List.map_nil, evF, h19, h26]) ((Code_c A n c bs X26 2 2 [bs2.take K, bs2.drop K] bs2 _ HN.out (hr.below kg) hc hm (by omega) rfl r26 (by omega) (by simp) HL3.out (Tab.below HT.out kg HT.out.1)).mono ?_)
          rintro e w'' ⟨rfl, hb⟩
          exact ⟨_, rfl, hb, rfl⟩
        · intro f w' g hF hD
          have h0 : f 0 = .slice A n c := hF 0 (by kernel_rfl)
          rw [if_pos (wanted_some (d := 18) rfl rfl (hD 1 18 (by kernel_rfl) rfl))]
          clear hF hD
          exact gives_val (by simp only [execOp, evF, h0]; first | rfl | go_simp) ⟨Gr.refl _, rfl⟩
        · intro f w' g hF hD
          have h1 : f 1 = .slice A2 n2 c2 := hF 1 (by kernel_rfl)
          rw [if_pos (wanted_some (d := 18) rfl rfl (hD 1 18 (by kernel_rfl) rfl))]
          clear hF hD
          exact gives_val (by simp only [execOp, evF, h1]; first | rfl | go_simp) ⟨Gr.refl _, rfl⟩
        · intro f w' g hF hD
          have h29 : f 29 = (.slice A2 n2 c2) := hD 12 29 (by kernel_rfl) rfl
          rw [if_pos (wanted_some (d := 18) rfl rfl (hD 1 18 (by kernel_rfl) rfl))]
          clear hF hD
          have kg := kk.trans (g.mono kk.size)
          have r1 := rds_lit w' [(A2, n2, c2)] [bs2] 1 rfl rfl (by
              simp only [List.zip_cons_cons, List.zip_nil_right, List.forall_mem_cons]
              exact ⟨⟨HN2.out, hr2.below kg, hc2, hm2⟩, fun x hx => by cases hx⟩)
          simp only [List.map_cons, List.map_nil] at r1
          exact gives_val (by simp only [execOp, evF, h29]; first | rfl | go_simp) ⟨(Below.refl _ _).alloc (Nat.le_refl _) _, r1⟩
        · intro f w' g hF hD
          have h28 : f 28 = (.slice A n c) := hD 11 28 (by kernel_rfl) rfl
          obtain ⟨X30, h30, r30⟩ : ∃ X, f 30 = .slice X 1 1 ∧ RdS w' X [bs2] := hD 13 30 (by kernel_rfl) rfl
          rw [if_pos (wanted_some (d := 18) rfl rfl (hD 1 18 (by kernel_rfl) rfl))]
          clear hF hD
          have kg := kk.trans (g.mono kk.size)
          refine gives_func rfl Tryd.func21 (by kernel_rfl) rfl (by simp only [List.map_toArray, List.map_cons, List.map_nil, evF, h28, h30]) ((Code_c A n c bs X30 1 1 [bs2] bs2 _ HN.out (hr.below kg) hc hm (by omega) rfl r30 (by omega) (by simp) HL3.out (Tab.below HT.out kg HT.out.1)).mono ?_)
          rintro e w'' ⟨rfl, hb⟩
          exact ⟨_, rfl, hb, rfl⟩
        · intro f w' g hF hD
          have h27 : f 27 = (sumV (codeB bs bs2)) := hD 10 27 (by kernel_rfl) rfl
          have h31 : f 31 = (sumV (codeB bs bs2)) := hD 14 31 (by kernel_rfl) rfl
          rw [if_pos (wanted_some (d := 18) rfl rfl (hD 1 18 (by kernel_rfl) rfl))]
          clear hF hD
          exact gives_val (by simp only [execOp, evF, h27, h31]; first | rfl | go_simp) ⟨Gr.refl _, rfl⟩
        · intro f w' g hF hD
          have h18 : f 18 = (.bool true) := hD 1 18 (by kernel_rfl) rfl
          have h32 : f 32 = (.bool true) := hD 15 32 (by kernel_rfl) rfl
          rw [if_pos (wanted_none rfl)]
          clear hF hD
          exact gives_val (by simp only [execOp, evF, h18, h32]; first | rfl | go_simp) ⟨Gr.refl _, rfl⟩
        · intro f w' g hF hD
          have h33 : f 33 = (.bool true) := hD 16 33 (by kernel_rfl) rfl
          rw [if_pos (wanted_none rfl)]
          clear hF hD
          exact gives_val (by simp only [execOp, evF, h33]; first | rfl | go_simp) ⟨Gr.refl _, rfl⟩
        · intro f w' g hF hD
          have h0 : f 0 = .slice A n c := hF 0 (by kernel_rfl)
          rw [if_pos (wanted_some (d := 34) rfl rfl (hD 17 34 (by kernel_rfl) rfl))]
          clear hF hD
          exact gives_val (by simp only [execOp, evF, h0]; first | rfl | go_simp) ⟨Gr.refl _, rfl⟩
        · intro f w' g hF hD
          have h1 : f 1 = .slice A2 n2 c2 := hF 1 (by kernel_rfl)
          rw [if_pos (wanted_some (d := 34) rfl rfl (hD 17 34 (by kernel_rfl) rfl))]
          clear hF hD
          exact gives_val (by simp only [execOp, evF, h1]; first | rfl | go_simp) ⟨Gr.refl _, rfl⟩
        · intro f w' g hF hD
          have h36 : f 36 = (.slice A2 n2 c2) := hD 19 36 (by kernel_rfl) rfl
          rw [if_pos (wanted_some (d := 34) rfl rfl (hD 17 34 (by kernel_rfl) rfl))]
          clear hF hD
          have kg := kk.trans (g.mono kk.size)
          have r1 := rds_lit w' [(none, 0, 0), (A2, n2, c2)] [[], bs2] 2 rfl rfl (by
              simp only [List.zip_cons_cons, List.zip_nil_right, List.forall_mem_cons]
              exact ⟨⟨rfl, Rd.nil_, Nat.le_refl _, by decide⟩, ⟨HN2.out, hr2.below kg, hc2, hm2⟩, fun x hx => by cases hx⟩)
          simp only [List.map_cons, List.map_nil] at r1
          exact gives_val (by simp only [execOp, evF, h36]; first | rfl | go_simp) ⟨(Below.refl _ _).alloc (Nat.le_refl _) _, r1⟩
        · intro f w' g hF hD
          have h35 : f 35 = (.slice A n c) := hD 18 35 (by kernel_rfl) rfl
          obtain ⟨X37, h37, r37⟩ : ∃ X, f 37 = .slice X 2 2 ∧ RdS w' X [[], bs2] := hD 20 37 (by kernel_rfl) rfl
          rw [if_pos (wanted_some (d := 34) rfl rfl (hD 17 34 (by kernel_rfl) rfl))]
          clear hF hD
          have kg := kk.trans (g.mono kk.size)
          refine gives_func rfl Tryd.func21 (by kernel_rfl) rfl (by simp only [List.map_toArray, List.map_cons, List.map_nil, evF, h35, h37]) ((Code_c A n c bs X37 2 2 [[], bs2] bs2 _ HN.out (hr.below kg) hc hm (by omega) rfl r37 (by omega) (by simp) HL3.out (Tab.below HT.out kg HT.out.1)).mono ?_)
          rintro e w'' ⟨rfl, hb⟩
          exact ⟨_, rfl, hb, rfl⟩
        · intro f w' g hF hD
          have h0 : f 0 = .slice A n c := hF 0 (by kernel_rfl)
          rw [if_pos (wanted_some (d := 34) rfl rfl (hD 17 34 (by kernel_rfl) rfl))]
          clear hF hD
          exact gives_val (by simp only [execOp, evF, h0]; first | rfl | go_simp) ⟨Gr.refl _, rfl⟩
        · intro f w' g hF hD
          have h1 : f 1 = .slice A2 n2 c2 := hF 1 (by kernel_rfl)
          rw [if_pos (wanted_some (d := 34) rfl rfl (hD 17 34 (by kernel_rfl) rfl))]
          clear hF hD
          exact gives_val (by simp only [execOp, evF, h1]; first | rfl | go_simp) ⟨Gr.refl _, rfl⟩
        · intro f w' g hF hD
          have h40 : f 40 = (.slice A2 n2 c2) := hD 23 40 (by kernel_rfl) rfl
          rw [if_pos (wanted_some (d := 34) rfl rfl (hD 17 34 (by kernel_rfl) rfl))]
          clear hF hD
          have kg := kk.trans (g.mono kk.size)
          have r1 := rds_lit w' [(A2, n2, c2)] [bs2] 1 rfl rfl (by
              simp only [List.zip_cons_cons, List.zip_nil_right, List.forall_mem_cons]
              exact ⟨⟨HN2.out, hr2.below kg, hc2, hm2⟩, fun x hx => by cases hx⟩)
          simp only [List.map_cons, List.map_nil] at r1
          exact gives_val (by simp only [execOp, evF, h40]; first | rfl | go_simp) ⟨(Below.refl _ _).alloc (Nat.le_refl _) _, r1⟩
        · intro f w' g hF hD
          have h39 : f 39 = (.slice A n c) := hD 22 39 (by kernel_rfl) rfl
          obtain ⟨X41, h41, r41⟩ : ∃ X, f 41 = .slice X 1 1 ∧ RdS w' X [bs2] := hD 24 41 (by kernel_rfl) rfl
          rw [if_pos (wanted_some (d := 34) rfl rfl (hD 17 34 (by kernel_rfl) rfl))]
          clear hF hD
          have kg := kk.trans (g.mono kk.size)
          refine gives_func rfl Tryd.func21 (by kernel_rfl) rfl (by simp only [List.map_toArray, List.map_cons, List.map_nil, evF, h39, h41]) ((Code_c A n c bs X41 1 1 [bs2] bs2 _ HN.out (hr.below kg) hc hm (by omega) rfl r41 (by omega) (by simp) HL3.out (Tab.below HT.out kg HT.out.1)).mono ?_)
          rintro e w'' ⟨rfl, hb⟩
          exact ⟨_, rfl, hb, rfl⟩
        · intro f w' g hF hD
          have h38 : f 38 = (sumV (codeB bs bs2)) := hD 21 38 (by kernel_rfl) rfl
          have h42 : f 42 = (sumV (codeB bs bs2)) := hD 25 42 (by kernel_rfl) rfl
          rw [if_pos (wanted_some (d := 34) rfl rfl (hD 17 34 (by kernel_rfl) rfl))]
          clear hF hD
          exact gives_val (by simp only [execOp, evF, h38, h42]; first | rfl | go_simp) ⟨Gr.refl _, rfl⟩
        · intro f w' g hF hD
          have h34 : f 34 = (.bool true) := hD 17 34 (by kernel_rfl) rfl
          have h43 : f 43 = (.bool true) := hD 26 43 (by kernel_rfl) rfl
          rw [if_pos (wanted_none rfl)]
          clear hF hD
          exact gives_val (by simp only [execOp, evF, h34, h43]; first | rfl | go_simp) ⟨Gr.refl _, rfl⟩
        · intro f w' g hF hD
          have h44 : f 44 = (.bool true) := hD 27 44 (by kernel_rfl) rfl
          rw [if_pos (wanted_none rfl)]
          clear hF hD
          exact gives_val (by simp only [execOp, evF, h44]; first | rfl | go_simp) ⟨Gr.refl _, rfl⟩
      · intro f w' g hF hD
        have h6 : f 6 = .bool true := hD 28 6 rfl
        simp only [List.range, List.range.loop, List.map]
        rw [h6]
        clear hF hD
        go_wp2
        go_ret
        exact ⟨rfl, kk.trans (g.mono kk.size)⟩
    · have hzz : (n2 : Int) = (K : Int) := by omega
      have HE := Lib.hid e0; clear e0
      have HZ := Lib.hid hzz; clear hzz
      go_wp2_with (fail)
      all_goals
        have kk := below_drewN k1 1
        refine wp_region_rl 45 [Rl.eq (.bool true), Rl.eq (.bool true), Rl.eq (.slice A n c), Rl.eq (.slice A2 n2 c2), Rl.eq (.int .i64 (K : Int)), Rl.eq (.slice A2 K c2), Rl.eq (.slice A2 n2 c2), Rl.eq (.int .i64 (K : Int)), Rl.eq (.slice A6 (n2 - K) c6), Rl.rds 2 [bs2.take K, bs2.drop K], Rl.eq (sumV (codeB bs bs2)), Rl.eq (.slice A n c), Rl.eq (.slice A2 n2 c2), Rl.rds 1 [bs2], Rl.eq (sumV (codeB bs bs2)), Rl.eq (.bool true), Rl.eq (.bool true), Rl.eq (.bool true), Rl.eq (.slice A n c), Rl.eq (.slice A2 n2 c2), Rl.rds 2 [[], bs2], Rl.eq (sumV (codeB bs bs2)), Rl.eq (.slice A n c), Rl.eq (.slice A2 n2 c2), Rl.rds 1 [bs2], Rl.eq (sumV (codeB bs bs2)), Rl.eq (.bool true), Rl.eq (.bool true), Rl.eq (.bool true)] (by kernel_rfl) rfl (by kernel_rfl) ?_ ?_
        · repeat (first | exact AllFrom.nil_ | (refine AllFrom.cons_ (by rfl) ?_ ?_; rotate_left))
          · intro f w' g hF hD
            rw [if_pos (wanted_none rfl)]
            clear hF hD
            refine gives_func rfl Tryd.func19 (by kernel_rfl) rfl (args := #[]) (by simp) ((fixed4_c _ (Tab.below HT.out (kk.trans (g.mono kk.size)) HT.out.1)).mono ?_)
            rintro e w'' ⟨rfl, hb⟩
            exact ⟨_, rfl, hb, rfl⟩
          · intro f w' g hF hD
            have h17 : f 17 = (.bool true) := hD 0 17 (by kernel_rfl) rfl
            rw [if_pos (wanted_none rfl)]
            clear hF hD
            exact gives_val (by simp only [execOp, evF, h17]; first | rfl | go_simp) ⟨Gr.refl _, rfl⟩
          · intro f w' g hF hD
            have h0 : f 0 = .slice A n c := hF 0 (by kernel_rfl)
            rw [if_pos (wanted_some (d := 18) rfl rfl (hD 1 18 (by kernel_rfl) rfl))]
            clear hF hD
            exact gives_val (by simp only [execOp, evF, h0]; first | rfl | go_simp) ⟨Gr.refl _, rfl⟩
          · intro f w' g hF hD
            have h1 : f 1 = .slice A2 n2 c2 := hF 1 (by kernel_rfl)
            rw [if_pos (wanted_some (d := 18) rfl rfl (hD 1 18 (by kernel_rfl) rfl))]
            clear hF hD
            exact gives_val (by simp only [execOp, evF, h1]; first | rfl | go_simp) ⟨Gr.refl _, rfl⟩
          · intro f w' g hF hD
            have h2 : f 2 = .int .i64 (K : Int) := (hF 2 (by kernel_rfl)).trans (congrArg (Value.int .i64) (by first | exact HZ.out | (have := HZ.out; omega)))
            rw [if_pos (wanted_some (d := 18) rfl rfl (hD 1 18 (by kernel_rfl) rfl))]
            clear hF hD
            exact gives_val (by simp only [execOp, evF, h2]; first | rfl | go_simp) ⟨Gr.refl _, rfl⟩
          · intro f w' g hF hD
            have h20 : f 20 = (.slice A2 n2 c2) := hD 3 20 (by kernel_rfl) rfl
            have h21 : f 21 = (.int .i64 (K : Int)) := hD 4 21 (by kernel_rfl) rfl
            rw [if_pos (wanted_some (d := 18) rfl rfl (hD 1 18 (by kernel_rfl) rfl))]
            clear hF hD
            exact gives_val (by simp only [execOp, evF, Option.map_some, Option.map_none, h20, h21]; go_simp) ⟨Gr.refl _, rfl⟩
          · intro f w' g hF hD
            have h1 : f 1 = .slice A2 n2 c2 := hF 1 (by kernel_rfl)
            rw [if_pos (wanted_some (d := 18) rfl rfl (hD 1 18 (by kernel_rfl) rfl))]
            clear hF hD
            exact gives_val (by simp only [execOp, evF, h1]; first | rfl | go_simp) ⟨Gr.refl _, rfl⟩
          · intro f w' g hF hD
            have h2 : f 2 = .int .i64 (K : Int) := (hF 2 (by kernel_rfl)).trans (congrArg (Value.int .i64) (by first | exact HZ.out | (have := HZ.out; omega)))
            rw [if_pos (wanted_some (d := 18) rfl rfl (hD 1 18 (by kernel_rfl) rfl))]
            clear hF hD
            exact gives_val (by simp only [execOp, evF, h2]; first | rfl | go_simp) ⟨Gr.refl _, rfl⟩
          · intro f w' g hF hD
            have h23 : f 23 = (.slice A2 n2 c2) := hD 6 23 (by kernel_rfl) rfl
            have h24 : f 24 = (.int .i64 (K : Int)) := hD 7 24 (by kernel_rfl) rfl
            rw [if_pos (wanted_some (d := 18) rfl rfl (hD 1 18 (by kernel_rfl) rfl))]
            clear hF hD
            exact gives_val (by simp only [execOp, evF, Option.map_some, Option.map_none, h23, h24]; simp only [Sem.run_bind, H6.out, Result.andThen_ok, Sem.run_pure]) ⟨Gr.refl _, rfl⟩
          · intro f w' g hF hD
            have h22 : f 22 = (.slice A2 K c2) := hD 5 22 (by kernel_rfl) rfl
            have h25 : f 25 = (.slice A6 (n2 - K) c6) := hD 8 25 (by kernel_rfl) rfl
            rw [if_pos (wanted_some (d := 18) rfl rfl (hD 1 18 (by kernel_rfl) rfl))]
            clear hF hD
            have kg := kk.trans (g.mono kk.size)
            have r1 := rds_lit w' [(A2, K, c2), (A6, n2 - K, c6)] [bs2.take K, bs2.drop K] 2 rfl rfl (by
                simp only [List.zip_cons_cons, List.zip_nil_right, List.forall_mem_cons]
                exact ⟨⟨HT1.out, rt.below kg, hKc, hm2⟩, ⟨HT2.out, r6.below kg, q6, Nat.le_trans q6' hm2⟩, fun x hx => by cases hx⟩)
            simp only [List.map_cons, List.map_nil] at r1
            exact gives_val (by simp only [execOp, evF, h22, h25]; first | rfl | go_simp) ⟨(Below.refl _ _).alloc (Nat.le_refl _) _, r1⟩
          · intro f w' g hF hD
            have h19 : f 19 = (.slice A n c) := hD 2 19 (by kernel_rfl) rfl
            obtain ⟨X26, h26, r26⟩ : ∃ X, f 26 = .slice X 2 2 ∧ RdS w' X [bs2.take K, bs2.drop K] := hD 9 26 (by kernel_rfl) rfl
            rw [if_pos (wanted_some (d := 18) rfl rfl (hD 1 18 (by kernel_rfl) rfl))]
            clear hF hD
            have kg := kk.trans (g.mono kk.size)
            refine gives_func rfl Tryd.func21 (by kernel_rfl) rfl (by simp only [List.map_toArray, List.map_cons, List.map_nil, evF, h19, h26]) ((Code_c A n c bs X26 2 2 [bs2.take K, bs2.drop K] bs2 _ HN.out (hr.below kg) hc hm (by omega) rfl r26 (by omega) (by simp) HL3.out (Tab.below HT.out kg HT.out.1)).mono ?_)
            rintro e w'' ⟨rfl, hb⟩
            exact ⟨_, rfl, hb, rfl⟩
          · intro f w' g hF hD
            have h0 : f 0 = .slice A n c := hF 0 (by kernel_rfl)
            rw [if_pos (wanted_some (d := 18) rfl rfl (hD 1 18 (by kernel_rfl) rfl))]
            clear hF hD
            exact gives_val (by simp only [execOp, evF, h0]; first | rfl | go_simp) ⟨Gr.refl _, rfl⟩
          · intro f w' g hF hD
            have h1 : f 1 = .slice A2 n2 c2 := hF 1 (by kernel_rfl)
            rw [if_pos (wanted_some (d := 18) rfl rfl (hD 1 18 (by kernel_rfl) rfl))]
            clear hF hD
            exact gives_val (by simp only [execOp, evF, h1]; first | rfl | go_simp) ⟨Gr.refl _, rfl⟩
          · intro f w' g hF hD
            have h29 : f 29 = (.slice A2 n2 c2) := hD 12 29 (by kernel_rfl) rfl
            rw [if_pos (wanted_some (d := 18) rfl rfl (hD 1 18 (by kernel_rfl) rfl))]
            clear hF hD
            have kg := kk.trans (g.mono kk.size)
            have r1 := rds_lit w' [(A2, n2, c2)] [bs2] 1 rfl rfl (by
                simp only [List.zip_cons_cons, List.zip_nil_right, List.forall_mem_cons]
                exact ⟨⟨HN2.out, hr2.below kg, hc2, hm2⟩, fun x hx => by cases hx⟩)
            simp only [List.map_cons, List.map_nil] at r1
            exact gives_val (by simp only [execOp, evF, h29]; first | rfl | go_simp) ⟨(Below.refl _ _).alloc (Nat.le_refl _) _, r1⟩
          · intro f w' g hF hD
            have h28 : f 28 = (.slice A n c) := hD 11 28 (by kernel_rfl) rfl
            obtain ⟨X30, h30, r30⟩ : ∃ X, f 30 = .slice X 1 1 ∧ RdS w' X [bs2] := hD 13 30 (by kernel_rfl) rfl
            rw [if_pos (wanted_some (d := 18) rfl rfl (hD 1 18 (by kernel_rfl) rfl))]
            clear hF hD
            have kg := kk.trans (g.mono kk.size)
            refine gives_func rfl Tryd.func21 (by kernel_rfl) rfl (by simp only [List.map_toArray, List.map_cons, List.map_nil, evF, h28, h30]) ((Code_c A n c bs X30 1 1 [bs2] bs2 _ HN.out (hr.below kg) hc hm (by omega) rfl r30 (by omega) (by simp) HL3.out (Tab.below HT.out kg HT.out.1)).mono ?_)
            rintro e w'' ⟨rfl, hb⟩
            exact ⟨_, rfl, hb, rfl⟩
          · intro f w' g hF hD
            have h27 : f 27 = (sumV (codeB bs bs2)) := hD 10 27 (by kernel_rfl) rfl
            have h31 : f 31 = (sumV (codeB bs bs2)) := hD 14 31 (by kernel_rfl) rfl
            rw [if_pos (wanted_some (d := 18) rfl rfl (hD 1 18 (by kernel_rfl) rfl))]
            clear hF hD
            exact gives_val (by simp only [execOp, evF, h27, h31]; first | rfl | go_simp) ⟨Gr.refl _, rfl⟩
          · intro f w' g hF hD
            have h18 : f 18 = (.bool true) := hD 1 18 (by kernel_rfl) rfl
            have h32 : f 32 = (.bool true) := hD 15 32 (by kernel_rfl) rfl
            rw [if_pos (wanted_none rfl)]
            clear hF hD
            exact gives_val (by simp only [execOp, evF, h18, h32]; first | rfl | go_simp) ⟨Gr.refl _, rfl⟩
          · intro f w' g hF hD
            have h33 : f 33 = (.bool true) := hD 16 33 (by kernel_rfl) rfl
            rw [if_pos (wanted_none rfl)]
            clear hF hD
            exact gives_val (by simp only [execOp, evF, h33]; first | rfl | go_simp) ⟨Gr.refl _, rfl⟩
          · intro f w' g hF hD
            have h0 : f 0 = .slice A n c := hF 0 (by kernel_rfl)
            rw [if_pos (wanted_some (d := 34) rfl rfl (hD 17 34 (by kernel_rfl) rfl))]
            clear hF hD
            exact gives_val (by simp only [execOp, evF, h0]; first | rfl | go_simp) ⟨Gr.refl _, rfl⟩
          · intro f w' g hF hD
            have h1 : f 1 = .slice A2 n2 c2 := hF 1 (by kernel_rfl)
            rw [if_pos (wanted_some (d := 34) rfl rfl (hD 17 34 (by kernel_rfl) rfl))]
            clear hF hD
            exact gives_val (by simp only [execOp, evF, h1]; first | rfl | go_simp) ⟨Gr.refl _, rfl⟩
          · intro f w' g hF hD
            have h36 : f 36 = (.slice A2 n2 c2) := hD 19 36 (by kernel_rfl) rfl
            rw [if_pos (wanted_some (d := 34) rfl rfl (hD 17 34 (by kernel_rfl) rfl))]
            clear hF hD
            have kg := kk.trans (g.mono kk.size)
            have r1 := rds_lit w' [(none, 0, 0), (A2, n2, c2)] [[], bs2] 2 rfl rfl (by
                simp only [List.zip_cons_cons, List.zip_nil_right, List.forall_mem_cons]
                exact ⟨⟨rfl, Rd.nil_, Nat.le_refl _, by decide⟩, ⟨HN2.out, hr2.below kg, hc2, hm2⟩, fun x hx => by cases hx⟩)
            simp only [List.map_cons, List.map_nil] at r1
            exact gives_val (by simp only [execOp, evF, h36]; first | rfl | go_simp) ⟨(Below.refl _ _).alloc (Nat.le_refl _) _, r1⟩
          · intro f w' g hF hD
            have h35 : f 35 = (.slice A n c) := hD 18 35 (by kernel_rfl) rfl
            obtain ⟨X37, h37, r37⟩ : ∃ X, f 37 = .slice X 2 2 ∧ RdS w' X [[], bs2] := hD 20 37 (by kernel_rfl) rfl
            rw [if_pos (wanted_some (d := 34) rfl rfl (hD 17 34 (by kernel_rfl) rfl))]
            clear hF hD
            have kg := kk.trans (g.mono kk.size)
            refine gives_func rfl Tryd.func21 (by kernel_rfl) rfl (by simp only [List.map_toArray, List.map_cons, List.map_nil, evF, h35, h37]) ((Code_c A n c bs X37 2 2 [[], bs2] bs2 _ HN.out (hr.below kg) hc hm (by omega) rfl r37 (by omega) (by simp) HL3.out (Tab.below HT.out kg HT.out.1)).mono ?_)
            rintro e w'' ⟨rfl, hb⟩
            exact ⟨_, rfl, hb, rfl⟩
          · intro f w' g hF hD
            have h0 : f 0 = .slice A n c := hF 0 (by kernel_rfl)
            rw [if_pos (wanted_some (d := 34) rfl rfl (hD 17 34 (by kernel_rfl) rfl))]
            clear hF hD
            exact gives_val (by simp only [execOp, evF, h0]; first | rfl | go_simp) ⟨Gr.refl _, rfl⟩
          · intro f w' g hF hD
            have h1 : f 1 = .slice A2 n2 c2 := hF 1 (by kernel_rfl)
            rw [if_pos (wanted_some (d := 34) rfl rfl (hD 17 34 (by kernel_rfl) rfl))]
            clear hF hD
            exact gives_val (by simp only [execOp, evF, h1]; first | rfl | go_simp) ⟨Gr.refl _, rfl⟩
          · intro f w' g hF hD
            have h40 : f 40 = (.slice A2 n2 c2) := hD 23 40 (by kernel_rfl) rfl
            rw [if_pos (wanted_some (d := 34) rfl rfl (hD 17 34 (by kernel_rfl) rfl))]
            clear hF hD
            have kg := kk.trans (g.mono kk.size)
            have r1 := rds_lit w' [(A2, n2, c2)] [bs2] 1 rfl rfl (by
                simp only [List.zip_cons_cons, List.zip_nil_right, List.forall_mem_cons]
                exact ⟨⟨HN2.out, hr2.below kg, hc2, hm2⟩, fun x hx => by cases hx⟩)
            simp only [List.map_cons, List.map_nil] at r1
            exact gives_val (by simp only [execOp, evF, h40]; first | rfl | go_simp) ⟨(Below.refl _ _).alloc (Nat.le_refl _) _, r1⟩
          · intro f w' g hF hD
            have h39 : f 39 = (.slice A n c) := hD 22 39 (by kernel_rfl) rfl
            obtain ⟨X41, h41, r41⟩ : ∃ X, f 41 = .slice X 1 1 ∧ RdS w' X [bs2] := hD 24 41 (by kernel_rfl) rfl
            rw [if_pos (wanted_some (d := 34) rfl rfl (hD 17 34 (by kernel_rfl) rfl))]
            clear hF hD
            have kg := kk.trans (g.mono kk.size)
            refine gives_func rfl Tryd.func21 (by kernel_rfl) rfl (by simp only [List.map_toArray, List.map_cons, List.map_nil, evF, h39, h41]) ((Code_c A n c bs X41 1 1 [bs2] bs2 _ HN.out (hr.below kg) hc hm (by omega) rfl r41 (by omega) (by simp) HL3.out (Tab.below HT.out kg HT.out.1)).mono ?_)
            rintro e w'' ⟨rfl, hb⟩
            exact ⟨_, rfl, hb, rfl⟩
          · intro f w' g hF hD
            have h38 : f 38 = (sumV (codeB bs bs2)) := hD 21 38 (by kernel_rfl) rfl
            have h42 : f 42 = (sumV (codeB bs bs2)) := hD 25 42 (by kernel_rfl) rfl
            rw [if_pos (wanted_some (d := 34) rfl rfl (hD 17 34 (by kernel_rfl) rfl))]
            clear hF hD
            exact gives_val (by simp only [execOp, evF, h38, h42]; first | rfl | go_simp) ⟨Gr.refl _, rfl⟩
          · intro f w' g hF hD
            have h34 : f 34 = (.bool true) := hD 17 34 (by kernel_rfl) rfl
            have h43 : f 43 = (.bool true) := hD 26 43 (by kernel_rfl) rfl
            rw [if_pos (wanted_none rfl)]
            clear hF hD
            exact gives_val (by simp only [execOp, evF, h34, h43]; first | rfl | go_simp) ⟨Gr.refl _, rfl⟩
          · intro f w' g hF hD
            have h44 : f 44 = (.bool true) := hD 27 44 (by kernel_rfl) rfl
            rw [if_pos (wanted_none rfl)]
            clear hF hD
            exact gives_val (by simp only [execOp, evF, h44]; first | rfl | go_simp) ⟨Gr.refl _, rfl⟩
        · intro f w' g hF hD
          have h6 : f 6 = .bool true := hD 28 6 rfl
          simp only [List.range, List.range.loop, List.map]
          rw [h6]
          clear hF hD
          go_wp2
          go_ret
          exact ⟨rfl, kk.trans (g.mono kk.size)⟩
end Go.Proofs.YtacindehajholaaDoor
