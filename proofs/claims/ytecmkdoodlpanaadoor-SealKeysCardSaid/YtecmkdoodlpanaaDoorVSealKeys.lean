/- The walk of the law SealKeys: it returns true. Conditions: the row's own; the table stands. -/
import Derived.Test.YtecmkdoodlpanaaDoorSk2
import Derived.Test.YtecmkdoodlpanaaDoorOar
namespace Go.Proofs.YtecmkdoodlpanaaDoor
open Go Go.RowKit
attribute [local go_sem] run_eq_sumV run_guard_sumV run_eq_keysV run_guard_keysV

set_option maxRecDepth 100000 in
set_option maxHeartbeats 4000000 in
theorem SealKeys_n (w : World) (A : Option Addr) (n c : Nat) (bs : List UInt8) (hn : bs.length = n) (hr : Rd w A (bs.map bv)) (hc : n ≤ c) (hm : c ≤ maxLen) (hl : n ≤ 140737488351232)
    (z : Nat) (hu : U32 z) (l : List UInt8) (hl2 : l.length = 32) (hT : Tab w) :
    Calls Tryd.prog 8 #[.slice A n c, .int .u32 (z : Int), .agg (l.map bv).toArray] w fun r w' => r = .returned (.bool true) ∧ Below w.heap.size w w' := by
  have HN := Lib.hid hn; clear hn
  have HT := Lib.hid hT; clear hT
  have HL := Lib.hid hl2; clear hl2
  have k0 : Below w.heap.size w (w.alloc (.cells (l.map bv).toArray 46)) := (Below.refl _ _).alloc (Nat.le_refl _) _
  have hb0 : Bs (w.alloc (.cells (l.map bv).toArray 46)) w.heap.size 46 l := heap_alloc_new w _
  have HB0 := Lib.hid hb0; clear hb0
  obtain ⟨C, eC⟩ : ∃ C, C = (l.map bv).toArray := ⟨_, rfl⟩
  have EC := Lib.hid eC
  have HI : Hid ((Tryd.prog.info? 46).map (·.size) = some C.size) := Lib.hid (by rw [info_a32, eC]; simp [HL.out])
  clear eC
  rcases Nat.lt_or_ge 1000 n with hb1 | hb1
  · have b1 : (1000 : Int) < (n : Int) := by omega
    clear hb1
    go_enter Tryd.func8, Tryd.ntmps8
    go_wp2_with (fail)
    refine (fixed6_c _ (Tab.below HT.out k0 HT.out.1)).mono ?_
    rintro r w1 ⟨rfl, hb1⟩
    go_wp2_with (fail)
    go_ret
    exact ⟨rfl, k0.trans (hb1.mono k0.size)⟩
  have b1 : (n : Int) ≤ 1000 := by omega
  clear hb1
  go_enter Tryd.func8, Tryd.ntmps8
  go_wp2_with (fail)
  refine (Copy_c A n c bs _ HN.out (hr.below k0) (by omega)).mono ?_
  rintro r w1 ⟨v1, rfl, ho1, hb1⟩
  obtain ⟨A1, c1, rfl, p1, p2, p3, _⟩ := OwnB.form ho1
  rw [HN.out] at p1 ⊢
  have k1 := k0.trans (hb1.mono k0.size)
  have HBX := Lib.hid (HB0.out.below hb1)
  have R1 := Lib.hid p3; clear p3 ho1 hb1 HB0 k0
  go_wp2_with (fail)
  have kk := below_drewN k1 1
  refine wp_region_rw 38 [Rl.eq (.bool true), Rl.eq (.bool true), Rl.eq (.slice A1 n c1), Rl.eq (sumV (baseL bs)), Rl.eq (.slice A n c), Rl.eq (sumV (baseL bs)), Rl.eq (.bool true), Rl.eq (.bool true), Rl.eq (.bool true), Rl.eq (.slice A1 n c1), Rl.eq (.int .u32 (z : Int)), Rl.eq (.agg C), Rl.eq (keysV (upK bs l z) (downK bs l z)), Rl.eq (.slice A n c), Rl.eq (.int .u32 (z : Int)), Rl.eq (.agg C), Rl.eq (keysV (upK bs l z) (downK bs l z)), Rl.eq (.bool true), Rl.eq (.bool true), Rl.eq (.bool true), Rl.eq (.slice A1 n c1), Rl.eq (.slice A n c), Rl.eq (.bool true), Rl.eq (.bool true), Rl.eq (.bool true)] [14, 15, 16, 17, 18, 19, 20, 21, 22, 23, 24, 25, 26, 27, 28, 29, 30, 31, 32, 33, 34, 35, 36, 37, 6] (by kernel_rfl) rfl (by kernel_rfl) (by kernel_rfl) ?_ ?_
  · repeat (first | exact AllFrom.nil_ | (refine AllFrom.cons_ (by rfl) ?_ ?_; rotate_left))
    · intro f w' g hF hD
      rw [if_pos (wanted_none rfl)]
      clear hF hD
      have kg := kk.trans (g.mono kk.size)
      refine gives_func rfl Tryd.func9 (by kernel_rfl) rfl (by simp only [List.map_toArray, List.map_cons, List.map_nil, evF, ]) ((fixed6_c _ (Tab.below HT.out kg HT.out.1)).mono ?_)
      rintro e w'' ⟨rfl, hb⟩
      exact ⟨_, rfl, hb, rfl⟩
    · intro f w' g hF hD
      have h14 : f 14 = (.bool true) := hD 0 14 (by kernel_rfl) rfl
      rw [if_pos (wanted_none rfl)]
      clear hF hD
      exact gives_val (by simp only [execOp, evF, h14]; first | rfl | go_simp) ⟨Gr.refl _, rfl⟩
    · intro f w' g hF hD
      have h7 : f 7 = .slice A1 n c1 := hF 7 (by kernel_rfl)
      rw [if_pos (wanted_some (d := 15) rfl rfl (hD 1 15 (by kernel_rfl) rfl))]
      clear hF hD
      exact gives_val (by simp only [execOp, evF, h7]; first | rfl | go_simp) ⟨Gr.refl _, rfl⟩
    · intro f w' g hF hD
      have h16 : f 16 = (.slice A1 n c1) := hD 2 16 (by kernel_rfl) rfl
      rw [if_pos (wanted_some (d := 15) rfl rfl (hD 1 15 (by kernel_rfl) rfl))]
      clear hF hD
      have kg := kk.trans (g.mono kk.size)
      refine gives_func rfl Tryd.func19 (by kernel_rfl) rfl (by simp only [List.map_toArray, List.map_cons, List.map_nil, evF, h16]) ((Base_c A1 n c1 bs _ HN.out ((R1.out.drewN 1).below g) p1 p2 (by omega) (Tab.below HT.out kg HT.out.1)).mono ?_)
      rintro e w'' ⟨rfl, hb⟩
      exact ⟨_, rfl, hb, rfl⟩
    · intro f w' g hF hD
      have h0 : f 0 = .slice A n c := hF 0 (by kernel_rfl)
      rw [if_pos (wanted_some (d := 15) rfl rfl (hD 1 15 (by kernel_rfl) rfl))]
      clear hF hD
      exact gives_val (by simp only [execOp, evF, h0]; first | rfl | go_simp) ⟨Gr.refl _, rfl⟩
    · intro f w' g hF hD
      have h18 : f 18 = (.slice A n c) := hD 4 18 (by kernel_rfl) rfl
      rw [if_pos (wanted_some (d := 15) rfl rfl (hD 1 15 (by kernel_rfl) rfl))]
      clear hF hD
      have kg := kk.trans (g.mono kk.size)
      refine gives_func rfl Tryd.func20 (by kernel_rfl) rfl (by simp only [List.map_toArray, List.map_cons, List.map_nil, evF, h18]) ((refBase_c A n c bs _ HN.out (hr.below kg) hc hm (by omega)).mono ?_)
      rintro e w'' ⟨rfl, hb⟩
      exact ⟨_, rfl, hb, rfl⟩
    · intro f w' g hF hD
      have h17 : f 17 = (sumV (baseL bs)) := hD 3 17 (by kernel_rfl) rfl
      have h19 : f 19 = (sumV (baseL bs)) := hD 5 19 (by kernel_rfl) rfl
      rw [if_pos (wanted_some (d := 15) rfl rfl (hD 1 15 (by kernel_rfl) rfl))]
      clear hF hD
      exact gives_val (by simp only [execOp, evF, h17, h19]; first | rfl | go_simp) ⟨Gr.refl _, rfl⟩
    · intro f w' g hF hD
      have h15 : f 15 = (.bool true) := hD 1 15 (by kernel_rfl) rfl
      have h20 : f 20 = (.bool true) := hD 6 20 (by kernel_rfl) rfl
      rw [if_pos (wanted_none rfl)]
      clear hF hD
      exact gives_val (by simp only [execOp, evF, h15, h20]; first | rfl | go_simp) ⟨Gr.refl _, rfl⟩
    · intro f w' g hF hD
      have h21 : f 21 = (.bool true) := hD 7 21 (by kernel_rfl) rfl
      rw [if_pos (wanted_none rfl)]
      clear hF hD
      exact gives_val (by simp only [execOp, evF, h21]; first | rfl | go_simp) ⟨Gr.refl _, rfl⟩
    · intro f w' g hF hD
      have h7 : f 7 = .slice A1 n c1 := hF 7 (by kernel_rfl)
      rw [if_pos (wanted_some (d := 22) rfl rfl (hD 8 22 (by kernel_rfl) rfl))]
      clear hF hD
      exact gives_val (by simp only [execOp, evF, h7]; first | rfl | go_simp) ⟨Gr.refl _, rfl⟩
    · intro f w' g hF hD
      have h1 : f 1 = .int .u32 (z : Int) := hF 1 (by kernel_rfl)
      rw [if_pos (wanted_some (d := 22) rfl rfl (hD 8 22 (by kernel_rfl) rfl))]
      clear hF hD
      exact gives_val (by simp only [execOp, evF, h1]; first | rfl | go_simp) ⟨Gr.refl _, rfl⟩
    · intro f w' g hF hD
      have h5 : f 5 = .pointer (some ⟨w.heap.size, 0, none⟩) := hF 5 (by kernel_rfl)
      rw [if_pos (wanted_some (d := 22) rfl rfl (hD 8 22 (by kernel_rfl) rfl))]
      clear hF hD
      exact gives_load_row 46 (.tmp 5) rfl w.heap.size (by simp only [evF, h5]) 46 C (0, 0) _ (HBX.out.drewN 1 |>.below g |> fun h => by rw [EC.out]; exact h) Tryd.underlying46 rfl HI.out ⟨Gr.refl _, rfl⟩
    · intro f w' g hF hD
      have h23 : f 23 = (.slice A1 n c1) := hD 9 23 (by kernel_rfl) rfl
      have h24 : f 24 = (.int .u32 (z : Int)) := hD 10 24 (by kernel_rfl) rfl
      have h25 : f 25 = (.agg C) := hD 11 25 (by kernel_rfl) rfl
      rw [if_pos (wanted_some (d := 22) rfl rfl (hD 8 22 (by kernel_rfl) rfl))]
      clear hF hD
      have kg := kk.trans (g.mono kk.size)
      refine gives_func rfl Tryd.func21 (by kernel_rfl) rfl (by simp only [List.map_toArray, List.map_cons, List.map_nil, evF, h23, h24, h25, EC.out]) ((Keys_c A1 n c1 bs z l _ HN.out ((R1.out.drewN 1).below g) p1 p2 (by omega) hu HL.out (Tab.below HT.out kg HT.out.1)).mono ?_)
      rintro e w'' ⟨rfl, hb⟩
      exact ⟨_, rfl, hb, rfl⟩
    · intro f w' g hF hD
      have h0 : f 0 = .slice A n c := hF 0 (by kernel_rfl)
      rw [if_pos (wanted_some (d := 22) rfl rfl (hD 8 22 (by kernel_rfl) rfl))]
      clear hF hD
      exact gives_val (by simp only [execOp, evF, h0]; first | rfl | go_simp) ⟨Gr.refl _, rfl⟩
    · intro f w' g hF hD
      have h1 : f 1 = .int .u32 (z : Int) := hF 1 (by kernel_rfl)
      rw [if_pos (wanted_some (d := 22) rfl rfl (hD 8 22 (by kernel_rfl) rfl))]
      clear hF hD
      exact gives_val (by simp only [execOp, evF, h1]; first | rfl | go_simp) ⟨Gr.refl _, rfl⟩
    · intro f w' g hF hD
      have h5 : f 5 = .pointer (some ⟨w.heap.size, 0, none⟩) := hF 5 (by kernel_rfl)
      rw [if_pos (wanted_some (d := 22) rfl rfl (hD 8 22 (by kernel_rfl) rfl))]
      clear hF hD
      exact gives_load_row 46 (.tmp 5) rfl w.heap.size (by simp only [evF, h5]) 46 C (0, 0) _ (HBX.out.drewN 1 |>.below g |> fun h => by rw [EC.out]; exact h) Tryd.underlying46 rfl HI.out ⟨Gr.refl _, rfl⟩
    · intro f w' g hF hD
      have h27 : f 27 = (.slice A n c) := hD 13 27 (by kernel_rfl) rfl
      have h28 : f 28 = (.int .u32 (z : Int)) := hD 14 28 (by kernel_rfl) rfl
      have h29 : f 29 = (.agg C) := hD 15 29 (by kernel_rfl) rfl
      rw [if_pos (wanted_some (d := 22) rfl rfl (hD 8 22 (by kernel_rfl) rfl))]
      clear hF hD
      have kg := kk.trans (g.mono kk.size)
      refine gives_func rfl Tryd.func22 (by kernel_rfl) rfl (by simp only [List.map_toArray, List.map_cons, List.map_nil, evF, h27, h28, h29, EC.out]) ((refKeys_c A n c bs z l _ HN.out (hr.below kg) hc hm (by omega) hu HL.out).mono ?_)
      rintro e w'' ⟨rfl, hb⟩
      exact ⟨_, rfl, hb, rfl⟩
    · intro f w' g hF hD
      have h26 : f 26 = (keysV (upK bs l z) (downK bs l z)) := hD 12 26 (by kernel_rfl) rfl
      have h30 : f 30 = (keysV (upK bs l z) (downK bs l z)) := hD 16 30 (by kernel_rfl) rfl
      rw [if_pos (wanted_some (d := 22) rfl rfl (hD 8 22 (by kernel_rfl) rfl))]
      clear hF hD
      exact gives_val (by simp only [execOp, evF, h26, h30]; first | rfl | go_simp) ⟨Gr.refl _, rfl⟩
    · intro f w' g hF hD
      have h22 : f 22 = (.bool true) := hD 8 22 (by kernel_rfl) rfl
      have h31 : f 31 = (.bool true) := hD 17 31 (by kernel_rfl) rfl
      rw [if_pos (wanted_none rfl)]
      clear hF hD
      exact gives_val (by simp only [execOp, evF, h22, h31]; first | rfl | go_simp) ⟨Gr.refl _, rfl⟩
    · intro f w' g hF hD
      have h32 : f 32 = (.bool true) := hD 18 32 (by kernel_rfl) rfl
      rw [if_pos (wanted_none rfl)]
      clear hF hD
      exact gives_val (by simp only [execOp, evF, h32]; first | rfl | go_simp) ⟨Gr.refl _, rfl⟩
    · intro f w' g hF hD
      have h7 : f 7 = .slice A1 n c1 := hF 7 (by kernel_rfl)
      rw [if_pos (wanted_some (d := 33) rfl rfl (hD 19 33 (by kernel_rfl) rfl))]
      clear hF hD
      exact gives_val (by simp only [execOp, evF, h7]; first | rfl | go_simp) ⟨Gr.refl _, rfl⟩
    · intro f w' g hF hD
      have h0 : f 0 = .slice A n c := hF 0 (by kernel_rfl)
      rw [if_pos (wanted_some (d := 33) rfl rfl (hD 19 33 (by kernel_rfl) rfl))]
      clear hF hD
      exact gives_val (by simp only [execOp, evF, h0]; first | rfl | go_simp) ⟨Gr.refl _, rfl⟩
    · intro f w' g hF hD
      have h34 : f 34 = (.slice A1 n c1) := hD 20 34 (by kernel_rfl) rfl
      have h35 : f 35 = (.slice A n c) := hD 21 35 (by kernel_rfl) rfl
      rw [if_pos (wanted_some (d := 33) rfl rfl (hD 19 33 (by kernel_rfl) rfl))]
      clear hF hD
      have kg := kk.trans (g.mono kk.size)
      refine gives_func rfl Tryd.func13 (by kernel_rfl) rfl (by simp only [List.map_toArray, List.map_cons, List.map_nil, evF, h34, h35]) ((Same_t A1 A n n c1 c bs _ HN.out HN.out ((R1.out.drewN 1).below g) (hr.below kg) (Nat.le_trans p1 p2)).mono ?_)
      rintro e w'' ⟨rfl, q, rfl⟩
      exact ⟨_, rfl, below_drewN (Below.refl _ _) q, rfl⟩
    · intro f w' g hF hD
      have h33 : f 33 = (.bool true) := hD 19 33 (by kernel_rfl) rfl
      have h36 : f 36 = (.bool true) := hD 22 36 (by kernel_rfl) rfl
      rw [if_pos (wanted_none rfl)]
      clear hF hD
      exact gives_val (by simp only [execOp, evF, h33, h36]; first | rfl | go_simp) ⟨Gr.refl _, rfl⟩
    · intro f w' g hF hD
      have h37 : f 37 = (.bool true) := hD 23 37 (by kernel_rfl) rfl
      rw [if_pos (wanted_none rfl)]
      clear hF hD
      exact gives_val (by simp only [execOp, evF, h37]; first | rfl | go_simp) ⟨Gr.refl _, rfl⟩
  · intro f w' g hD
    have h6 : f 6 = .bool true := hD 24 6 rfl
    have kg := kk.trans (g.mono kk.size)
    clear hD
    simp only [putAll, List.setIfInBounds_toArray, List.set_cons_zero, List.set_cons_succ, h6]
    go_wp2_with (fail)
    go_ret
    exact ⟨rfl, kg⟩

theorem SealKeys_walk (w : World) (A : Option Addr) (n c : Nat) (bs : List UInt8) (hn : bs.length = n) (hr : Rd w A (bs.map bv)) (hc : n ≤ c) (hm : c ≤ maxLen) (hl : n ≤ 140737488351232)
    (z : Int) (hz : (Lit.int .u32 z).wf = true) (l : List UInt8) (hl2 : l.length = 32) (hT : Tab w) :
    Calls Tryd.prog 8 #[.slice A n c, .int .u32 z, .agg (l.map bv).toArray] w fun r w' => r = .returned (.bool true) ∧ Below w.heap.size w w' := by
  simp only [Lit.wf, IntKind.min, IntKind.max, IntKind.signed, IntKind.bits, Bool.and_eq_true, decide_eq_true_eq] at hz
  have w1 : (0 : Int) ≤ z := by simpa using hz.1
  have w2 : z ≤ 4294967295 := by simpa using hz.2
  obtain ⟨k, rfl⟩ : ∃ k : Nat, z = (k : Int) := ⟨z.toNat, by omega⟩
  exact SealKeys_n w A n c bs hn hr hc hm hl k (by unfold U32; omega) l hl2 hT
end Go.Proofs.YtecmkdoodlpanaaDoor
