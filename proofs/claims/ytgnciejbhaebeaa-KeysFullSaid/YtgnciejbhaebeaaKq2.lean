/- What fixed of the law of layer 24 answers: true. Conditions: none. -/
import Derived.Test.YtgnciejbhaebeaaKq1
import Derived.Test.YtgnciejbhaebeaaKf3
import Derived.Test.YtgnciejbhaebeaaSl
namespace Go.Proofs.Ytgnciejbhaebeaa
open Go Go.RowKit
attribute [local go_sem] conv_const

def e97 : Ev := ⟨1, [97], 0, 0, 0⟩
def d97 (g : Nat) : EvV := ⟨1, some ⟨g, 0, none⟩, 1, 1, 0, 0, 0⟩
theorem num28 : putL true 2 8 = [0, 0, 0, 0, 0, 0, 0, 2] := by
  show numLI 2 8 = _
  unfold numLI
  rw [if_pos (by decide)]
  decide
theorem fix_enc1 : encE 1 2 [e97] = ([0, 0, 0, 0, 0, 0, 0, 2, 1, 1, 1, 97], 0) := by
  rw [encE, if_neg (by decide), if_neg (by decide), encL, show decide ((1 : Int) = 1) = true from rfl, num28]
  show ([0, 0, 0, 0, 0, 0, 0, 2] ++ putL true 1 1 ++ evsL true [e97], 0) = _
  rw [putL_small true 1 (by decide)]
  have : evsL true [e97] = putL true 1 1 ++ (putL true 1 1 ++ [97]) := rfl
  rw [this, putL_small true 1 (by decide)]
  rfl
theorem fix_enc3 : encE 3 2 [e97] = ([2, 1, 1, 1, 97], 0) := by
  rw [encE, if_neg (by decide), if_neg (by decide), encL, show decide ((3 : Int) = 1) = false from rfl]
  have h2 : putL false 2 8 = [2] := by
    show varL 2 = _
    rw [varL, if_pos (by decide)]
    rfl
  rw [h2]
  show ([2] ++ putL false 1 1 ++ evsL false [e97], 0) = _
  rw [putL_small false 1 (by decide)]
  have : evsL false [e97] = putL false 1 1 ++ (putL false 1 1 ++ [97]) := by
    simp [evsL, evL, e97]
  rw [this, putL_small false 1 (by decide)]
  rfl

set_option maxRecDepth 100000 in
set_option maxHeartbeats 4000000 in
theorem fixed24_c (w : World) : Calls Try.prog 17 #[] w fun e w' => e = .returned (.bool true) ∧ Below w.heap.size w w' := by
  obtain ⟨w1, ew1⟩ : ∃ w1, w1 = (w.alloc (.cells #[.int .u8 97] 5 (1, 2))).alloc (.cells #[.int .i64 1, .slice (some ⟨w.heap.size, 0, none⟩) 1 1, .int .i64 0, .int .i64 0, .int .i64 0] 36) := ⟨_, rfl⟩
  have k1 : Below w.heap.size w w1 := by rw [ew1]; exact ((Below.refl _ _).alloc (Nat.le_refl _) _).alloc (by simp) _
  have r1 : EvsR (· < w1.heap.size) w1 (some ⟨w.heap.size + 1, 0, none⟩) [d97 w.heap.size] [e97] := by
    have hsz : w1.heap.size = w.heap.size + 2 := by rw [ew1]; simp
    refine ⟨rfl, ?_, fun _ a e => (by injection e with e; rw [← e, hsz]; show w.heap.size + 1 < _; omega), fun i h1 h2 => ?_⟩
    · have := Rd.lit (w.alloc (.cells #[.int .u8 97] 5 (1, 2))) (cellsV [d97 w.heap.size]) 36
      rw [ew1]
      simpa [cellsV, EvV.cells, d97] using this
    · have hi : i = 0 := by simpa using h1
      subst hi
      have := (Rd.litM w (([97] : List UInt8).map bv) 5 (1, 2)).alloc (.cells #[.int .i64 1, .slice (some ⟨w.heap.size, 0, none⟩) 1 1, .int .i64 0, .int .i64 0, .int .i64 0] 36)
      refine ⟨rfl, rfl, rfl, rfl, rfl, ?_, Nat.le_refl _, (by decide : (1 : Nat) ≤ maxLen), fun _ a e => (by injection e with e; rw [← e, hsz]; show w.heap.size < _; omega), (by decide : (1 : Nat) ≤ 140737488355328)⟩
      rw [ew1]
      exact this
  have R1 := Lib.hid r1; clear r1
  have EW := Lib.hid ew1; clear ew1
  go_enter Try.func17, Try.ntmps17
  go_wp2_with (fail)
  rw [← EW.out]
  refine (Encode_c (· < w1.heap.size) 1 2 _ 1 1 _ _ w1 (by unfold U64; decide) rfl R1.out (by decide)).mono ?_
  rintro r w2 ⟨v2, rfl, ho2, hb2⟩
  rw [fix_enc1] at ho2 ⊢
  obtain ⟨A2, c2, rfl, p2, q2, rd2, bl2⟩ := OwnB.form ho2
  have z2 := hb2.size
  have k2 := k1.trans (hb2.mono k1.size)
  have HA2 := Lib.hid rd2
  have R2 := Lib.hid (R1.out.below hb2)
  clear ho2 hb2 rd2 R1
  go_wp2_with (fail)
  refine (Encode_c (· < w1.heap.size) 3 2 _ 1 1 _ _ w2 (by unfold U64; decide) rfl R2.out (by decide)).mono ?_
  rintro r w3 ⟨v3, rfl, ho3, hb3⟩
  rw [fix_enc3] at ho3 ⊢
  obtain ⟨A3, c3, rfl, p3, q3, rd3, bl3⟩ := OwnB.form ho3
  have z3 := hb3.size
  have k3 := k2.trans (hb3.mono k2.size)
  have HA3 := Lib.hid rd3
  have HA2' := Lib.hid (HA2.out.below hb3)
  have R3 := Lib.hid (R2.out.below hb3)
  clear ho3 hb3 rd3 R2 HA2
  go_wp2_with (fail)
  refine (NewInbox_c w3).mono ?_
  rintro r w4 ⟨rfl, hi4, hb4⟩
  have k4 := k3.trans (hb4.mono k3.size)
  have HA3' := Lib.hid (HA3.out.below hb4)
  have HA2 := Lib.hid (HA2'.out.below hb4)
  have R4 := Lib.hid (R3.out.below hb4)
  have I4 := Lib.hid hi4
  clear hb4 R3 HA3 HA2' hi4
  go_wp2_with (fail)
  refine (NewQueue_c w4).mono ?_
  rintro r w5 ⟨rfl, -, hb5, -⟩
  have k5 := k4.trans (hb5.mono k4.size)
  have HA3 := Lib.hid (HA3'.out.below hb5)
  have HA2' := Lib.hid (HA2.out.below hb5)
  have R5 := Lib.hid (R4.out.below hb5)
  have I5 := Lib.hid (I4.out.below hb5)
  clear hb5 R4 HA3' HA2 I4
  go_wp2_with (fail)
  refine (Take24_c (· < w1.heap.size) w3.heap.size 0 1 _ 1 1 _ _ w5 (by unfold U63; decide) (by unfold U64; decide) I5.out rfl R5.out (Nat.le_refl _) (by decide) (by decide)).mono ?_
  rintro r w6 ⟨v6, rfl, -, hi6, hg6⟩
  have t6 : takeR 0 1 [e97] = ([], 15, 0) := rfl
  rw [t6] at hi6 ⊢
  obtain ⟨g, eg⟩ : ∃ g, g = w3.heap.size := ⟨_, rfl⟩
  have n2 : ∀ b off, A2 = some ⟨b, off, none⟩ → (some g : Option Nat) ≠ some b := by
    intro b off e e2
    have := (bl2 _ e).2.1
    injection e2 with e2
    simp only at this; omega
  have n3 : ∀ b off, A3 = some ⟨b, off, none⟩ → (some g : Option Nat) ≠ some b := by
    intro b off e e2
    have := (bl3 _ e).2.1
    injection e2 with e2
    simp only at this; omega
  have hgw : w.heap.size ≤ g := by rw [eg]; exact k3.size
  have hg1 : w1.heap.size ≤ g := by omega
  rw [← eg] at hi6 hg6 I5
  rw [← eg]
  have k6 := k5.grown hg6 k5.size (fun k e => by injection e with e; rw [← e]; exact hgw)
  have H2 := Lib.hid (HA2'.out.grown hg6 n2)
  have H3 := Lib.hid (HA3.out.grown hg6 n3)
  have R6 := Lib.hid (R5.out.frame (fun k hk hkw => hg6.block k hkw (fun e => by injection e with e; have : k < w1.heap.size := hk; omega)) hg6.size)
  have I6 := Lib.hid hi6
  clear hi6 hg6 bl2 bl3 HA2' HA3 R5 I5 eg t6
  go_wp2_with (fail)
  refine (Take24_c (· < w1.heap.size) g 0 0 _ 1 1 _ _ w6 (by unfold U63; decide) (by unfold U64; decide) I6.out rfl R6.out (Nat.le_refl _) (by decide) (by decide)).mono ?_
  rintro r w7 ⟨v7, rfl, ⟨ds7, hv7⟩, hi7, hg7⟩
  have t7 : takeR 0 0 [e97] = ([e97], 0, 1) := rfl
  rw [t7] at hi7 hv7 ⊢
  obtain ⟨A7, c7, rfl, -, -, -⟩ := hv7.form
  have k7 := k6.grown hg7 k6.size (fun k e => by injection e with e; rw [← e]; exact hgw)
  have HH2 := Lib.hid (H2.out.grown hg7 n2)
  have HH3 := Lib.hid (H3.out.grown hg7 n3)
  have I7 := Lib.hid hi7
  clear hi7 hg7 hv7 n2 n3 H2 H3 R6 I6 t7
  have a7 : Below w7.heap.size w7 (w7.alloc (.cells #[.int .u8 0, .int .u8 0, .int .u8 0, .int .u8 0, .int .u8 0, .int .u8 0, .int .u8 0, .int .u8 2, .int .u8 1, .int .u8 1, .int .u8 1, .int .u8 97] 5)) := (Below.refl _ _).alloc (Nat.le_refl _) _
  have l7 := Rd.lit w7 (([0, 0, 0, 0, 0, 0, 0, 2, 1, 1, 1, 97] : List UInt8).map bv) 5
  go_wp2_with (fail)
  refine (Same_t A2 (some ⟨w7.heap.size, 0, none⟩) 12 12 c2 12 [0, 0, 0, 0, 0, 0, 0, 2, 1, 1, 1, 97] _ rfl rfl (HH2.out.below a7) l7 (by decide)).mono ?_
  rintro r w8 ⟨rfl, q8, rfl⟩
  obtain ⟨w8, ew8⟩ : ∃ w8, w8 = (w7.alloc (.cells #[.int .u8 0, .int .u8 0, .int .u8 0, .int .u8 0, .int .u8 0, .int .u8 0, .int .u8 0, .int .u8 2, .int .u8 1, .int .u8 1, .int .u8 1, .int .u8 97] 5)).drewN q8 := ⟨_, rfl⟩
  have b8 : Below w7.heap.size w7 w8 := by rw [ew8]; exact below_drewN a7 _
  rw [← ew8]
  have k8 := k7.trans (b8.mono k7.size)
  have h3 := HH3.out.below b8
  have i8 := I7.out.below b8
  have a8 : Below w8.heap.size w8 (w8.alloc (.cells #[.int .u8 2, .int .u8 1, .int .u8 1, .int .u8 1, .int .u8 97] 5)) := (Below.refl _ _).alloc (Nat.le_refl _) _
  have l8 := Rd.lit w8 (([2, 1, 1, 1, 97] : List UInt8).map bv) 5
  have H3 := Lib.hid h3
  have I8 := Lib.hid i8
  clear ew8 l7 a7 HH2 HH3 I7 b8 k7 h3 i8
  go_wp2_with (fail)
  refine (Same_t A3 (some ⟨w8.heap.size, 0, none⟩) 5 5 c3 5 [2, 1, 1, 1, 97] _ rfl rfl (H3.out.below a8) l8 (by decide)).mono ?_
  rintro r w9 ⟨rfl, q9, rfl⟩
  have b9 := below_drewN a8 q9
  have k9 := k8.trans (b9.mono k8.size)
  have i9 := I8.out.below b9
  have I9 := Lib.hid i9
  clear i9 b9 a8 l8 k8 I8 H3
  go_wp2_with (fail)
  refine (Got_c g 1 _ I9.out).mono ?_
  rintro r wz ⟨rfl, rfl⟩
  go_wp2_with (fail)
  go_ret
  exact ⟨rfl, k9⟩
end Go.Proofs.Ytgnciejbhaebeaa
