/- The chapter's example of a datagram holds: 'fixed' answers true. Conditions: the table stands. -/
import Derived.Test.YtecmkdoodlpanaaDoorSe4
import Derived.Test.YtecmkdoodlpanaaDoorSe5
import Derived.Test.YtecmkdoodlpanaaDoorCp
namespace Go.Proofs.YtecmkdoodlpanaaDoor
open Go Go.RowKit
theorem conv_const2 (w : World) (o : Obj) (C : Array Value) (n c : Nat) : (convert 22 22 (.slice (some ⟨w.heap.size + 1, 0, none⟩) n c)).run Tryd.prog ((w.alloc o).alloc (.cells C 5)) = .ok (.slice (some ⟨w.heap.size + 1, 0, none⟩) n c) ((w.alloc o).alloc (.cells C 5 (C.size, C.size + 1))) := by
  have h := conv_const (w.alloc o) C n c
  simp only [World.size_alloc] at h
  exact h
attribute [local go_sem] conv_const conv_const2

def fixL : List UInt8 := [4, 0, 0, 0, 0, 1, 0, 0, 0, 0, 0, 0, 0, 5, 97, 98]
theorem fix_head : headL ⟨4, false, 1, 5⟩ ++ [97, 98] = fixL := by kernel_rfl
theorem fix_seal : sealR [107] ⟨4, false, 1, 5⟩ [97, 98] = (fixL ++ tagL [107] fixL, 0) := by
  unfold sealR
  rw [if_pos (by decide), if_pos (by decide), fix_head]
theorem fix_open : openR [107] (fixL ++ tagL [107] fixL) = (⟨4, false, 1, 5⟩, [97, 98], 0) := by
  have h := open_seal [107] ⟨4, false, 1, 5⟩ [97, 98] ⟨by decide, by decide, by show 5 < 2 ^ 64; decide⟩ (by decide) (by decide)
  rw [fix_seal] at h
  exact h

set_option maxRecDepth 100000 in
set_option maxHeartbeats 4000000 in
theorem fixed6_c (w : World) (hT : Tab w) : Calls Tryd.prog 9 #[] w fun e w' => e = .returned (.bool true) ∧ Below w.heap.size w w' := by
  have HT := Lib.hid hT; clear hT
  have HFS := Lib.hid fix_seal
  have HFO := Lib.hid fix_open
  go_enter Tryd.func9, Tryd.ntmps9
  go_wp2_with (fail)
  have r0 : Rd (w.alloc (.cells #[.int .u8 107] 5 (1, 2))) (some ⟨w.heap.size, 0, none⟩) (([107] : List UInt8).map bv) := Rd.litM w (([107] : List UInt8).map bv) 5 (1, 2)
  have a0 : Below w.heap.size w (w.alloc (.cells #[.int .u8 107] 5 (1, 2))) := (Below.refl _ _).alloc (Nat.le_refl _) _
  have a1 : Below (w.alloc (.cells #[.int .u8 107] 5 (1, 2))).heap.size (w.alloc (.cells #[.int .u8 107] 5 (1, 2))) ((w.alloc (.cells #[.int .u8 107] 5 (1, 2))).alloc (.cells #[.int .u8 97, .int .u8 98] 5 (2, 3))) := (Below.refl _ _).alloc (Nat.le_refl _) _
  have r1 : Rd ((w.alloc (.cells #[.int .u8 107] 5 (1, 2))).alloc (.cells #[.int .u8 97, .int .u8 98] 5 (2, 3))) (some ⟨(w.alloc (.cells #[.int .u8 107] 5 (1, 2))).heap.size, 0, none⟩) (([97, 98] : List UInt8).map bv) := Rd.litM _ (([97, 98] : List UInt8).map bv) 5 (2, 3)
  have r00 := r0.below a1
  have k1 := a0.trans (a1.mono a0.size)
  simp only [World.size_alloc] at r1
  refine (Seal_c (some ⟨w.heap.size, 0, none⟩) 1 1 [107] 4 1 5 false (some ⟨w.heap.size + 1, 0, none⟩) 2 2 [97, 98] _ rfl r00 (Nat.le_refl _) (by decide) (by decide) (by decide) (by show 1 < 4294967296; decide) (by show 5 < 2 ^ 64; decide) rfl r1 (Tab.below HT.out k1 HT.out.1)).mono ?_
  rintro e w2 ⟨v, rfl, HV, hb2⟩
  rw [HFS.out] at HV ⊢
  have k2 := k1.trans (hb2.mono k1.size)
  clear r0 r00 r1 a0 a1 k1 hb2
  obtain ⟨tg, etg⟩ : ∃ tg, tg = tagL [107] fixL := ⟨_, rfl⟩
  have htg : tg.length = 16 := by rw [etg]; exact tagL_len _ _
  have hv := HV.out
  have hfo := HFO.out
  simp only at hv
  rw [← etg] at hv hfo
  clear etg HFS HFO HV
  have HFO := Lib.hid hfo; clear hfo
  obtain ⟨A3, c3, rfl, p1, p2, p3, _⟩ := OwnB.form hv
  have hln : (fixL ++ tg).length = 32 := by rw [List.length_append, htg]; rfl
  rw [hln] at p1 ⊢
  have HLN := Lib.hid hln; clear hln htg hv
  have P3 := Lib.hid p3; clear p3
  go_wp2_with (fail)
  have r2 : Rd (w2.alloc (.cells #[.int .u8 107] 5 (1, 2))) (some ⟨w2.heap.size, 0, none⟩) (([107] : List UInt8).map bv) := Rd.litM w2 (([107] : List UInt8).map bv) 5 (1, 2)
  have a2 : Below w2.heap.size w2 (w2.alloc (.cells #[.int .u8 107] 5 (1, 2))) := (Below.refl _ _).alloc (Nat.le_refl _) _
  have k3 := k2.trans (a2.mono k2.size)
  refine (Open_c (some ⟨w2.heap.size, 0, none⟩) 1 1 [107] A3 32 c3 (fixL ++ tg) _ rfl r2 (Nat.le_refl _) (by decide) (by decide) HLN.out (P3.out.below a2) p1 p2 (Tab.below HT.out k3 HT.out.1)).mono ?_
  rintro e w4 ⟨v4, rfl, HV4, hb4⟩
  rw [HFO.out]
  simp only [Hd.V]
  have k4 := k3.trans (hb4.mono k3.size)
  have P4 := Lib.hid ((P3.out.below a2).below hb4)
  clear HV4 r2 a2 k3 k2 hb4 P3
  have c16 : (16 : Int) ≤ (c3 : Int) := by omega
  have k5 := k4.alloc k4.size (.cells #[.int .u8 4, .bool false, .int .u32 1, .int .u64 5] 26)
  have P5 := Lib.hid (P4.out.alloc (.cells #[.int .u8 4, .bool false, .int .u32 1, .int .u64 5] 26))
  go_wp2_with (fail)
  have p6 := (P5.out.take 16).below ((Below.refl _ _).alloc (Nat.le_refl _) (.cells #[.int .u8 4, .int .u8 0, .int .u8 0, .int .u8 0, .int .u8 0, .int .u8 1, .int .u8 0, .int .u8 0, .int .u8 0, .int .u8 0, .int .u8 0, .int .u8 0, .int .u8 0, .int .u8 5, .int .u8 97, .int .u8 98] 5))
  rw [← List.map_take, List.take_left' (show fixL.length = 16 from rfl)] at p6
  have p7 : Rd ((w4.alloc (.cells #[.int .u8 4, .bool false, .int .u32 1, .int .u64 5] 26)).alloc (.cells #[.int .u8 4, .int .u8 0, .int .u8 0, .int .u8 0, .int .u8 0, .int .u8 1, .int .u8 0, .int .u8 0, .int .u8 0, .int .u8 0, .int .u8 0, .int .u8 0, .int .u8 0, .int .u8 5, .int .u8 97, .int .u8 98] 5)) (some ⟨(w4.alloc (.cells #[.int .u8 4, .bool false, .int .u32 1, .int .u64 5] 26)).heap.size, 0, none⟩) (fixL.map bv) := Rd.lit (w4.alloc (.cells #[.int .u8 4, .bool false, .int .u32 1, .int .u64 5] 26)) (fixL.map bv) 5
  simp only [World.size_alloc] at p7
  have k6 := k5.alloc k5.size (.cells #[.int .u8 4, .int .u8 0, .int .u8 0, .int .u8 0, .int .u8 0, .int .u8 1, .int .u8 0, .int .u8 0, .int .u8 0, .int .u8 0, .int .u8 0, .int .u8 0, .int .u8 0, .int .u8 5, .int .u8 97, .int .u8 98] 5)
  refine (Same_t A3 (some ⟨w4.heap.size + 1, 0, none⟩) 16 16 c3 16 fixL _ rfl rfl p6 p7 (by decide)).mono ?_
  rintro e w7 ⟨rfl, q, rfl⟩
  go_wp2_with (fail)
  go_ret
  exact ⟨rfl, below_drewN k6 q⟩
end Go.Proofs.YtecmkdoodlpanaaDoor
