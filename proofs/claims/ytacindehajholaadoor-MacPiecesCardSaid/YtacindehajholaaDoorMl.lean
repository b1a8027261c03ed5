/- What the laws on codes call: the fixed example, the size, the copies. Conditions: the table stands. -/
import Derived.Test.YtacindehajholaaDoorMc2
import Derived.Test.YtacindehajholaaDoorMs
namespace Go.Proofs.YtacindehajholaaDoor
open Go Go.RowKit
attribute [local go_sem] run_eq_sumV run_guard_sumV

set_option maxRecDepth 100000 in
theorem code_none : (sumL (codeB [] []))[0]? = some 0xb6 ∧ (sumL (codeB [] []))[1]? = some 0x13 ∧ (sumL (codeB [] []))[31]? = some 0xad := by decide +kernel
theorem sameB_refl (l : List UInt8) : sameB l l = true := decide_eq_true rfl
theorem mSame_q (A1 A2 : Option Addr) (n c1 c2 : Nat) (xs : List UInt8) (w : World) (l1 : xs.length = n) (h1 : Rd w A1 (xs.map bv)) (h2 : Rd w A2 (xs.map bv)) (m1 : n ≤ maxLen) (m : Nat) :
    Calls Tryd.prog 24 #[.slice A1 n c1, .slice A2 n c2] (w.drewN m) fun e w' => e = .returned (.bool true) ∧ ∃ k, w' = w.drewN k := by
  have h := mSame_c A1 A2 n n c1 c2 xs xs (w.drewN m) l1 l1 (h1.drewN _) (h2.drewN _) m1
  rw [sameB_refl] at h
  exact h.mono fun _ _ ⟨he, q', hw⟩ => ⟨he, m + q', by rw [hw, World.drewN_drewN]⟩

set_option maxRecDepth 100000 in
set_option maxHeartbeats 2000000 in
theorem fixed4_c (w : World) (hT : Tab w) : Calls Tryd.prog 19 #[] w fun e w' => e = .returned (.bool true) ∧ Below w.heap.size w w' := by
  have HT := Lib.hid hT; clear hT
  go_enter Tryd.func19, Tryd.ntmps19
  go_wp2_with (fail)
  refine (Code_c none 0 0 [] none 0 0 [] [] w rfl Rd.nil_ (Nat.le_refl _) (by decide) (by omega) rfl RdS.nil_ (by omega) rfl (by simp) HT.out).mono ?_
  rintro e w1 ⟨rfl, hb1⟩
  have k1 := code_none
  have l1 := sumL_len (codeB [] [])
  have K1 := Lib.hid k1; clear k1
  have L1 := Lib.hid l1; clear l1
  go_wp2_with (first | ((with_reducible refine wpList_putSum w1 rfl (.tmp 1) (.tmp 2) rfl (codeB [] []) rfl rfl ?_); intro w2 hB hb2; have b0 := hB.cell 0 (by rw [L1.out]; decide); rw [get_of _ 0 _ K1.out.1] at b0; have b1 := hB.cell 1 (by rw [L1.out]; decide); rw [get_of _ 1 _ K1.out.2.1] at b1; have b2 := hB.cell 31 (by rw [L1.out]; decide); rw [get_of _ 31 _ K1.out.2.2] at b2; simp only [bv] at b0 b1 b2; have HB := Lib.hid hB; clear hB; have hb3 := Lib.hid (hb1.trans (hb2.mono hb1.size)); clear hb2))
  go_quiet ((go_at_call 24; exact mSame_q (some ⟨w1.heap.size, 0, none⟩) (some ⟨w1.heap.size, 0, none⟩) 32 32 32 (sumL (codeB [] [])) _ L1.out (Bs.rd HB.out) (Bs.rd HB.out) (by decide) _))
  go_wp2
  go_ret
  exact ⟨rfl, below_drewN hb3.out nq⟩

/-! ### Whether it is more than is gone through -/
def GrOk (bss : List (List UInt8)) (e : Ending) : Prop := ∃ r : Bool, e = .returned (.bool r) ∧ (r = false → bss.flatten.length + bss.length ≤ 16384)
set_option maxRecDepth 100000 in
set_option maxHeartbeats 1000000 in
theorem great_c (A : Option Addr) (n c : Nat) (bss : List (List UInt8)) (w : World) (hn : bss.length = n) (hr : RdS w A bss) (hl : n ≤ 140737488351232) (hm : ∀ b ∈ bss, b.length ≤ 140737488351232) :
    Calls Tryd.prog 18 #[.slice A n c] w fun e w' => GrOk bss e ∧ w = w' := by
  have HN := Lib.hid hn; clear hn
  have HM := Lib.hid hm; clear hm
  go_enter Tryd.func18, Tryd.ntmps18
  go_wp2
  go_loop [3, 7] (fun v i => ∃ (k : Nat) (x : Nat), k ≤ n ∧ i = .int .i64 k ∧ v = .int .i64 x ∧ x ≤ 16384 ∧ Hid ((bss.take k).flatten.length + k ≤ x)) (fun _ i => n - (intOf i).toNat)
  case atStart => exact ⟨0, 0, Nat.zero_le _, rfl, rfl, by omega, Lib.hid (by simp)⟩
  case round =>
    obtain ⟨k, x, hk, rfl, rfl, hx, HX⟩ := hrel
    rcases Nat.lt_or_ge k n with hlt | hge
    · obtain ⟨b, off, rfl, hblt, hc⟩ := hr.addr (by rw [HN.out]; omega)
      obtain ⟨Ak, ck, h1, h2, h3, h4⟩ := hc k (by rw [HN.out]; exact hlt)
      have e1 := flatten_take_succ bss k (by rw [HN.out]; exact hlt)
      have e2 := HM.out _ (List.getElem_mem (by rw [HN.out]; exact hlt : k < bss.length))
      have e3 := flatten_take_le bss (k + 1)
      obtain ⟨m, em⟩ : ∃ m, m = (bss[k]'(by rw [HN.out]; exact hlt)).length := ⟨_, rfl⟩
      have e4 := congrArg List.length e1
      rw [List.length_append, ← em] at e4
      rw [← em] at h1 h3 e2
      clear hc h2 e1 h4
      have EM := Lib.hid em; clear em
      have E4 := Lib.hid e4; clear e4
      have E3 := Lib.hid e3; clear e3
      have hlt' : (k : Int) < (n : Int) := by omega
      by_cases hbig : 16384 < x + (1 + m)
      · have hb : (16384 : Int) < (x : Int) + (1 + (m : Int)) := by omega
        go_wp2
        go_ret
        exact ⟨⟨true, rfl, fun h => by cases h⟩, rfl⟩
      · have hb : (x : Int) + (1 + (m : Int)) ≤ 16384 := by omega
        go_wp2
        go_round
        case rel => exact ⟨k + 1, x + (1 + m), by omega, by go_num, by go_num, by omega, Lib.hid (by rw [E4.out]; have := HX.out; omega)⟩
        case measure => simp [intOf]; omega
    · obtain rfl : k = n := by omega
      have e1 : (bss.take k).flatten = bss.flatten := by rw [List.take_of_length_le (by rw [HN.out]; exact Nat.le_refl _)]
      go_wp2
      go_ret
      exact ⟨⟨false, rfl, fun _ => by rw [← e1, HN.out]; have := HX.out; omega⟩, rfl⟩

end Go.Proofs.YtacindehajholaaDoor
