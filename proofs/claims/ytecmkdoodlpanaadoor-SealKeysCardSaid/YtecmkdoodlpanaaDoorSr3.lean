/- What the reference's Padded answers. Conditions: the length fits. -/
import Derived.Test.YtecmkdoodlpanaaDoorSp
namespace Go.Proofs.YtecmkdoodlpanaaDoor
open Go Go.RowKit

theorem be8_val2 (n t : Nat) (h : t ≤ 7) (s : Nat) (hs : s = 56 - 8 * t) : Value.int .u8 ((n : Int) * 8 / 2 ^ s % 256) = bv (lo8 (8 * n / 256 ^ (7 - t))) := by
  unfold bv
  rw [lo8_nat, show (256 : Nat) ^ (7 - t) = 2 ^ s by rw [hs, show 56 - 8 * t = 8 * (7 - t) by omega, Nat.pow_mul], Nat.mul_comm 8 n]
  congr 1
def sliceLen2 : Value → Nat
  | .slice _ n _ => n
  | _ => 0

set_option maxRecDepth 100000 in
set_option maxHeartbeats 1000000 in
theorem Padded_c (A : Option Addr) (n c : Nat) (L : List UInt8) (w : World) (hn : L.length = n) (hr : Rd w A (L.map bv)) (hf : n ≤ 1000000000) :
    Calls Tryd.prog 44 #[.slice A n c] w fun e w' => ∃ v, e = .returned v ∧ OwnB w' w.heap.size v (padL L) ∧ Below w.heap.size w w' := by
  have HN := Lib.hid hn; clear hn
  go_enter Tryd.func44, Tryd.ntmps44
  go_wp2_with (first | (at_make; refine wpList_makeB _ rfl (.tmp 7) (.tmp 7) rfl _ _ _ _ n rfl rfl rfl rfl (by omega) ?_))
  intro w1 h1 h2 h3
  have e : List.take n L ++ List.drop n (List.replicate n 0) = L := by
    rw [List.take_of_length_le (by rw [HN.out]; exact Nat.le_refl _), List.drop_of_length_le (by simp), List.append_nil]
  have E := Lib.hid e; clear e
  have hl1 : L.length + 1 ≤ 140737488355328 := by rw [HN.out]; omega
  go_wp2_with (first | (at_builtin; refine wpList_appB1 _ rfl (.tmp 12) (.tmp 13) rfl w.heap.size _ L rfl h4 _ rfl 128 rfl hl1 hz ?_) | (with_reducible refine wpList_copyB _ rfl (.tmp 9) (.tmp 10) rfl w.heap.size w.heap.size n n _ rfl h1 A n c L rfl HN.out (hr.below h2) ?_; intro w2 h4 h5 _; rw [E.out] at h4; have hb := h2.trans h5; have hz := hb.size; clear h2 h5 h3 h1))
  intro v2 w3 g1 g2 _
  have g5 := (hb.alloc hb.size (.cells #[Value.int IntKind.u8 128] 5)).grown g2 (by simp; omega) (fun q e => (Own.lt h4 _ e).1)
  have g6 := g2.size
  simp only [World.size_alloc] at g6
  have g7 : w.heap.size ≤ w3.heap.size := by omega
  clear g6 h4 hb hz g2
  go_wp2
  go_loopw [3] (fun v wr => ∃ z : Nat, z ≤ padZ L.length ∧ OwnB wr w.heap.size v (padHead L z) ∧ Below w.heap.size w wr ∧ w.heap.size ≤ wr.heap.size) (fun v _ => 100 + L.length - sliceLen2 v)
  case atStart => exact ⟨0, Nat.zero_le _, by simpa [padHead] using g1, g5, g7⟩
  case round =>
    clear g1 g5 g7
    obtain ⟨z, hz, hown, hb, hs⟩ := hrel
    have hpz := padZ_le L.length
    obtain ⟨M, eM⟩ : ∃ M, M = padHead L z := ⟨_, rfl⟩
    have hM : M.length = L.length + 1 + z := by rw [eM]; exact padHead_len _ _
    have hM2 : M.length ≤ n + 100 := by rw [← HN.out]; omega
    rw [← eM] at hown
    obtain ⟨A2, c2, rfl, q1, q2, q3, q4⟩ := hown.form
    clear q3 q4
    rcases Nat.lt_or_ge z (padZ L.length) with hlt | hge
    · have ht : ((((M.length : Int) + 8) % 64) != 0) = true := by rw [bne_iff_ne]; unfold padZ at hlt; omega
      have EM := Lib.hid eM; clear eM
      have HM := Lib.hid hM; clear hM
      go_wp2_with (first | (at_builtin; refine wpList_appB1 _ rfl (.tmp 20) (.tmp 21) rfl w.heap.size _ M rfl hown _ rfl 0 rfl (by omega) (by omega) ?_))
      intro v2 w2 g1 g2 _
      have g5 := (hb.alloc hb.size (.cells #[Value.int IntKind.u8 0] 5)).grown g2 (by simp; omega) (fun q e => (Own.lt hown _ e).1)
      have g6 := g2.size
      simp only [World.size_alloc] at g6
      rw [EM.out, ← padHead_succ] at g1
      obtain ⟨A3, c3, rfl, _, _, _, _⟩ := g1.form
      have HM2 := HM.out
      go_wp2
      go_roundw
      case rel => exact ⟨z + 1, by omega, g1, g5, by omega⟩
      case measure => simp [sliceLen2, padHead_len]; omega
    · have ez : z = padZ L.length := by omega
      have ht : ((((M.length : Int) + 8) % 64) != 0) = false := by rw [bne_eq_false_iff_eq]; unfold padZ at ez; omega
      have eMM : M = padHead L (padZ L.length) := by rw [← ez]; exact eM
      have HM := Lib.hid hM; clear hM
      clear eM
      have EM := Lib.hid eMM; clear eMM
      have EZ := Lib.hid ez; clear ez
      have hM3 : M.length ≤ 1000000200 := by omega
      go_wp2
      clear ht hge hpz EZ HM hM2 q1 q2
      go_loopw [3, 5] (fun v i wr => ∃ (j : Nat), i = .int .i64 j ∧ j ≤ 8 ∧ OwnB wr w.heap.size v (M ++ be8 (8 * L.length) j) ∧ Below w.heap.size w wr ∧ w.heap.size ≤ wr.heap.size) (fun _ i _ => 8 - (intOf i).toNat)
      case atStart => exact ⟨0, rfl, by omega, by simpa [be8] using hown, hb, hs⟩
      case round =>
        clear hown hb hs
        obtain ⟨j, rfl, hj, hown, hb, hs⟩ := hrel
        rcases Int.lt_or_le (j : Int) 8 with hlt | hge
        · have e1 := be8_succ (8 * L.length) j
          have e2 : (be8 (8 * L.length) j).length ≤ 8 := by rw [be8_len]; omega
          obtain ⟨D, eD⟩ : ∃ D, D = M ++ be8 (8 * L.length) j := ⟨_, rfl⟩
          have hD : D.length ≤ 1000000300 := by rw [eD, List.length_append]; omega
          rw [← eD] at hown
          have E1 := Lib.hid e1; clear e1
          have ED := Lib.hid eD; clear eD
          clear e2
          obtain ⟨sh, hsh⟩ : ∃ sh : Nat, sh = 56 - 8 * j := ⟨_, rfl⟩
          have w1 : IntKind.u64.wrap ((8 : Int) * (j : Int)) = (8 : Int) * (j : Int) := IntWalk.u64_in _ ⟨by omega, by omega⟩
          have w2 : (56 : Int) - (8 : Int) * (j : Int) = (sh : Int) := by omega
          have hv := be8_val2 L.length j (by omega) sh hsh
          rw [HN.out] at hv
          have HV := Lib.hid hv; clear hv
          have HSH := Lib.hid hsh; clear hsh
          go_wp2_with (first | (at_builtin; refine wpList_appB1 _ rfl (.tmp 31) (.tmp 39) rfl w.heap.size _ D rfl hown _ rfl _ HV.out (by omega) (by omega) ?_))
          intro v2 w2 g1 g2 _
          have g5 := (hb.alloc hb.size (.cells #[Value.int .u8 ((n : Int) * 8 / 2 ^ sh % 256)] 5)).grown g2 (by simp; omega) (fun q e => (Own.lt hown _ e).1)
          have g6 := g2.size
          simp only [World.size_alloc] at g6
          rw [ED.out, List.append_assoc, ← HN.out, ← E1.out] at g1
          go_wp2
          go_roundw
          case rel => exact ⟨j + 1, by go_num, by omega, g1, g5, by omega⟩
          case measure => simp [intOf]; omega
        · obtain rfl : j = 8 := by omega
          rw [EM.out] at hown
          go_wp2
          go_ret
          exact ⟨_, rfl, hown, hb⟩
end Go.Proofs.YtecmkdoodlpanaaDoor
