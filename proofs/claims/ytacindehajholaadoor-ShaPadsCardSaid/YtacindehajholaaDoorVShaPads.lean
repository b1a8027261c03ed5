/- The walk of the law ShaPads: it returns true. Conditions: the row's own; the table stands. -/
import Derived.Test.YtacindehajholaaDoorSl
namespace Go.Proofs.YtacindehajholaaDoor
open Go Go.RowKit
attribute [local go_sem] run_eq_sumV run_guard_sumV

theorem rep_set (b : UInt8) (n k : Nat) (h : k < n) : (List.replicate k b ++ List.replicate (n - k) 0).set k b = List.replicate (k + 1) b ++ List.replicate (n - (k + 1)) 0 := by
  rw [List.set_append_right _ _ (by simp), List.length_replicate, Nat.sub_self, show n - k = (n - (k + 1)) + 1 by omega, List.replicate_succ, List.set_cons_zero, List.replicate_succ', List.append_assoc]
  rfl

set_option maxRecDepth 100000 in
set_option maxHeartbeats 2000000 in
theorem ShaPads_mid (w : World) (n : Nat) (b : UInt8) (hn : n ≤ 1000) (hx : (n : Int) ≤ 1000) (hx0 : (0 : Int) ≤ (n : Int)) (hx1 : 0 < n) (he : (n : Int) = (n : Int)) (hT : Tab w) :
    Calls Tryd.prog 5 #[.int .i64 (n : Int), .int .u8 (b.toNat : Int)] w fun e w' => e = .returned (.bool true) ∧ Below w.heap.size w w' := by
  have HT := Lib.hid hT; clear hT
  have HE := Lib.hid he; clear he
  go_enter Tryd.func5, Tryd.ntmps5
  go_wp2_with (first | (at_make; refine wpList_makeB _ rfl (.tmp 10) (.tmp 10) rfl _ _ _ _ n rfl rfl HE.out HE.out (by omega) ?_; intro w1 h1 h2 h3; clear h3; have H1 := Lib.hid h1; clear h1))
  go_loopw [14] (fun i wr => ∃ k : Nat, k ≤ n ∧ i = .int .i64 k ∧ Hid (OwnB wr w.heap.size (.slice (some ⟨w.heap.size, 0, none⟩) n n) (List.replicate k b ++ List.replicate (n - k) 0)) ∧ Below w.heap.size w wr) (fun i _ => n - (intOf i).toNat)
  case atStart => exact ⟨0, Nat.zero_le _, rfl, H1, h2⟩
  case round =>
    clear H1 h2
    obtain ⟨k, hk, rfl, H1, h2⟩ := hrel
    rcases Nat.lt_or_ge k n with hlt | hge
    · have hlt' : (k : Int) < (n : Int) := by omega
      have f0 := H1.out.free k
      have c0 := H1.out.cell k (by simp; omega)
      obtain ⟨y, ey⟩ : ∃ y, y = (List.replicate k b ++ List.replicate (n - k) 0)[k]'(by simp; omega) := ⟨_, rfl⟩
      rw [← ey] at c0
      have EY := Lib.hid ey; clear ey
      have e1 := rep_set b n k hlt
      have E1 := Lib.hid e1; clear e1
      go_wp2
      go_roundw
      case rel =>
        refine ⟨k + 1, by omega, by go_num, Lib.hid ?_, h2.setCell (by simp) _⟩
        rw [← E1.out]
        exact H1.out.set k b
      case measure => simp [intOf]; omega
    · obtain rfl : n = k := by omega
      have hown := H1.out
      rw [show n - n = 0 by omega, List.replicate_zero, List.append_nil] at hown
      obtain ⟨bs, ebs⟩ : ∃ bs, bs = List.replicate n b := ⟨_, rfl⟩
      have hlen : bs.length = n := by rw [ebs, List.length_replicate]
      rw [← ebs] at hown
      clear ebs H1
      have HO := Lib.hid hown; clear hown
      have HLEN := Lib.hid hlen; clear hlen
      have s0 := h2.size
      have hf : bs.length ≤ 1000000000 := by rw [HLEN.out]; omega
      have HF := Lib.hid hf; clear hf
      go_wp2_with (fail)
      refine (fixed3_c _ (Tab.below HT.out h2 HT.out.1)).mono ?_
      rintro e w2 ⟨rfl, hb1⟩
      have k1 := h2.trans (hb1.mono h2.size)
      have s1 := k1.size
      have ho1 : OwnB w2 w.heap.size (.slice (some ⟨w.heap.size, 0, none⟩) n n) bs := Own.below HO.out hb1
      obtain ⟨A9, c9, e9, q1, q2, q3, q4⟩ := OwnB.form ho1
      injection e9 with e9a e9b e9c
      subst e9a
      rw [HLEN.out] at q1
      rw [← e9c] at q1 q2
      have R := Lib.hid q3; clear q3
      clear q4 ho1 hb1 h2 e9b e9c
      go_wp2_with (fail)
      have r1 := RdS_lit w2 [(some ⟨w.heap.size, 0, none⟩, n, n)] [bs] 25 rfl (by
        simp only [List.zip_cons_cons, List.zip_nil_right, List.forall_mem_cons]
        exact ⟨⟨HLEN.out, R.out, q1, q2⟩, fun x hx => by cases hx⟩)
      simp only [List.map_cons, List.map_nil] at r1
      have k2 := k1.alloc s1 (.cells #[.slice (some ⟨w.heap.size, 0, none⟩) n n] 25)
      refine (Sum_v _ 1 1 [bs] bs _ rfl r1 (by omega) (by simp) HF.out (Tab.below HT.out k2 HT.out.1)).mono ?_
      rintro e w3 ⟨rfl, hb2⟩
      have k3 := k2.trans (hb2.mono k2.size)
      have s3 := k3.size
      have R3 := ((R.out.alloc (.cells #[.slice (some ⟨w.heap.size, 0, none⟩) n n] 25)).below hb2)
      clear r1 k2 hb2 k1
      have R3 := Lib.hid R3
      go_wp2_with (fail)
      have r1 := RdS_lit w3 [(some ⟨w.heap.size, 0, none⟩, n, n)] [bs] 25 rfl (by
        simp only [List.zip_cons_cons, List.zip_nil_right, List.forall_mem_cons]
        exact ⟨⟨HLEN.out, R3.out, q1, q2⟩, fun x hx => by cases hx⟩)
      simp only [List.map_cons, List.map_nil] at r1
      have k4 := k3.alloc s3 (.cells #[.slice (some ⟨w.heap.size, 0, none⟩) n n] 25)
      refine (refSum_v _ 1 1 [bs] bs _ rfl r1 (by omega) (by simp) HF.out).mono ?_
      rintro e w4 ⟨rfl, hb4⟩
      have k5 := k4.trans (hb4.mono k4.size)
      go_wp2_with (fail)
      go_ret
      exact ⟨rfl, k5⟩

set_option maxRecDepth 100000 in
set_option maxHeartbeats 2000000 in
theorem ShaPads_low (w : World) (x : Int) (n : Nat) (b : UInt8) (hn : n ≤ 1000) (hx2 : x ≤ 1000) (hx3 : x ≤ 0) (he : (0 : Int) = (n : Int)) (hT : Tab w) :
    Calls Tryd.prog 5 #[.int .i64 x, .int .u8 (b.toNat : Int)] w fun e w' => e = .returned (.bool true) ∧ Below w.heap.size w w' := by
  have HT := Lib.hid hT; clear hT
  have HE := Lib.hid he; clear he
  go_enter Tryd.func5, Tryd.ntmps5
  go_wp2_with (first | (at_make; refine wpList_makeB _ rfl (.tmp 10) (.tmp 10) rfl _ _ _ _ n rfl rfl HE.out HE.out (by omega) ?_; intro w1 h1 h2 h3; clear h3; have H1 := Lib.hid h1; clear h1))
  go_loopw [14] (fun i wr => ∃ k : Nat, k ≤ n ∧ i = .int .i64 k ∧ Hid (OwnB wr w.heap.size (.slice (some ⟨w.heap.size, 0, none⟩) n n) (List.replicate k b ++ List.replicate (n - k) 0)) ∧ Below w.heap.size w wr) (fun i _ => n - (intOf i).toNat)
  case atStart => exact ⟨0, Nat.zero_le _, rfl, H1, h2⟩
  case round =>
    clear H1 h2
    obtain ⟨k, hk, rfl, H1, h2⟩ := hrel
    rcases Nat.lt_or_ge k n with hlt | hge
    · have hlt' : (k : Int) < (n : Int) := by omega
      have f0 := H1.out.free k
      have c0 := H1.out.cell k (by simp; omega)
      obtain ⟨y, ey⟩ : ∃ y, y = (List.replicate k b ++ List.replicate (n - k) 0)[k]'(by simp; omega) := ⟨_, rfl⟩
      rw [← ey] at c0
      have EY := Lib.hid ey; clear ey
      have e1 := rep_set b n k hlt
      have E1 := Lib.hid e1; clear e1
      go_wp2
      go_roundw
      case rel =>
        refine ⟨k + 1, by omega, by go_num, Lib.hid ?_, h2.setCell (by simp) _⟩
        rw [← E1.out]
        exact H1.out.set k b
      case measure => simp [intOf]; omega
    · obtain rfl : n = k := by omega
      have hown := H1.out
      rw [show n - n = 0 by omega, List.replicate_zero, List.append_nil] at hown
      obtain ⟨bs, ebs⟩ : ∃ bs, bs = List.replicate n b := ⟨_, rfl⟩
      have hlen : bs.length = n := by rw [ebs, List.length_replicate]
      rw [← ebs] at hown
      clear ebs H1
      have HO := Lib.hid hown; clear hown
      have HLEN := Lib.hid hlen; clear hlen
      have s0 := h2.size
      have hf : bs.length ≤ 1000000000 := by rw [HLEN.out]; omega
      have HF := Lib.hid hf; clear hf
      go_wp2_with (fail)
      refine (fixed3_c _ (Tab.below HT.out h2 HT.out.1)).mono ?_
      rintro e w2 ⟨rfl, hb1⟩
      have k1 := h2.trans (hb1.mono h2.size)
      have s1 := k1.size
      have ho1 : OwnB w2 w.heap.size (.slice (some ⟨w.heap.size, 0, none⟩) n n) bs := Own.below HO.out hb1
      obtain ⟨A9, c9, e9, q1, q2, q3, q4⟩ := OwnB.form ho1
      injection e9 with e9a e9b e9c
      subst e9a
      rw [HLEN.out] at q1
      rw [← e9c] at q1 q2
      have R := Lib.hid q3; clear q3
      clear q4 ho1 hb1 h2 e9b e9c
      go_wp2_with (fail)
      have r1 := RdS_lit w2 [(some ⟨w.heap.size, 0, none⟩, n, n)] [bs] 25 rfl (by
        simp only [List.zip_cons_cons, List.zip_nil_right, List.forall_mem_cons]
        exact ⟨⟨HLEN.out, R.out, q1, q2⟩, fun x hx => by cases hx⟩)
      simp only [List.map_cons, List.map_nil] at r1
      have k2 := k1.alloc s1 (.cells #[.slice (some ⟨w.heap.size, 0, none⟩) n n] 25)
      refine (Sum_v _ 1 1 [bs] bs _ rfl r1 (by omega) (by simp) HF.out (Tab.below HT.out k2 HT.out.1)).mono ?_
      rintro e w3 ⟨rfl, hb2⟩
      have k3 := k2.trans (hb2.mono k2.size)
      have s3 := k3.size
      have R3 := ((R.out.alloc (.cells #[.slice (some ⟨w.heap.size, 0, none⟩) n n] 25)).below hb2)
      clear r1 k2 hb2 k1
      have R3 := Lib.hid R3
      go_wp2_with (fail)
      have r1 := RdS_lit w3 [(some ⟨w.heap.size, 0, none⟩, n, n)] [bs] 25 rfl (by
        simp only [List.zip_cons_cons, List.zip_nil_right, List.forall_mem_cons]
        exact ⟨⟨HLEN.out, R3.out, q1, q2⟩, fun x hx => by cases hx⟩)
      simp only [List.map_cons, List.map_nil] at r1
      have k4 := k3.alloc s3 (.cells #[.slice (some ⟨w.heap.size, 0, none⟩) n n] 25)
      refine (refSum_v _ 1 1 [bs] bs _ rfl r1 (by omega) (by simp) HF.out).mono ?_
      rintro e w4 ⟨rfl, hb4⟩
      have k5 := k4.trans (hb4.mono k4.size)
      go_wp2_with (fail)
      go_ret
      exact ⟨rfl, k5⟩

set_option maxRecDepth 100000 in
set_option maxHeartbeats 2000000 in
theorem ShaPads_high (w : World) (x : Int) (n : Nat) (b : UInt8) (hn : n ≤ 1000) (hx : 1000 < x) (hx2 : (1000 : Int) ≤ x) (hx3 : ¬ x ≤ 1000) (he : (1000 : Int) = (n : Int)) (hT : Tab w) :
    Calls Tryd.prog 5 #[.int .i64 x, .int .u8 (b.toNat : Int)] w fun e w' => e = .returned (.bool true) ∧ Below w.heap.size w w' := by
  have HT := Lib.hid hT; clear hT
  have HE := Lib.hid he; clear he
  go_enter Tryd.func5, Tryd.ntmps5
  go_wp2_with (first | (at_make; refine wpList_makeB _ rfl (.tmp 10) (.tmp 10) rfl _ _ _ _ n rfl rfl HE.out HE.out (by omega) ?_; intro w1 h1 h2 h3; clear h3; have H1 := Lib.hid h1; clear h1))
  go_loopw [14] (fun i wr => ∃ k : Nat, k ≤ n ∧ i = .int .i64 k ∧ Hid (OwnB wr w.heap.size (.slice (some ⟨w.heap.size, 0, none⟩) n n) (List.replicate k b ++ List.replicate (n - k) 0)) ∧ Below w.heap.size w wr) (fun i _ => n - (intOf i).toNat)
  case atStart => exact ⟨0, Nat.zero_le _, rfl, H1, h2⟩
  case round =>
    clear H1 h2
    obtain ⟨k, hk, rfl, H1, h2⟩ := hrel
    rcases Nat.lt_or_ge k n with hlt | hge
    · have hlt' : (k : Int) < (n : Int) := by omega
      have f0 := H1.out.free k
      have c0 := H1.out.cell k (by simp; omega)
      obtain ⟨y, ey⟩ : ∃ y, y = (List.replicate k b ++ List.replicate (n - k) 0)[k]'(by simp; omega) := ⟨_, rfl⟩
      rw [← ey] at c0
      have EY := Lib.hid ey; clear ey
      have e1 := rep_set b n k hlt
      have E1 := Lib.hid e1; clear e1
      go_wp2
      go_roundw
      case rel =>
        refine ⟨k + 1, by omega, by go_num, Lib.hid ?_, h2.setCell (by simp) _⟩
        rw [← E1.out]
        exact H1.out.set k b
      case measure => simp [intOf]; omega
    · obtain rfl : n = k := by omega
      have hown := H1.out
      rw [show n - n = 0 by omega, List.replicate_zero, List.append_nil] at hown
      obtain ⟨bs, ebs⟩ : ∃ bs, bs = List.replicate n b := ⟨_, rfl⟩
      have hlen : bs.length = n := by rw [ebs, List.length_replicate]
      rw [← ebs] at hown
      clear ebs H1
      have HO := Lib.hid hown; clear hown
      have HLEN := Lib.hid hlen; clear hlen
      have s0 := h2.size
      have hf : bs.length ≤ 1000000000 := by rw [HLEN.out]; omega
      have HF := Lib.hid hf; clear hf
      go_wp2_with (fail)
      refine (fixed3_c _ (Tab.below HT.out h2 HT.out.1)).mono ?_
      rintro e w2 ⟨rfl, hb1⟩
      have k1 := h2.trans (hb1.mono h2.size)
      have s1 := k1.size
      have ho1 : OwnB w2 w.heap.size (.slice (some ⟨w.heap.size, 0, none⟩) n n) bs := Own.below HO.out hb1
      obtain ⟨A9, c9, e9, q1, q2, q3, q4⟩ := OwnB.form ho1
      injection e9 with e9a e9b e9c
      subst e9a
      rw [HLEN.out] at q1
      rw [← e9c] at q1 q2
      have R := Lib.hid q3; clear q3
      clear q4 ho1 hb1 h2 e9b e9c
      go_wp2_with (fail)
      have r1 := RdS_lit w2 [(some ⟨w.heap.size, 0, none⟩, n, n)] [bs] 25 rfl (by
        simp only [List.zip_cons_cons, List.zip_nil_right, List.forall_mem_cons]
        exact ⟨⟨HLEN.out, R.out, q1, q2⟩, fun x hx => by cases hx⟩)
      simp only [List.map_cons, List.map_nil] at r1
      have k2 := k1.alloc s1 (.cells #[.slice (some ⟨w.heap.size, 0, none⟩) n n] 25)
      refine (Sum_v _ 1 1 [bs] bs _ rfl r1 (by omega) (by simp) HF.out (Tab.below HT.out k2 HT.out.1)).mono ?_
      rintro e w3 ⟨rfl, hb2⟩
      have k3 := k2.trans (hb2.mono k2.size)
      have s3 := k3.size
      have R3 := ((R.out.alloc (.cells #[.slice (some ⟨w.heap.size, 0, none⟩) n n] 25)).below hb2)
      clear r1 k2 hb2 k1
      have R3 := Lib.hid R3
      go_wp2_with (fail)
      have r1 := RdS_lit w3 [(some ⟨w.heap.size, 0, none⟩, n, n)] [bs] 25 rfl (by
        simp only [List.zip_cons_cons, List.zip_nil_right, List.forall_mem_cons]
        exact ⟨⟨HLEN.out, R3.out, q1, q2⟩, fun x hx => by cases hx⟩)
      simp only [List.map_cons, List.map_nil] at r1
      have k4 := k3.alloc s3 (.cells #[.slice (some ⟨w.heap.size, 0, none⟩) n n] 25)
      refine (refSum_v _ 1 1 [bs] bs _ rfl r1 (by omega) (by simp) HF.out).mono ?_
      rintro e w4 ⟨rfl, hb4⟩
      have k5 := k4.trans (hb4.mono k4.size)
      go_wp2_with (fail)
      go_ret
      exact ⟨rfl, k5⟩

theorem ShaPads_walk (w : World) (x : Int) (_hx : (Lit.int .i64 x).wf = true) (y : Int) (hy : (Lit.int .u8 y).wf = true) (hT : Tab w) :
    Calls Tryd.prog 5 #[.int .i64 x, .int .u8 y] w fun e w' => e = .returned (.bool true) ∧ Below w.heap.size w w' := by
  have hb := bounds_u8 hy
  obtain ⟨m, rfl⟩ := Int.eq_ofNat_of_zero_le hb.1
  obtain ⟨b, rfl⟩ : ∃ b : UInt8, b.toNat = m := ⟨UInt8.ofNat m, by simp; omega⟩
  rcases Int.lt_or_le 0 x with h0 | h0
  · rcases Int.lt_or_le 1000 x with h1 | h1
    · exact ShaPads_high w x 1000 b (by omega) h1 (by omega) (by omega) rfl hT
    · obtain ⟨n, rfl⟩ := Int.eq_ofNat_of_zero_le (Int.le_of_lt h0)
      exact ShaPads_mid w n b (by omega) h1 (by omega) (by omega) rfl hT
  · exact ShaPads_low w x 0 b (by omega) (by omega) (by omega) rfl hT
end Go.Proofs.YtacindehajholaaDoor
