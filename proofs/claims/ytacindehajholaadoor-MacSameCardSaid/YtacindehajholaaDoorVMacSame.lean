/- The walk of the law MacSame: it returns true. Conditions: the row's own; the table stands. -/
import Derived.Test.YtacindehajholaaDoorMl
import Derived.Test.YtacindehajholaaDoorOp2
namespace Go.Proofs.YtacindehajholaaDoor
open Go Go.RowKit

attribute [local go_sem] bv_store bv_cells no_cells bv_cellsOf

theorem bit_val (m : Nat) : (2 : Int) ^ (m % 8) % 256 = ((UInt8.ofNat (2 ^ (m % 8))).toNat : Int) := by
  rw [UInt8.toNat_ofNat', show ((2 : Int) ^ (m % 8)) = ((2 ^ (m % 8) : Nat) : Int) by rw [Int.natCast_pow]; rfl]
  rfl
theorem bit_ne (m : Nat) (x : UInt8) : x ^^^ UInt8.ofNat (2 ^ (m % 8)) ≠ x := by
  intro h
  have h1 : x ^^^ UInt8.ofNat (2 ^ (m % 8)) = x ^^^ 0 := by rw [h]; simp
  have h2 : UInt8.ofNat (2 ^ (m % 8)) = 0 := by
    have := congrArg (fun z => x ^^^ z) h1
    simpa [← UInt8.xor_assoc] using this
  have h3 := congrArg UInt8.toNat h2
  rw [UInt8.toNat_ofNat'] at h3
  have h4 : 2 ^ (m % 8) ≤ 2 ^ 7 := Nat.pow_le_pow_right (by decide) (by omega)
  have h5 : 0 < 2 ^ (m % 8) := Nat.pow_pos (by decide)
  rw [Nat.mod_eq_of_lt (by omega)] at h3
  have : (0 : UInt8).toNat = 0 := rfl
  omega
theorem sameB_set {l : List UInt8} {k : Nat} (h : k < l.length) (y : UInt8) (hy : y ≠ l[k]) : sameB l (l.set k y) = false ∧ sameB (l.set k y) l = false := by
  have hne : l ≠ l.set k y := by
    intro e
    have h1 : (l.set k y)[k]'(by simpa using h) = y := by simp
    have h2 : l[k] = (l.set k y)[k]'(by simpa using h) := List.getElem_of_eq e h
    exact hy (by rw [h2, h1])
  exact ⟨decide_eq_false hne, decide_eq_false (fun e => hne e.symm)⟩

set_option maxRecDepth 100000 in
set_option maxHeartbeats 4000000 in
theorem MacSame_walk (w : World) (A : Option Addr) (n c : Nat) (bs : List UInt8) (hn : bs.length = n) (hr : Rd w A (bs.map bv)) (hc : n ≤ c) (hm : c ≤ maxLen) (hl : n ≤ 140737488351232)
    (A2 : Option Addr) (n2 c2 : Nat) (bs2 : List UInt8) (hn2 : bs2.length = n2) (hr2 : Rd w A2 (bs2.map bv)) (hc2 : n2 ≤ c2) (hm2 : c2 ≤ maxLen) (hl2 : n2 ≤ 140737488351232)
    (at_ : Int) (_hat : (Lit.int .i64 at_).wf = true) (bit : Int) (hbit : (Lit.int .u8 bit).wf = true) (hT : Tab w) :
    Calls Tryd.prog 8 #[.slice A n c, .slice A2 n2 c2, .int .i64 at_, .int .u8 bit] w fun e w' => e = .returned (.bool true) ∧ Below w.heap.size w w' := by
  have hbb := bounds_u8 hbit
  obtain ⟨m, rfl⟩ := Int.eq_ofNat_of_zero_le hbb.1
  have hm8 : m < 256 := by omega
  have HN := Lib.hid hn; clear hn
  have HN2 := Lib.hid hn2; clear hn2
  have HT := Lib.hid hT; clear hT
  clear hbit hbb
  by_cases hbig : 65536 < n
  · have hb : (65536 : Int) < (n : Int) := by omega
    go_enter Tryd.func8, Tryd.ntmps8
    go_wp2_with (fail)
    refine (fixed4_c _ HT.out).mono ?_
    rintro e w1 ⟨rfl, hb1⟩
    go_wp2_with (fail)
    go_ret
    exact ⟨rfl, hb1⟩
  · have hb : decide ((65536 : Int) < (n : Int)) = false := by simp; omega
    have hb' : (n : Int) ≤ 65536 := by omega
    by_cases hbig2 : 65536 < n2
    · have hb2 : decide ((65536 : Int) < (n2 : Int)) = true := by simp; omega
      go_enter Tryd.func8, Tryd.ntmps8
      go_wp2_with (fail)
      refine (fixed4_c _ HT.out).mono ?_
      rintro e w1 ⟨rfl, hb1⟩
      go_wp2_with (fail)
      go_ret
      exact ⟨rfl, hb1⟩
    · have hb2 : decide ((65536 : Int) < (n2 : Int)) = false := by simp; omega
      have hb2' : (n2 : Int) ≤ 65536 := by omega
      have hM : n ≤ maxLen := by unfold maxLen; omega
      have HM := Lib.hid hM; clear hM
      obtain ⟨sb, esb⟩ : ∃ b, b = sameB bs bs2 := ⟨_, rfl⟩
      have ESB := Lib.hid esb; clear esb
      have hself : (sb != sb) = false := by simp
      go_enter Tryd.func8, Tryd.ntmps8
      go_wp2_with (fail)
      refine (Copy_c A n c bs w HN.out hr (by omega)).mono ?_
      rintro e w1 ⟨v, rfl, ho, hb1⟩
      obtain ⟨A9, c9, rfl, q1, q2, q3, q4⟩ := OwnB.form ho
      rw [HN.out] at ho q1 ⊢
      have HO := Lib.hid ho; clear ho
      have HR9 := Lib.hid q3; clear q3
      clear q4
      go_wp2_with (fail)
      refine (fixed4_c _ (Tab.below HT.out hb1 HT.out.1)).mono ?_
      rintro e w2 ⟨rfl, hb2w⟩
      have k2 := hb1.trans (hb2w.mono hb1.size)
      have HO2 := Lib.hid (Own.below HO.out hb2w)
      have HR2 := Lib.hid (HR9.out.below hb2w)
      clear HO HR9 hb2w hb1
      go_wp2_with (fail)
      refine (mSame_c A A2 n n2 c c2 bs bs2 w2 HN.out HN2.out (hr.below k2) (hr2.below k2) HM.out).mono ?_
      rintro e w3 ⟨rfl, p1, rfl⟩
      rw [← ESB.out]
      go_wp2_with (fail)
      refine (Same_c A A2 n n2 c c2 bs bs2 _ HN.out HN2.out ((hr.below k2).drewN p1) ((hr2.below k2).drewN p1) HM.out).mono ?_
      rintro e w3 ⟨rfl, p2, rfl⟩
      rw [← ESB.out, World.drewN_drewN]
      go_wp2_with (fail)
      refine (mSame_q A A9 n c c9 bs w2 HN.out (hr.below k2) HR2.out HM.out _).mono ?_
      rintro e w3 ⟨rfl, p3, rfl⟩
      go_wp2_with (fail)
      refine (mSame_q A9 A n c9 c bs w2 HN.out HR2.out (hr.below k2) HM.out _).mono ?_
      rintro e w3 ⟨rfl, p4, rfl⟩
      have k3 := below_drewN k2 p4
      rcases Int.lt_or_le at_ 0 with h0 | h0
      · have h0' : decide (at_ < 0) = true := by simpa using h0
        go_wp2_with (fail)
        go_ret
        exact ⟨rfl, k3⟩
      · have h0' : decide (at_ < 0) = false := by simp; omega
        rcases Int.lt_or_le at_ (n : Int) with h1 | h1
        · obtain ⟨k, rfl⟩ := Int.eq_ofNat_of_zero_le h0
          have hkn : k < n := by omega
          have h1' : decide ((n : Int) ≤ (k : Int)) = false := by simp; omega
          obtain ⟨b9, o9, rfl, hb9, _⟩ := HR2.out.addrB (by rw [HN.out]; omega)
          obtain ⟨A8, c8, e8, _, _, _, q8⟩ := OwnB.form HO2.out
          injection e8 with e8 e8b e8c
          clear e8b e8c
          obtain ⟨z1, z2, z3, _⟩ := q8 _ e8.symm
          simp only at z1 z2 z3
          subst z3
          clear e8 q8
          have hkl : k < bs.length := by rw [HN.out]; exact hkn
          have c0 := OwnB.cell HO2.out k hkl
          have f0 := OwnB.free HO2.out k
          obtain ⟨x, ex⟩ : ∃ x, x = bs[k] := ⟨_, rfl⟩
          rw [← ex] at c0
          have EX := Lib.hid ex; clear ex
          have hr8 : ((m : Int) % 8).toNat = m % 8 := by omega
          have hw8 : IntKind.u8.wrap ((m : Int) % 8) = (m : Int) % 8 := IntWalk.u8_in _ ⟨by omega, by omega⟩
          have hxr := bv_xorc 5 x (UInt8.ofNat (2 ^ (m % 8))) _ (bit_val m)
          have hyn := bit_ne m x
          obtain ⟨y, ey⟩ : ∃ y, y = x ^^^ UInt8.ofNat (2 ^ (m % 8)) := ⟨_, rfl⟩
          rw [← ey] at hxr hyn
          clear ey
          rw [EX.out] at hyn
          obtain ⟨s1, s2⟩ := sameB_set hkl y hyn
          have S1 := Lib.hid s1; clear s1
          have S2 := Lib.hid s2; clear s2
          clear hyn
          go_wp2_with (fail)
          go_simp
          go_wp2_with (fail)
          have k4 := k3.setCell (p := ⟨b9, k, none⟩) z1 (bv y)
          have hoc : OwnB ((w2.drewN p4).setCell ⟨b9, k, none⟩ (bv y)) w.heap.size (.slice (some ⟨b9, 0, none⟩) n c9) (bs.set k y) := OwnB.set (w := w2.drewN p4) (Own.drewN HO2.out p4) k y
          obtain ⟨A7, c7, e7, _, _, hC, _⟩ := OwnB.form hoc
          injection e7 with e7 e7b e7c
          subst e7
          clear e7b e7c
          have hls : (bs.set k y).length = n := by rw [List.length_set, HN.out]
          have HLS := Lib.hid hls; clear hls
          have HC := Lib.hid hC; clear hC hoc
          refine (mSame_c A (some ⟨b9, 0, none⟩) n n c c9 bs (bs.set k y) _ HN.out HLS.out (hr.below k4) HC.out HM.out).mono ?_
          rintro e w5 ⟨rfl, p5, rfl⟩
          rw [S1.out]
          go_wp2_with (fail)
          refine (mSame_c (some ⟨b9, 0, none⟩) A n n c9 c (bs.set k y) bs _ HLS.out HN.out (HC.out.drewN p5) ((hr.below k4).drewN p5) HM.out).mono ?_
          rintro e w6 ⟨rfl, p6, rfl⟩
          rw [S2.out]
          go_wp2_with (fail)
          go_ret
          exact ⟨rfl, below_drewN k4 _⟩
        · have h1' : decide ((n : Int) ≤ at_) = true := by simpa using h1
          go_wp2_with (fail)
          go_ret
          exact ⟨rfl, k3⟩
end Go.Proofs.YtacindehajholaaDoor
