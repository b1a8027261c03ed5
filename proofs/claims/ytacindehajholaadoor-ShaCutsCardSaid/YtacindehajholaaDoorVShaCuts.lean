/- The walk of the law ShaCuts: it returns true. Conditions: the row's own; the table stands. -/
import Derived.Test.YtacindehajholaaDoorCu
import Derived.Test.YtacindehajholaaDoorOp2
namespace Go.Proofs.YtacindehajholaaDoor
open Go Go.RowKit
attribute [local go_sem] run_eq_sumV run_guard_sumV

set_option maxRecDepth 100000 in
set_option maxHeartbeats 4000000 in
theorem ShaCuts_walk (w : World) (A : Option Addr) (n c : Nat) (bs : List UInt8) (hn : bs.length = n) (hr : Rd w A (bs.map bv)) (hc : n ≤ c) (hm : c ≤ maxLen) (hl : n ≤ 140737488351232)
    (A2 : Option Addr) (n2 c2 : Nat) (zs : List Int) (hz : zs.length = n2 ∧ RdI w A2 zs ∧ n2 ≤ c2 ∧ c2 ≤ maxLen ∧ n2 * 8 ≤ 140737488351232 ∧ ∀ z ∈ zs, (Lit.int .i64 z).wf = true) (hT : Tab w) :
    Calls Tryd.prog 4 #[.slice A n c, .slice A2 n2 c2] w fun e w' => e = .returned (.bool true) ∧ Below w.heap.size w w' := by
  obtain ⟨hn2, hz2, _, _, hl2, _⟩ := hz
  have HN := Lib.hid hn; clear hn
  have HN2 := Lib.hid hn2; clear hn2
  have HT := Lib.hid hT; clear hT
  by_cases hbig : 16384 < n
  · have hb : (16384 : Int) < (n : Int) := by omega
    go_enter Tryd.func4, Tryd.ntmps4
    go_wp2_with (fail)
    refine (fixed3_c _ HT.out).mono ?_
    rintro e w1 ⟨rfl, hb1⟩
    go_wp2_with (fail)
    go_ret
    exact ⟨rfl, hb1⟩
  · have hb : decide ((16384 : Int) < (n : Int)) = false := by simp; omega
    have hb' : (n : Int) ≤ 16384 := by omega
    by_cases hbig2 : 1000 < n2
    · have hb2 : decide ((1000 : Int) < (n2 : Int)) = true := by simp; omega
      go_enter Tryd.func4, Tryd.ntmps4
      go_wp2_with (fail)
      refine (fixed3_c _ HT.out).mono ?_
      rintro e w1 ⟨rfl, hb1⟩
      go_wp2_with (fail)
      go_ret
      exact ⟨rfl, hb1⟩
    · have hb2 : decide ((1000 : Int) < (n2 : Int)) = false := by simp; omega
      have hb2' : (n2 : Int) ≤ 1000 := by omega
      have hf : bs.length ≤ 1000000000 := by rw [HN.out]; omega
      have HF := Lib.hid hf; clear hf
      go_enter Tryd.func4, Tryd.ntmps4
      go_wp2
      go_loopw [5, 6, 22] (fun p v i wr => ∃ (k : Nat) (Ar : Option Addr) (m cr : Nat) (l : List UInt8) (vs : List Value) (pss : List (List UInt8)), k ≤ n2 ∧ i = .int .i64 k ∧ v = .slice Ar m cr ∧ m ≤ cr ∧ cr ≤ maxLen ∧ m ≤ n ∧ Hid (l.length = m) ∧ Hid (Rd w Ar (l.map bv)) ∧ Hid (Own wr w.heap.size 25 p vs) ∧ Hid (SlL w vs pss) ∧ Hid (pss.length = k) ∧ Hid (pss.flatten ++ l = bs) ∧ Below w.heap.size w wr) (fun _ _ i _ => n2 - (intOf i).toNat)
      case atStart => exact ⟨0, A, n, c, bs, [], [], Nat.zero_le _, rfl, rfl, hc, hm, Nat.le_refl _, HN, hr, Own.nil_ _ _ _, SlL.nil_ w, rfl, rfl, Below.refl _ _⟩
      case round =>
        obtain ⟨k, Ar, m, cr, l, vs, pss, hk, rfl, rfl, hmc, hcr, hmn, HL, HR, HO, HS, HP, HB, k1⟩ := hrel
        rcases Nat.lt_or_ge k n2 with hlt | hge
        · obtain ⟨b, off, rfl, hblt, hcc⟩ := hz2.addr (by rw [HN2.out]; omega)
          have c0 := hcc k (by rw [HN2.out]; exact hlt)
          rw [← k1.cell (p := ⟨b, _, none⟩) hblt] at c0
          obtain ⟨z, ez⟩ : ∃ z, z = zs[k]'(by rw [HN2.out]; exact hlt) := ⟨_, rfl⟩
          rw [← ez] at c0
          clear hcc
          have EZ := Lib.hid ez; clear ez
          have hlt' : (k : Int) < (n2 : Int) := by omega
          have s1 := k1.size
          have hvs : vs.length + 1 ≤ 1000000000000 := by rw [HS.out.1, HP.out]; omega
          have HVS := Lib.hid hvs; clear hvs
          have cont : ∃ K : Nat, K ≤ m ∧ ((z ≤ 0 ∧ K = 0) ∨ (0 < z ∧ z ≤ (m : Int) ∧ z = (K : Int)) ∨ ((m : Int) < z ∧ 0 < z ∧ K = m)) := by
            rcases Int.lt_or_le 0 z with h0 | h0
            · rcases Int.lt_or_le (m : Int) z with h1 | h1
              · exact ⟨m, Nat.le_refl _, .inr (.inr ⟨h1, h0, rfl⟩)⟩
              · exact ⟨z.toNat, by omega, .inr (.inl ⟨h0, h1, by omega⟩)⟩
            · exact ⟨0, Nat.zero_le _, .inl ⟨h0, rfl⟩⟩
          obtain ⟨K, hK, hcase⟩ := cont
          have hKc : K ≤ cr := by omega
          have hR1 := HR.out.take K
          rw [← List.map_take] at hR1
          have hS2 := HS.out.snoc Ar K cr (l.take K) (by rw [List.length_take, HL.out]; omega) hR1 hKc hcr
          have hP2 : (pss ++ [l.take K]).length = k + 1 := by rw [List.length_append, HP.out]; rfl
          have hB2 : (pss ++ [l.take K]).flatten ++ l.drop K = bs := by rw [List.flatten_append, List.append_assoc]; simp only [List.flatten_cons, List.flatten_nil, List.append_nil, List.take_append_drop]; exact HB.out
          have HS2 := Lib.hid hS2; clear hS2
          have HP2 := Lib.hid hP2; clear hP2
          have HB2 := Lib.hid hB2; clear hB2
          clear hR1
          rcases hcase with ⟨h0, e0⟩ | ⟨h0, h1, e0⟩ | ⟨h1, h0, e0⟩
          all_goals
            have HE := Lib.hid e0; clear e0
            go_wp2_with (first
              | ((with_reducible refine wpList_sliceTo _ rfl (.tmp 32) (.tmp 33) rfl Ar m cr rfl _ rfl K (by have := HE.out; omega) hKc ?_))
              | (at_builtin; refine wpList_appS1 _ rfl (.tmp 31) (.tmp 35) rfl w.heap.size _ vs rfl HO.out (.slice Ar K cr) rfl rfl HVS.out s1 ?_; intro v' w2 g1 g2; have G1 := Lib.hid g1; clear g1; have k2 := (k1.alloc s1 (.cells #[.slice Ar K cr] 25)).grown g2 (by simp; omega) (fun q e => (Own.lt HO.out _ e).1); clear g2)
              | ((with_reducible refine wpList_sliceFrom _ w rfl (.tmp 37) (.tmp 38) rfl Ar m cr rfl _ rfl K (by have := HE.out; omega) hK hmc l HL.out HR.out ?_); intro A9 c9 g3 g4 g5; have G3 := Lib.hid g3; clear g3))
            go_roundw
            case rel => exact ⟨k + 1, A9, m - K, c9, l.drop K, _, _, by omega, by go_num, rfl, g4, by omega, by omega, Lib.hid (by rw [List.length_drop, HL.out]), G3, G1, HS2, HP2, HB2, k2⟩
            case measure => simp [intOf]; omega
        · obtain rfl : n2 = k := by omega
          have hvs : vs.length + 1 ≤ 1000000000000 := by rw [HS.out.1, HP.out]; omega
          have HVS := Lib.hid hvs; clear hvs
          have hS2 := HS.out.snoc Ar m cr l HL.out HR.out hmc hcr
          have hB2 : (pss ++ [l]).flatten = bs := by rw [List.flatten_append]; simp only [List.flatten_cons, List.flatten_nil, List.append_nil]; exact HB.out
          have hP2 : (pss ++ [l]).length = n2 + 1 := by rw [List.length_append, HP.out]; rfl
          have HS2 := Lib.hid hS2; clear hS2
          have HB2 := Lib.hid hB2; clear hB2
          have HP2 := Lib.hid hP2; clear hP2
          go_wp2_with (fail)
          refine (fixed3_c _ (Tab.below HT.out k1 HT.out.1)).mono ?_
          rintro e w2 ⟨rfl, hb1⟩
          have ho2 := HO.out.below hb1
          have HO2 := Lib.hid ho2; clear ho2
          have k2 := k1.trans (hb1.mono k1.size)
          have s2 := k2.size
          go_wp2_with (first | (at_builtin; refine wpList_open rfl ?_; refine wpList_appS1 _ rfl (.tmp 43) (.tmp 45) rfl w.heap.size _ vs rfl HO2.out (.slice Ar m cr) rfl rfl HVS.out s2 ?_; intro v' w3 g1 g2; have k3 := (k2.alloc s2 (.cells #[.slice Ar m cr] 25)).grown g2 (by simp; omega) (fun q e => (Own.lt HO2.out _ e).1); clear g2; obtain ⟨A9, c9, rfl, hrs⟩ := SlL.rds HS2.out k3 g1; clear g1; have HRS := Lib.hid hrs; clear hrs))
          refine (Sum_v A9 (pss.length + 1) c9 (pss ++ [l]) bs w3 (by simp) HRS.out (by rw [HP.out]; omega) HB2.out HF.out (Tab.below HT.out k3 HT.out.1)).mono ?_
          rintro e w4 ⟨rfl, hb2⟩
          have k4 := k3.trans (hb2.mono k3.size)
          have s4 := k4.size
          go_wp2_with (fail)
          have r1 := RdS_lit w4 [(A, n, c)] [bs] 25 rfl (by
            simp only [List.zip_cons_cons, List.zip_nil_right, List.forall_mem_cons]
            exact ⟨⟨HN.out, hr.below k4, hc, hm⟩, fun x hx => by cases hx⟩)
          simp only [List.map_cons, List.map_nil] at r1
          have k5 := k4.alloc s4 (.cells #[.slice A n c] 25)
          refine (Sum_v _ 1 1 [bs] bs _ rfl r1 (by omega) (by simp) HF.out (Tab.below HT.out k5 HT.out.1)).mono ?_
          rintro e w5 ⟨rfl, hb3⟩
          have k6 := k5.trans (hb3.mono k5.size)
          go_wp2_with (fail)
          go_ret
          exact ⟨rfl, k6⟩
end Go.Proofs.YtacindehajholaaDoor
