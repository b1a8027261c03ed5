/- What the reference's Tag and Seal answer: the tag of bytes, a datagram's bytes or an error. Conditions: lengths that fit. -/
import Derived.Test.YtecmkdoodlpanaaDoorSe6
import Derived.Test.YtecmkdoodlpanaaDoorMr
namespace Go.Proofs.YtecmkdoodlpanaaDoor
open Go Go.RowKit
attribute [local go_sem] run_eq_sumV run_guard_sumV

set_option maxRecDepth 100000 in
set_option maxHeartbeats 4000000 in
theorem refTag_c (Ak : Option Addr) (nk ck : Nat) (key : List UInt8) (A : Option Addr) (n c : Nat) (b : List UInt8) (w : World) (hnk : key.length = nk) (hrk : Rd w Ak (key.map bv)) (hck : nk ≤ ck) (hmk : ck ≤ maxLen) (hlk : nk ≤ 1000000000)
    (hn : b.length = n) (hr : Rd w A (b.map bv)) (hc : n ≤ c) (hm : c ≤ maxLen) (hl : n ≤ 900000000) :
    Calls Tryd.prog 27 #[.slice Ak nk ck, .slice A n c] w fun r w' => ∃ v, r = .returned v ∧ Hid (OwnB w' w.heap.size v (tagL key b)) ∧ Below w.heap.size w w' := by
  have HNK := Lib.hid hnk; clear hnk
  have HN := Lib.hid hn; clear hn
  have a3 : ∀ x ∈ [((A, n, c) : Option Addr × Nat × Nat)].zip [b], x.2.length = x.1.2.1 ∧ Rd w x.1.1 (x.2.map bv) ∧ x.1.2.1 ≤ x.1.2.2 ∧ x.1.2.2 ≤ maxLen := by
    intro x hx
    simp only [List.zip_cons_cons, List.zip_nil_right, List.mem_singleton] at hx
    subst hx
    exact ⟨HN.out, hr, hc, hm⟩
  have r1 := RdS_lit w _ _ 22 (by simp only [List.length_cons, List.length_nil]) a3
  simp only [List.map_cons, List.map_nil] at r1
  clear a3
  have k0 : Below w.heap.size w (w.alloc (.cells #[.slice A n c] 22)) := (Below.refl _ _).alloc (Nat.le_refl _) _
  go_enter Tryd.func27, Tryd.ntmps27
  go_wp2_with (fail)
  refine (refCode_c Ak nk ck key _ 1 1 [b] b _ HNK.out (hrk.below k0) hck hmk hlk rfl r1 (by omega) (by simp) (by rw [HN.out]; exact hl)).mono ?_
  rintro r w1 ⟨rfl, hb1⟩
  have k1 := k0.trans (hb1.mono k0.size)
  clear r1 hb1 k0
  go_wp2_with (first | ((with_reducible refine wpList_putSum w1 rfl (.tmp 5) (.tmp 11) rfl (codeB key b) rfl rfl ?_); intro w2 hB hb2; have HB := Lib.hid hB; clear hB; have k2 := k1.trans (hb2.mono k1.size); clear hb2))
  obtain ⟨T, eT⟩ : ∃ T, T = sumL (codeB key b) := ⟨_, rfl⟩
  have htl : T.length = 32 := by rw [eT]; exact sumL_len _
  have htag : tagL key b = T.take 16 := by rw [eT]; rfl
  rw [← eT] at HB
  have HTAG := Lib.hid htag; clear htag eT
  have HTL := Lib.hid htl; clear htl
  have hgw := k1.size
  obtain ⟨g, eg⟩ : ∃ g, g = w1.heap.size := ⟨_, rfl⟩
  rw [← eg] at HB hgw ⊢
  clear eg k1
  have hg2 := HB.out.lt
  have o3 : OwnB (w2.alloc (.cells #[] 5)) (g + 1) (.slice (some ⟨w2.heap.size, 0, none⟩) 0 0) [] := Own.low (World.ownsRow_made w2 #[] 0 (Nat.le_refl _) (Nat.zero_le _) rfl) hg2
  have HO3 := Lib.hid o3; clear o3
  have al : Below w2.heap.size w2 (w2.alloc (.cells #[] 5)) := (Below.refl _ _).alloc (Nat.le_refl _) _
  have HB3 := Lib.hid (HB.out.below al)
  have k3 := k2.trans (al.mono k2.size)
  have z3 : g + 1 ≤ (w2.alloc (.cells #[] 5)).heap.size := Nat.le_trans hg2 al.size
  clear HB k2 al
  go_loopw [6, 7] (fun v i wr => ∃ j : Nat, j ≤ 16 ∧ i = .int .i64 j ∧ Hid (OwnB wr (g + 1) v (T.take j)) ∧ Hid (Bs wr g 46 T) ∧ Below w.heap.size w wr ∧ g + 1 ≤ wr.heap.size) (fun _ i _ => 16 - (intOf i).toNat)
  case atStart => exact ⟨0, by omega, rfl, by rw [List.take_zero]; exact HO3, HB3, k3, z3⟩
  case round =>
    clear HO3 HB3 k3 z3
    obtain ⟨j, hj, rfl, HO, HB, kb, z1⟩ := hrel
    by_cases hlt : j < 16
    · have hj32 : j < T.length := by rw [HTL.out]; omega
      have c0 := HB.out.cell j hj32
      obtain ⟨x, ex⟩ : ∃ x, x = getB T j := ⟨_, rfl⟩
      rw [← ex] at c0
      unfold bv at c0
      have etk : T.take (j + 1) = T.take j ++ [x] := by
        rw [List.take_succ_eq_append_getElem hj32, ex]
        simp [getB, List.getD, hj32]
      have ETK := Lib.hid etk; clear etk ex
      have htj : (T.take j).length ≤ 16 := by rw [List.length_take]; omega
      have HTJ := Lib.hid htj; clear htj
      have hlt' : (j : Int) < 16 := by omega
      go_wp2_with (first | (at_builtin; refine wpList_appB1 _ rfl (.tmp 17) (.tmp 21) rfl (g + 1) _ (T.take j) rfl HO.out _ rfl x rfl (by have := HTJ.out; omega) z1 ?_; intro v4 w4 ha ga _; have HA := Lib.hid ha; clear ha; have al : Below wr.heap.size wr (wr.alloc (.cells #[.int .u8 (x.toNat : Int)] 5)) := (Below.refl _ _).alloc (Nat.le_refl _) _; have HB4 := Lib.hid ((HB.out.below al).grown ga (fun e => by have := (Own.lt HO.out _ e).1; omega)); have k4 := (kb.trans (al.mono kb.size)).grown ga (Nat.le_trans kb.size al.size) (fun k e => by have := (Own.lt HO.out k e).1; omega); have z4 := Nat.le_trans (Nat.le_trans z1 al.size) ga.size; clear ga al))
      go_roundw
      case rel => exact ⟨j + 1, by omega, by go_num, by rw [ETK.out]; exact HA, HB4, k4, z4⟩
      case measure => simp [intOf]; omega
    · obtain rfl : 16 = j := by omega
      go_wp2_with (fail)
      go_ret
      exact ⟨_, rfl, Lib.hid (by rw [HTAG.out]; exact Own.low HO.out (by omega)), kb⟩

set_option maxRecDepth 100000 in
set_option maxHeartbeats 4000000 in
theorem refSeal_c (Ak : Option Addr) (nk ck : Nat) (key : List UInt8) (k e q : Nat) (d : Bool) (A : Option Addr) (n c : Nat) (body : List UInt8) (w : World) (hnk : key.length = nk) (hrk : Rd w Ak (key.map bv)) (hck : nk ≤ ck) (hmk : ck ≤ maxLen) (hlk : nk ≤ 1000000000)
    (hk : k < 256) (he : U32 e) (hq : U64 q) (hn : body.length = n) (hr : Rd w A (body.map bv)) :
    Calls Tryd.prog 12 #[.slice Ak nk ck, .agg #[.int .u8 (k : Int), .bool d, .int .u32 (e : Int), .int .u64 (q : Int)], .slice A n c] w fun r w' => ∃ v, r = .returned (.tuple #[v, .int .i64 ((sealR key ⟨k, d, e, q⟩ body).2 : Int)]) ∧ Hid (OwnB w' w.heap.size v (sealR key ⟨k, d, e, q⟩ body).1) ∧ Below w.heap.size w w' := by
  have HNK := Lib.hid hnk; clear hnk
  have HN := Lib.hid hn; clear hn
  have k0 : Below w.heap.size w (w.alloc (.cells #[.int .u8 (k : Int), .bool d, .int .u32 (e : Int), .int .u64 (q : Int)] 26)) := (Below.refl _ _).alloc (Nat.le_refl _) _
  have HB0 := Lib.hid (Bx.new w k e q d)
  obtain ⟨R, eR⟩ : ∃ R, R = sealR key ⟨k, d, e, q⟩ body := ⟨_, rfl⟩
  rw [← eR]
  have ER := Lib.hid eR; clear eR
  obtain ⟨my, emy⟩ : ∃ my, my = mayB ⟨k, d, e, q⟩ := ⟨_, rfl⟩
  go_enter Tryd.func12, Tryd.ntmps12
  go_wp2_with (fail)
  refine (refMay_c k e q d _).mono ?_
  rintro r w1 ⟨rfl, hb1⟩
  rw [← emy]
  have EMY := Lib.hid emy; clear emy
  have k1 := k0.trans (hb1.mono k0.size)
  have HB1 := Lib.hid (HB0.out.below hb1)
  clear HB0 hb1 k0
  cases my with
  | false =>
    have hR : R = ([], 1) := by rw [ER.out, sealR, ← EMY.out]; rfl
    have HRR := Lib.hid hR; clear hR
    go_wp2_with (fail)
    go_ret2
    exact ⟨_, by rw [HRR.out]; rfl, Lib.hid (by rw [HRR.out]; exact Own.nil_ _ _ _), k1⟩
  | true =>
    by_cases hbig : 512 < n
    · have hR : R = ([], 4) := by rw [ER.out, sealR, ← EMY.out, if_pos rfl, if_neg (by rw [HN.out]; omega)]
      have HRR := Lib.hid hR; clear hR
      have hbig' : (512 : Int) < (n : Int) := by omega
      go_wp2_with (fail)
      go_ret2
      exact ⟨_, by rw [HRR.out]; rfl, Lib.hid (by rw [HRR.out]; exact Own.nil_ _ _ _), k1⟩
    · have hR : R = (headL ⟨k, d, e, q⟩ ++ body ++ tagL key (headL ⟨k, d, e, q⟩ ++ body), 0) := by rw [ER.out, sealR, ← EMY.out, if_pos rfl, if_pos (by rw [HN.out]; omega)]
      have HRR := Lib.hid hR; clear hR ER EMY
      have hsm : (n : Int) ≤ 512 := by omega
      have hsm2 : n ≤ 512 := by omega
      clear hbig
      obtain ⟨⟨c0, c1, c2, c3⟩, _⟩ := HB1.out.cells
      go_wp2_with (fail)
      refine (refHead_c k e q d _ hk he hq).mono ?_
      rintro r w2 ⟨v2, rfl, ho2, hb2⟩
      have k2 := k1.trans (hb2.mono k1.size)
      have hk1 := k1.size
      have z2 : w.heap.size ≤ w2.heap.size := k2.size
      have ho2' := Own.low ho2 hk1
      have HO2 : Hid (OwnB w2 w.heap.size v2 (headL ⟨k, d, e, q⟩)) := Lib.hid ho2'
      clear ho2 ho2' hb2 HB1 k1 c0 c1 c2 c3
      go_wp2_with (first | (at_builtin; refine wpList_appB _ rfl (.tmp 16) (.tmp 17) rfl w.heap.size _ _ rfl HO2.out A n c body rfl HN.out (hr.below k2) (by rw [headL_len]; omega) z2 ?_; intro v3 w3 ha ga _; have HA := Lib.hid ha; clear ha; have k3 := k2.grown ga z2 (fun k e => (Own.lt HO2.out k e).1); clear ga))
      obtain ⟨Dt, eD⟩ : ∃ Dt, Dt = headL ⟨k, d, e, q⟩ ++ body := ⟨_, rfl⟩
      have hdl : Dt.length ≤ 526 := by rw [eD, List.length_append, headL_len, HN.out]; omega
      rw [← eD] at HRR HA
      clear eD HO2 k2 z2
      obtain ⟨A6, c6, rfl, p1, p2, p3, _⟩ := OwnB.form HA.out
      obtain ⟨nt, ent⟩ : ∃ nt, nt = Dt.length := ⟨_, rfl⟩
      rw [← ent] at p1 hdl HA ⊢
      have ENT := Lib.hid ent; clear ent
      have P3 := Lib.hid p3; clear p3 HA
      go_wp2_with (fail)
      refine (Copy_c A6 nt c6 Dt w3 ENT.out.symm P3.out (by omega)).mono ?_
      rintro r w4 ⟨v4, rfl, ho4, hb4⟩
      have k4 := k3.trans (hb4.mono k3.size)
      have hk3 := k3.size
      have HO4 : Hid (OwnB w4 w.heap.size v4 Dt) := Lib.hid (Own.low ho4 hk3)
      have P4 := Lib.hid (P3.out.below hb4)
      clear ho4 hb4 P3 k3
      go_wp2_with (fail)
      refine (refTag_c Ak nk ck key A6 nt c6 Dt w4 HNK.out (hrk.below k4) hck hmk hlk ENT.out.symm P4.out p1 p2 (by omega)).mono ?_
      rintro r w5 ⟨v5, rfl, HV5, hb5⟩
      obtain ⟨A7, c7, rfl, q1, q2, q3, _⟩ := OwnB.form HV5.out
      rw [tagL_len] at q1 ⊢
      have Q3 := Lib.hid q3; clear q3
      have k5 := k4.trans (hb5.mono k4.size)
      have HO5 : Hid (OwnB w5 w.heap.size v4 Dt) := Lib.hid (Own.below HO4.out hb5)
      have z5 : w.heap.size ≤ w5.heap.size := k5.size
      clear HV5 hb5 HO4 P4 k4
      go_wp2_with (first | (at_builtin; refine wpList_appB _ rfl (.tmp 20) (.tmp 23) rfl w.heap.size _ _ rfl HO5.out A7 16 c7 (tagL key Dt) rfl (tagL_len _ _) Q3.out (by rw [← ENT.out]; omega) z5 ?_; intro v8 w8 ha ga _; have HA8 := Lib.hid ha; clear ha; have k8 := k5.grown ga z5 (fun k e => (Own.lt HO5.out k e).1); clear ga))
      go_ret2
      exact ⟨_, by rw [HRR.out]; rfl, Lib.hid (by rw [HRR.out]; exact HA8.out), k8⟩
end Go.Proofs.YtecmkdoodlpanaaDoor
