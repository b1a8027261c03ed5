/- Parts one behind the other: The walk of the law KeysPrefix: it returns true. Conditions: as told at each. -/
import Derived.Test.YtgnciejbhaebeaaPKeysPrefix5
import Derived.Test.YtgnciejbhaebeaaPKeysPrefix6
import Derived.Deep.CutBlock
import Derived.StillTailTactics

/- The walk of the law KeysPrefix: it returns true. Conditions: the row's own. -/
namespace Go.Proofs.Ytgnciejbhaebeaa
open Go Go.RowKit

set_option maxRecDepth 100000 in
set_option maxHeartbeats 4000000 in
theorem KeysPrefix_walk (w : World) (A : Option Addr) (n c : Nat) (ovs : List WyV) (ods : List WyD) (hr : ods.length = n ∧ WysR (· < w.heap.size) w A ovs ods ∧ n ≤ c ∧ c ≤ maxLen ∧ n ≤ 1954687338211) :
    Calls Try.prog 6 #[.slice A n c] w fun r w' => r = .returned (.bool true) ∧ Below w.heap.size w w' := by
  obtain ⟨hn, hO, -, -, hl⟩ := hr
  have HN := Lib.hid hn; clear hn
  have HO := Lib.hid hO; clear hO
  go_enter Try.func6, Try.ntmps6
  go_wp2_with (fail)
  refine (NewQueue_c w).mono ?_
  rintro r w1 ⟨rfl, hq, hb1, -⟩
  have HQ := Lib.hid hq
  have HB1 := Lib.hid hb1
  obtain ⟨q, eq⟩ : ∃ q, q = w.heap.size := ⟨_, rfl⟩
  rw [← eq]
  have EQ := Lib.hid eq; clear eq hq hb1
  go_wp2_with (fail)
  refine (NewInbox_c w1).mono ?_
  rintro r w2 ⟨rfl, hi, hb2⟩
  have HI := Lib.hid hi
  have HB2 := Lib.hid hb2
  obtain ⟨b, eb⟩ : ∃ b, b = w1.heap.size := ⟨_, rfl⟩
  rw [← eb]
  have EB := Lib.hid eb; clear eb hi hb2
  go_wp2_with (fail)
  obtain ⟨w3, ew3⟩ : ∃ w3, w3 = (w2.alloc (Obj.cells #[Value.pointer (some ⟨q, 0, none⟩)] 40)).alloc (Obj.cells #[Value.pointer (some ⟨b, 0, none⟩)] 47) := ⟨_, rfl⟩
  obtain ⟨bq, ebq⟩ : ∃ bq, bq = w2.heap.size := ⟨_, rfl⟩
  obtain ⟨bb, ebb⟩ : ∃ bb, bb = bq + 1 := ⟨_, rfl⟩
  rw [← ew3, ← ebq, ← ebb]
  have EBQ := Lib.hid ebq
  have EBB := Lib.hid ebb
  have EW3 := Lib.hid ew3
  clear ebq ebb ew3
  refine (fixed24_c w3).mono ?_
  rintro r w4 ⟨rfl, hb4⟩
  have HB4 := Lib.hid hb4
  clear hb4
  obtain ⟨g0, eg0⟩ : ∃ g0, g0 = w4.heap.size := ⟨_, rfl⟩
  obtain ⟨m1, em1⟩ : ∃ m1, m1 = g0 + 1 + 1 := ⟨_, rfl⟩
  obtain ⟨m2, em2⟩ : ∃ m2, m2 = m1 + 1 + 1 := ⟨_, rfl⟩
  obtain ⟨w5, ew5⟩ : ∃ w5, w5 = (((((w4.alloc (Obj.cells #[Value.slice none 0 0] 23)).alloc (Obj.cells #[] 72)).alloc (Obj.cells #[Value.slice (some ⟨g0 + 1, 0, none⟩) 0 0] 69)).alloc (Obj.cells #[Value.int .u64 0] 22)).alloc (Obj.cells #[Value.slice (some ⟨m1 + 1, 0, none⟩) 1 1] 70)) := ⟨_, rfl⟩
  have HP0 := Lib.hid (PF_start (w5 := w5) (m1 := m1) (m2 := m2) HQ.out HB1.out HI.out HB2.out EW3.out EQ.out EB.out EBQ.out EBB.out HB4.out eg0 em1 (by omega) (by rw [ew5, show m1 + 1 = g0 + 3 by omega]))
  have EG0 := Lib.hid eg0
  have EM1 := Lib.hid em1
  have EM2 := Lib.hid em2
  have EW5 := Lib.hid ew5
  clear eg0 em1 em2 ew5
  go_upto_block 0 with (fail)
  rw [← EG0.out, ← EM1.out, ← EM2.out, ← EW5.out]
  clear EG0 EM1 EM2 EW5 HQ HB1 HI HB2 EW3 EQ EB EBQ EBB HB4
  go_cut [5] (fun s5 wx => ∃ (came G : Nat) (all gl : List Ev) (ps : List (Nat × List Ev)) (acks : List Nat), Hid (PF w ⟨q, b, bq, bb, g0, m1, m2⟩ came G (all.drop came) all gl ps acks s5 wx) ∧ Hid (IV all came G gl ps acks) ∧ all.length ≤ 202 ∧ ps.length ≤ 202 ∧ acks.length ≤ 203)
  case first =>
    go_wp2_with (fail)
    go_loopw [5, 37] (fun s5 i wr => ∃ (k came G : Nat) (all gl : List Ev) (ps : List (Nat × List Ev)) (acks : List Nat), k ≤ n ∧ i = .int .i64 k ∧ Hid (PF w ⟨q, b, bq, bb, g0, m1, m2⟩ came G (all.drop came) all gl ps acks s5 wr) ∧ Hid (IV all came G gl ps acks) ∧ all.length ≤ k ∧ ps.length ≤ k ∧ acks.length ≤ k + 1 ∧ acks ≠ [] ∧ k ≤ 201) (fun _ i _ => n - (intOf i).toNat)
    case atStart => exact ⟨0, 0, 0, [], [], [], [0], Nat.zero_le _, rfl, HP0, Lib.hid ⟨Nat.le_refl _, Nat.le_refl _, rfl, fun p hp => (by cases hp), fun x hx => by simp at hx; omega⟩, Nat.le_refl _, Nat.le_refl _, Nat.le_refl _, by simp, by decide⟩
    case round =>
      clear HP0
      obtain ⟨k, came, G, all, gl, ps, acks, hk, rfl, HP, HI, hc1, hc2, hc3, hc4, hc5⟩ := hrel
      rcases Nat.lt_or_ge k n with hlt | hge
      · obtain ⟨B0, off, ov, od, rfl, hB, -, hop, hcell⟩ := HO.out.at_ k (by rw [HN.out]; exact hlt)
        obtain ⟨k0, i0, e0⟩ := ov
        obtain ⟨ek, At, tn, tc, ex, ey, eb⟩ := e0
        have kb := HP.out.bel
        have cell : ∀ j, j < 7 → wr.cell? ⟨B0, off + k * 7 + j, none⟩ = (WyV.cells ⟨k0, i0, ⟨ek, At, tn, tc, ex, ey, eb⟩⟩)[j]? := fun j hj => (kb.cell (p := ⟨B0, _, none⟩) hB).trans (hcell j hj)
        have c0 : wr.cell? ⟨B0, off + k * 7, none⟩ = some (.int .i64 k0) := cell 0 (by decide)
        have c1 : wr.cell? ⟨B0, off + k * 7 + 1, none⟩ = some (.int .i64 i0) := cell 1 (by decide)
        have c2 : wr.cell? ⟨B0, off + k * 7 + 2, none⟩ = some (.int .i64 ek) := cell 2 (by decide)
        have c3 : wr.cell? ⟨B0, off + k * 7 + 3, none⟩ = some (.slice At tn tc) := cell 3 (by decide)
        have c4 : wr.cell? ⟨B0, off + k * 7 + 4, none⟩ = some (.int .i64 ex) := cell 4 (by decide)
        have c5 : wr.cell? ⟨B0, off + k * 7 + 5, none⟩ = some (.int .i64 ey) := cell 5 (by decide)
        have c6 : wr.cell? ⟨B0, off + k * 7 + 6, none⟩ = some (.int .i64 eb) := cell 6 (by decide)
        clear cell hcell
        obtain ⟨z0, zi, ⟨zk, zt, zx, zy, zb⟩⟩ := od
        obtain rfl : k0 = z0 := hop.1
        obtain rfl : i0 = zi := hop.2.1
        obtain rfl : ek = zk := hop.2.2.1.1
        obtain rfl : ex = zx := hop.2.2.1.2.1
        obtain rfl : ey = zy := hop.2.2.1.2.2.1
        obtain rfl : eb = zb := hop.2.2.1.2.2.2.1
        have HOP := Lib.hid hop; clear hop
        have hlt' : (k : Int) < (n : Int) := by omega
        rcases Nat.lt_or_ge 200 k with h100 | h100
        · have h100' : (200 : Int) < (k : Int) := by omega
          go_wp2_with (fail)
          go_meet
          exact ⟨came, G, all, gl, ps, acks, Lib.hid (HP.out.below ((Below.refl _ _).alloc (Nat.le_refl _) _)), HI, by omega, by omega, by omega⟩
        · have h100' : (k : Int) ≤ 200 := by omega
          obtain ⟨said, eps, col, vq, vg, vs, vk, dq, dA, dG, hX⟩ := HP.out
          have EPS := Lib.hid eps; clear eps
          obtain ⟨wa, ewa⟩ : ∃ wa, wa = wr.alloc (.cells #[.int .i64 k0, .int .i64 i0, .int .i64 ek, .slice At tn tc, .int .i64 ex, .int .i64 ey, .int .i64 eb] 75) := ⟨_, rfl⟩
          obtain ⟨g, eg⟩ : ∃ g, g = wr.heap.size := ⟨_, rfl⟩
          obtain ⟨c9, ec9⟩ : ∃ c9, c9 = ext col wr.heap.size 9 := ⟨_, rfl⟩
          have HXa := Lib.hid (hX.below (w' := wa) (col' := c9) (by rw [ewa]; exact (Below.refl _ _).alloc (Nat.le_refl _) _) (fun j hj => by rw [ec9]; exact ext_lt hj))
          have CG := Lib.hid (show c9 g = 9 by rw [ec9, eg]; exact ext_ge (Nat.le_refl _))
          have BXa : Hid (WyBx ⟨k0, i0, ⟨ek, At, tn, tc, ex, ey, eb⟩⟩ g wa) := Lib.hid (by rw [ewa, eg]; exact heap_alloc_new wr _)
          have EWA := Lib.hid ewa
          have EG := Lib.hid eg
          clear ewa eg ec9 hX kb hB HP
          go_wp2_with (fail)
          rw [← EWA.out]
          obtain ⟨wb, ewb⟩ : ∃ wb, wb = wa.alloc (.cells #[.int .i64 ek, .slice At tn tc, .int .i64 ex, .int .i64 ey, .int .i64 eb] 36) := ⟨_, rfl⟩
          obtain ⟨g1, eg1⟩ : ∃ g1, g1 = wr.heap.size + 1 := ⟨_, rfl⟩
          rw [← ewb, ← eg1, ← EG.out]
          have sa : wa.heap.size = wr.heap.size + 1 := by rw [EWA.out]; simp
          have rb : wb.heap[g1]? = some (.cells #[.int .i64 ek, .slice At tn tc, .int .i64 ex, .int .i64 ey, .int .i64 eb] 36 (0, 0)) := by rw [ewb, eg1, ← sa]; exact heap_alloc_new wa _
          have bb : Below wa.heap.size wa wb := by rw [ewb]; exact (Below.refl _ _).alloc (Nat.le_refl _) _
          have HXb := Lib.hid (HXa.out.below bb (fun _ _ => rfl))
          have BXb := Lib.hid (BXa.out.below bb)
          clear HXa BXa bb ewb eg1 sa EWA EG c0 c1 c2 c3 c4 c5 c6
          have he : EvsR (fun _ => True) wb (some ⟨g1, 0, none⟩) [⟨ek, At, tn, tc, ex, ey, eb⟩] [⟨ek, zt, ex, ey, eb⟩] := EvsR.one rb trivial ((HOP.out.below HXb.out.bel).2.2.1.weak (fun _ _ _ => trivial))
          refine (great_c _ _ 1 1 _ [⟨ek, zt, ex, ey, eb⟩] wb rfl he (Nat.le_refl _) (by unfold maxLen; decide)).mono ?_
          rintro r w6 ⟨rfl, j6, e6⟩
          have HX6 := Lib.hid (e6 ▸ HXb.out.drewN j6)
          have BX6 := Lib.hid (BXb.out.below (w' := w6) (by rw [e6]; exact below_drewN (Below.refl _ _) j6))
          clear HXb BXb e6 he rb
          obtain ⟨c0, c1, c2, c3, c4, c5, c6⟩ := BX6.out.cells
          obtain ⟨Gt, eGt⟩ : ∃ Gt, Gt = greatB [⟨ek, zt, ex, ey, eb⟩] := ⟨_, rfl⟩
          rw [← eGt]
          clear eGt
          have xq6 := HX6.out.xq.cell
          cases Gt with
          | true =>
            go_wp2_with (fail)
            go_meet
            exact ⟨came, G, all, gl, ps, acks, Lib.hid ⟨said, EPS.out, _, _, _, _, _, _, _, _, HX6.out⟩, HI, by omega, by omega, by omega⟩
          | false =>
            go_upto_block 2 with (fail)
            go_cut [5] (fun s5 wx => ∃ (came' G' : Nat) (all' gl' : List Ev) (ps' : List (Nat × List Ev)) (acks' : List Nat), Hid (PF w ⟨q, b, bq, bb, g0, m1, m2⟩ came' G' (all'.drop came') all' gl' ps' acks' s5 wx) ∧ Hid (IV all' came' G' gl' ps' acks') ∧ all'.length ≤ k + 1 ∧ ps'.length ≤ k + 1 ∧ acks'.length ≤ k + 2 ∧ acks' ≠ [])
            case first =>
              have hcU : U63 came := by unfold U63; have := HI.out.c; have := HI.out.g; omega
              have hes : (all.drop came).length ≤ 1000000000 := by rw [List.length_drop]; omega
              have HES := Lib.hid hes; clear hes
              by_cases h0 : k0 = 0
              · subst h0
                obtain ⟨M, eM⟩ : ∃ M, M = (Ev.may ⟨ek, zt, ex, ey, eb⟩) := ⟨_, rfl⟩
                cases M with
                | false =>
                  have hp : pushR came (all.drop came) ⟨ek, zt, ex, ey, eb⟩ = (0, 1, all.drop came) := by rw [pushR, if_pos eM.symm]
                  have HP := Lib.hid hp; clear hp eM
                  go_wp2_with (fail)
                  refine (push_x HX6.out hcU HES.out _ ek ex ey eb At tn tc zt (HOP.out.below HX6.out.bel).2.2.1.2.2.2.2 _ _ _ HP.out).mono ?_
                  rintro r w7 ⟨rfl, ⟨v7, d7, hX7⟩, -⟩
                  have HX7 := Lib.hid hX7
                  clear hX7
                  go_wp2_with (fail)
                  go_meet
                  exact ⟨came, G, all, gl, ps, acks, Lib.hid ⟨said, EPS.out, _, _, _, _, _, _, _, _, HX7.out⟩, HI, by omega, by omega, by omega, hc4⟩
                | true =>
                  obtain ⟨N, hp⟩ : ∃ N, pushR came (all.drop came) ⟨ek, zt, ex, ey, eb⟩ = (N, 0, all.drop came ++ [⟨ek, zt, ex, ey, eb⟩]) := ⟨_, by rw [pushR, if_neg (by rw [← eM]; decide), if_neg (by rw [List.length_drop]; omega)]⟩
                  have HP := Lib.hid hp; clear hp eM
                  go_wp2_with (fail)
                  refine (push_x HX6.out hcU HES.out _ ek ex ey eb At tn tc zt (HOP.out.below HX6.out.bel).2.2.1.2.2.2.2 _ _ _ HP.out).mono ?_
                  rintro r w7 ⟨rfl, ⟨v7, d7, hX7⟩, hK7⟩
                  have HX7 := Lib.hid hX7
                  have BX7 : Hid (WyBx ⟨0, i0, ⟨ek, At, tn, tc, ex, ey, eb⟩⟩ g w7) := Lib.hid ((hK7.block g (heap_lt BX6.out) (by have := CG.out; omega)).trans BX6.out)
                  clear hX7 hK7 HX6 BX6 c0 c1 c2 c3 c4 c5 c6 xq6
                  obtain ⟨c0, c1, c2, c3, c4, c5, c6⟩ := BX7.out.cells
                  have HX8 := Lib.hid (HX7.out.below (w' := w7.alloc (.cells #[.int .i64 ek, .slice At tn tc, .int .i64 ex, .int .i64 ey, .int .i64 eb] 36)) ((Below.refl _ _).alloc (Nat.le_refl _) _) (fun _ _ => rfl))
                  have hdl : dA.length ≤ 1000 := by rw [HX8.out.ac.len]; omega
                  go_wp2_with (at_builtin; refine wpList_appV _ rfl (.tmp 63) (.tmp 66) rfl 0 _ dA rfl HX8.out.ac.row (some ⟨w7.heap.size, 0, none⟩) 1 1 [⟨ek, At, tn, tc, ex, ey, eb⟩] rfl rfl (Rd.lit w7 (cellsV [⟨ek, At, tn, tc, ex, ey, eb⟩]) 36) (by omega) (Nat.zero_le _) ?_; intro v9 w9 ho9 hg9 hv9; have HX9 := Lib.hid (HX8.out.acc_ ho9 hg9 hv9 ⟨ek, zt, ex, ey, eb⟩ _ rfl HOP.out.2.2.1); clear ho9 hg9 hv9)
                  go_meet
                  exact ⟨came, G, all ++ [⟨ek, zt, ex, ey, eb⟩], gl, ps, acks, Lib.hid (by rw [List.drop_append_of_le_length (by have := HI.out.c; have := HI.out.g; omega)]; exact ⟨said, EPS.out, _, _, _, _, _, _, _, _, HX9.out⟩), Lib.hid (HI.out.push _), by rw [List.length_append, List.length_singleton]; omega, by omega, by omega, hc4⟩
              · have k0f : (k0 == 0) = false := by rw [beq_eq_false_iff_ne]; exact h0
                clear h0
                by_cases h1 : k0 = 1
                · subst h1
                  have hp6 : PF w ⟨q, b, bq, bb, g0, m1, m2⟩ came G (all.drop came) all gl ps acks u5 w6 := ⟨said, EPS.out, _, _, _, _, _, _, _, _, HX6.out⟩
                  have HP6 := Lib.hid hp6; clear hp6
                  go_wp2_with (fail)
                  refine (say_c w ⟨q, b, bq, bb, g0, m1, m2⟩ came G _ all gl ps acks u5 w6 HP6.out HES.out (by omega)).mono ?_
                  rintro r w7 ⟨rfl, hp7⟩
                  have HP7 := Lib.hid hp7
                  clear hp7 HX6 BX6 c0 c1 c2 c3 c4 c5 c6 xq6
                  have hsy := HI.out.say
                  go_wp2_with (fail)
                  go_meet
                  exact ⟨came, G, all, gl, _, acks, HP7, Lib.hid hsy.1, by omega, by have := hsy.2; omega, by omega, hc4⟩
                · have k1f : (k0 == 1) = false := by rw [beq_eq_false_iff_ne]; exact h1
                  clear h1
                  by_cases h2 : k0 = 2
                  · subst h2
                    obtain ⟨As, cs, evs, s1, s2, s3⟩ := row_form HX6.out.sa.row
                    subst evs
                    have xs6 := HX6.out.xs.cell
                    rcases Nat.eq_zero_or_pos said.length with hs0 | hs0
                    · have d0 : decide (0 < said.length) = false := decide_eq_false (by omega)
                      clear hs0
                      go_wp2_with (fail)
                      go_meet
                      exact ⟨came, G, all, gl, ps, acks, Lib.hid ⟨said, EPS.out, _, _, _, _, _, _, _, _, HX6.out⟩, HI, by omega, by omega, by omega, hc4⟩
                    · have d0 : decide (0 < said.length) = true := decide_eq_true (by omega)
                      obtain ⟨ln, eln⟩ : ∃ ln, ln = said.length := ⟨_, rfl⟩
                      have hln : ln ≤ 202 := by have := congrArg List.length EPS.out; rw [List.length_map] at this; omega
                      rw [← eln] at d0 hs0 xs6
                      obtain ⟨U, j, hj, wI, hU, rmm, rmt, wL, nz, hj1, hj2⟩ := rest_ix i0 ln hs0 (by omega)
                      have nz2 : ¬ ln = 0 := by omega
                      have wj := i64_wrapN (n := j) (by unfold U63; omega)
                      obtain ⟨bs0, os0, base, Ab, nb, cb, db, evb, rfl, hmem, bt1, bt2, bt3, bt4, b0, b1⟩ := HX6.out.sa.at_ j (by rw [← eln]; exact hj)
                      have hseg : Seg all (base, evb) := HI.out.s _ (by rw [← EPS.out]; exact hmem)
                      have SEG := Lib.hid hseg
                      have BT1 := Lib.hid bt1
                      have BT2 := Lib.hid bt2
                      have BT3 := Lib.hid bt3
                      have BT4 := Lib.hid bt4
                      have ELN := Lib.hid eln
                      obtain ⟨L, er, G', hT⟩ : ∃ L er G', takeR G base evb = (L, er, G') := ⟨_, _, _, rfl⟩
                      have hcm := HI.out.come (base, evb) hseg hT
                      have HCM := Lib.hid hcm
                      have HT := Lib.hid hT
                      have hnb : nb ≤ 16 := by have := hseg.2.2.2; simp only at this; omega
                      have hgm : Hid (base ≤ 202 ∧ G ≤ 202 ∧ G' ≤ 202 ∧ gl.length ≤ 202) := Lib.hid (by
                        have h1 := hseg.2.1; have h2 := HI.out.g; have h3 := hcm.1.g; have h4 := HI.out.glen
                        simp only at h1
                        omega)
                      have hp6 : PF w ⟨q, b, bq, bb, g0, m1, m2⟩ came G (all.drop came) all gl ps acks u5 w6.drew := ⟨said, EPS.out, _, _, _, _, _, _, _, _, HX6.out.drewN 1⟩
                      have HP6 := Lib.hid hp6
                      clear hseg bt1 bt2 bt3 bt4 eln hcm hT hmem hp6
                      go_upto_region 22 with (fail)
                      go_still_tail 12, (by kernel_rfl)
                      change wpList _ _ _ _ _ w6.drew
                      go_wp2_with (go_at_call 39; (with_reducible refine (come_c w ⟨q, b, bq, bb, g0, m1, m2⟩ came G _ all gl ps acks u5 w6.drew _ base Ab nb cb db evb L er G' HP6.out BT1.out (BT2.out.drewN 1) BT3.out BT4.out (by omega) HT.out (by have := hgm.out; omega) (by have := hgm.out; omega) (by have := hgm.out; unfold U64; omega) (by have := hgm.out; omega) (by omega)).mono ?_); rintro _ w7 ⟨rfl, hP7⟩; have HP7 := Lib.hid hP7; clear hP7)
                      clear rmm rmt wL nz wI wj
                      go_wp2_with (fail)
                      go_meet
                      exact ⟨came, G', all, gl ++ L, ps, acks ++ [G'], HP7, Lib.hid HCM.out.1, by omega, by omega, by rw [List.length_append, List.length_singleton]; omega, by simp⟩
                  · have k2f : (k0 == 2) = false := by rw [beq_eq_false_iff_ne]; exact h2
                    clear h2
                    by_cases h3 : k0 = 3
                    · subst h3
                      obtain ⟨Ak, ck, evk, s1, s2, s3⟩ := row_form HX6.out.ak.row
                      subst evk
                      clear s1 s2 s3
                      have xa6 := HX6.out.xa.cell
                      obtain ⟨ln, eln⟩ : ∃ ln, ln = (acks.map fun (n : Nat) => (Value.int .u64 (n : Int))).length := ⟨_, rfl⟩
                      rw [← eln] at xa6
                      have eln2 : ln = acks.length := by rw [eln, List.length_map]
                      have hs0 : 0 < ln := by rw [eln2]; exact List.length_pos_iff.2 hc4
                      obtain ⟨U, j, hj, wI, hU, rmm, rmt, wL, nz, hj1, hj2⟩ := rest_ix i0 ln hs0 (by omega)
                      have nz2 : ¬ ln = 0 := by omega
                      have wj := i64_wrapN (n := j) (by unfold U63; omega)
                      obtain ⟨bs0, os0, x, rfl, hmem, b0⟩ := HX6.out.ak.at_ j (by rw [← eln2]; exact hj)
                      have hxG := HI.out.a x hmem
                      obtain ⟨N, gt, es', hA⟩ : ∃ N gt es', ackR came (all.drop came) x = (N, gt, es') := ⟨_, _, _, rfl⟩
                      have hck := HI.out.ack hxG hA
                      have HCK := Lib.hid hck
                      have HA := Lib.hid hA
                      have hxu : Hid (U64 x) := Lib.hid (by unfold U64; have := HI.out.g; omega)
                      have hp6 : PE w ⟨q, b, bq, bb, g0, m1, m2⟩ came G (all.drop came) all gl said acks u5 w6.drew := ⟨_, _, _, _, _, _, _, _, HX6.out.drewN 1⟩
                      have HP6 := Lib.hid hp6
                      clear hck hA hmem hp6 eln2 eln hxG
                      go_upto_region 24 with (fail)
                      go_still_tail 12, (by kernel_rfl)
                      change wpList _ _ _ _ _ w6.drew
                      go_wp2_with (go_at_call 27; (with_reducible refine (ack_x HP6.out hcU HES.out x hxu.out N gt es' HA.out).mono ?_); rintro _ w7 ⟨rfl, hP7⟩; have HP7 := Lib.hid hP7; clear hP7)
                      clear rmm rmt wL nz wI wj
                      go_wp2_with (fail)
                      go_meet
                      exact ⟨gt, G, all, gl, ps, acks, Lib.hid (by rw [← HCK.out.2.1]; exact ⟨said, EPS.out, HP7.out⟩), Lib.hid HCK.out.1, by omega, by omega, by omega, hc4⟩
                    · have k3f : (k0 == 3) = false := by rw [beq_eq_false_iff_ne]; exact h3
                      clear h3
                      go_wp2_with (fail)
                      go_meet
                      exact ⟨came, G, all, gl, ps, acks, Lib.hid ⟨said, EPS.out, _, _, _, _, _, _, _, _, HX6.out⟩, HI, by omega, by omega, by omega, hc4⟩
            case rest =>
              obtain ⟨came', G', all', gl', ps', acks', HP, HI, h1, h2, h3, h4⟩ := hcut
              clear HX6 BX6 CG c0 c1 c2 c3 c4 c5 c6 xq6
              obtain ⟨said', eps', col', vq', vg', vs', vk', dq', dA', dG', hX⟩ := HP.out
              have hgl := HI.out.glen
              obtain ⟨Ag, cg, evg, p1, p2, rg⟩ := hX.go.form
              obtain ⟨Aa, ca, eva, p3, p4, ra⟩ := hX.ac.form
              subst evg
              have hag : G' ≤ all'.length := HI.out.g
              obtain ⟨ng, eng⟩ : ∃ ng, ng = gl'.length := ⟨_, rfl⟩
              obtain ⟨na, ena⟩ : ∃ na, na = all'.length := ⟨_, rfl⟩
              have xg := hX.xg.cell
              have xb := hX.xb.cell
              rw [← ena] at p3 eva h1
              subst eva
              have ra2 := ra.take ng
              rw [show all'.take ng = gl' by rw [eng, hgl]; exact HI.out.l.symm] at ra2
              have hna : ng ≤ na := by omega
              have RG := Lib.hid rg
              have RA2 := Lib.hid ra2
              have HX := Lib.hid hX
              have HGL := Lib.hid hgl
              rw [← eng] at xg
              have hpe : PE w ⟨q, b, bq, bb, g0, m1, m2⟩ came' G' (all'.drop came') all' gl' said' acks' _ wc := ⟨_, _, _, _, _, _, _, _, hX⟩
              have HPE := Lib.hid hpe
              have Q1 : Hid (∀ j, Calls Try.prog 24 #[.slice Ag ng cg, .slice Aa ng ca] (wc.drewN j) fun e w'' => e = .returned (.bool true) ∧ ∃ q, w'' = wc.drewN q) :=
                Lib.hid fun j => Calls.quiet_of (Same24_t _ _ Ag Aa ng cg ca _ _ gl' _ eng.symm (RG.out.drewN j) (RA2.out.drewN j) (by omega))
              have Q3 : Hid (∀ j, Calls Try.prog 37 #[.pointer (some ⟨b, 0, none⟩)] (wc.drewN j) fun e w'' => e = .returned (.int .u64 (ng : Int)) ∧ ∃ q, w'' = wc.drewN q) :=
                Lib.hid fun j => Calls.quiet_of_same ((got_x (HPE.out.drewN j)).mono fun _ _ ⟨he, hw⟩ => ⟨he.trans (by rw [eng, HGL.out]), hw.symm⟩)
              have d1 : decide ((na : Int) < (ng : Int)) = false := decide_eq_false (by omega)
              have d2 : decide (na < ng) = false := decide_eq_false (by omega)
              have wg := u64_wrapN (n := ng) (by unfold U64; omega)
              have nG : ((ng : Int) != (ng : Int)) = false := by simp
              have i1 : (ng : Int) ≤ (na : Int) := by omega
              have i2 : (ng : Int) ≤ (ca : Int) := by omega
              have i3 : (0 : Int) ≤ (ng : Int) := by omega
              have ENA := Lib.hid ena
              have ENG := Lib.hid eng
              clear rg ra ra2 hX hgl eps' hag eng ena hpe
              go_upto_region 25 with (fail)
              go_quiet (first
                | (go_at_call 24; exact Q1.out _)
                | (go_at_call 37; exact Q3.out _))
              go_wp2_with (fail)
              go_roundw
              case rel => exact ⟨k + 1, came', G', all', gl', ps', acks', by omega, by go_num, Lib.hid (HP.out.below (below_drewN (Below.refl _ _) _)), HI, by have := ENA.out; omega, h2, by omega, h4, by omega⟩
              case measure => simp [intOf]; omega
      · have hge' : (n : Int) ≤ (k : Int) := by omega
        go_wp2_with (fail)
        go_meet
        exact ⟨came, G, all, gl, ps, acks, HP, HI, by omega, by omega, by omega⟩
  case rest =>
    obtain ⟨came, G, all, gl, ps, acks, HP, HI, h1, h2, h3⟩ := hcut
    obtain ⟨said, eps, hpe⟩ := HP.out
    have EPS := Lib.hid eps; clear eps
    have hcG : came ≤ 202 ∧ G ≤ 202 := by have := HI.out.c; have := HI.out.g; omega
    have hcU : U63 came := by unfold U63; omega
    have HES : Hid ((all.drop came).length ≤ 1000000000) := Lib.hid (by rw [List.length_drop]; omega)
    have hpd := hpe.drewN 1
    have HPD : Hid (PE w ⟨q, b, bq, bb, g0, m1, m2⟩ came G (all.drop came) all gl said acks u5 wc.drew) := Lib.hid hpd
    obtain ⟨x1, x2⟩ := hpe.ptrs
    obtain ⟨Aa, ca, eva, p3, p4⟩ : ∃ Aa ca, u5 = .slice Aa all.length ca ∧ all.length ≤ ca ∧ ca ≤ maxLen := by
      obtain ⟨col, vq, vg, vs, vk, dq, dA, dG, hX⟩ := hpe
      obtain ⟨Aa, ca, eva, p3, p4, -⟩ := hX.ac.form
      exact ⟨Aa, ca, eva, p3, p4⟩
    obtain ⟨na, ena⟩ : ∃ na, na = all.length := ⟨_, rfl⟩
    rw [← ena] at eva p3 h1
    subst eva
    have ENA := Lib.hid ena
    clear hpe hpd ena HP
    obtain ⟨N, gt, es', hA⟩ : ∃ N gt es', ackR came (all.drop came) G = (N, gt, es') := ⟨_, _, _, rfl⟩
    obtain ⟨rfl, hes', hIV⟩ := HI.out.ackG hA
    have HA := Lib.hid hA
    have HES' := Lib.hid hes'
    have HIV := Lib.hid hIV
    clear hA hes' hIV
    have hGu : U64 gt := by unfold U64; omega
    go_upto_region 28 with (fail)
    go_region_held3 (fun w' => w'.cell? ⟨bq, 0, none⟩ = some (.pointer (some ⟨q, 0, none⟩)) ∧ w'.cell? ⟨bb, 0, none⟩ = some (.pointer (some ⟨b, 0, none⟩))) (first | exact ⟨x1, x2⟩ | (with_reducible assumption)) (first
      | (go_at_call 37; (with_reducible refine (got_x HPD.out).mono ?_); rintro _ w7 ⟨rfl, rfl⟩)
      | (go_at_call 27; (with_reducible refine (ack_x HPD.out hcU HES.out gt hGu N gt es' HA.out).mono ?_); rintro _ w7 ⟨rfl, hP7⟩; have HP7 := Lib.hid hP7; have y12 := hP7.ptrs; clear hP7))
    have HP : Hid (PF w ⟨q, b, bq, bb, g0, m1, m2⟩ gt gt (all.drop gt) all gl ps acks (.slice Aa na ca) w7) := Lib.hid ⟨said, EPS.out, HES'.out ▸ HP7.out⟩
    clear HPD HP7 y12 x1 x2 HA HES' HES HI hcU hGu EPS
    obtain ⟨d, ed⟩ : ∃ d, d = na / 16 := ⟨_, rfl⟩
    have hd : d ≤ 13 := by omega
    have hd2 : na < 16 * (d + 1) := by omega
    have qd : (na : Int) / 16 = (d : Int) := by omega
    have qt : (na : Int).tdiv 16 = (d : Int) := by rw [Int.tdiv_eq_ediv_of_nonneg (by omega)]; exact qd
    have hdi : (d : Int) ≤ 13 := by omega
    have ED := Lib.hid ed; clear ed
    go_wp2_with (fail)
    clear qd qt
    have HA0 : Hid (∃ na', na' = na ∧ na' = all.length) := Lib.hid ⟨na, rfl, ENA.out⟩
    go_loopw [136] (fun i wr => ∃ (j G : Nat) (gl : List Ev) (ps : List (Nat × List Ev)) (acks : List Nat), j ≤ d + 1 ∧ i = .int .i64 j ∧ Hid (PF w ⟨q, b, bq, bb, g0, m1, m2⟩ G G (all.drop G) all gl ps acks (.slice Aa na ca) wr) ∧ Hid (IV all G G gl ps acks) ∧ Hid (min (16 * j) na ≤ G) ∧ ps.length ≤ 300 + j ∧ acks.length ≤ 300 + j) (fun i _ => d + 1 - (intOf i).toNat)
    case atStart => exact ⟨0, gt, gl, ps, acks, Nat.zero_le _, rfl, HP, HIV, Lib.hid (by omega), by omega, by omega⟩
    case round =>
      clear HP HIV h2 h3 hcG
      obtain ⟨j, G, gl, ps, acks, hj, rfl, HP, HI, HM, h2, h3⟩ := hrel
      have hGa : G ≤ na := by have := HI.out.g; have := ENA.out; omega
      have HES : Hid ((all.drop G).length ≤ 1000000000) := Lib.hid (by rw [List.length_drop]; have := ENA.out; omega)
      rcases Nat.lt_or_ge j (d + 1) with hlt | hge
      · have hlt' : (j : Int) < (d : Int) + 1 := by omega
        go_wp2_with (fail)
        refine (say_c w ⟨q, b, bq, bb, g0, m1, m2⟩ G G _ all gl ps acks _ wr HP.out HES.out (by omega)).mono ?_
        rintro r w7 ⟨rfl, hp7⟩
        obtain ⟨hs1, hs2⟩ := HI.out.say
        obtain ⟨ps', eps'⟩ : ∃ ps', ps' = sayR G (all.drop G) ps := ⟨_, rfl⟩
        rw [← eps'] at hp7 hs1 hs2
        have HI7 := Lib.hid hs1
        obtain ⟨said, eps, col, vq, vg, vs, vk, dq, dA, dG, hX⟩ := hp7
        have xq := hX.xq.cell
        have HX7 := Lib.hid hX
        have EPS := Lib.hid eps
        clear hs1 eps' eps hX HP
        obtain ⟨L, eL⟩ : ∃ L, L = (all.drop G).take 16 := ⟨_, rfl⟩
        have EL := Lib.hid eL
        have hLl : L.length ≤ 16 := by rw [eL]; exact List.length_take_le _ _
        have hLm : L.length = min 16 (na - G) := by rw [eL, List.length_take, List.length_drop, ← ENA.out]
        clear eL
        go_wp2_with (fail)
        refine (batch_x HX7.out HES.out).mono ?_
        rintro r w8 ⟨v8, rfl, ⟨d8, hE8⟩, hX8⟩
        rw [← EL.out] at hE8
        obtain ⟨A8, cp8, ev8, f1, f2, hR8⟩ := hE8.form
        obtain ⟨nl, enl⟩ : ∃ nl, nl = L.length := ⟨_, rfl⟩
        rw [← enl] at ev8 f1 hLl hLm
        subst ev8
        have ENL := Lib.hid enl; clear enl
        have HX8 := Lib.hid hX8
        have R8 := Lib.hid hR8
        have F1 := Lib.hid f1
        have F2 := Lib.hid f2
        have HLM := Lib.hid hLm
        clear hE8 hX8 hR8 xq HX7 f1 f2 hLm
        rcases Nat.eq_zero_or_pos nl with h0 | h0
        · have hGn : G = na := by have := HLM.out; omega
          have HGN := Lib.hid hGn; clear hGn
          have d0 : decide (0 < nl) = false := decide_eq_false (by omega)
          clear h0
          obtain ⟨N, gt', es', hA⟩ : ∃ N gt es', ackR G (all.drop G) G = (N, gt, es') := ⟨_, _, _, rfl⟩
          obtain ⟨rfl, hes', hIV⟩ := HI7.out.ackG hA
          have HA := Lib.hid hA
          have HES' := Lib.hid hes'
          have HIV := Lib.hid hIV
          have hpd : PE w ⟨q, b, bq, bb, g0, m1, m2⟩ gt' gt' (all.drop gt') all gl said acks (.slice Aa na ca) w8.drew := ⟨_, _, _, _, _, _, _, _, HX8.out.drewN 1⟩
          have HPD := Lib.hid hpd
          obtain ⟨x1, x2⟩ := hpd.ptrs
          have x1 : w8.cell? ⟨bq, 0, none⟩ = some (.pointer (some ⟨q, 0, none⟩)) := x1
          have x2 : w8.cell? ⟨bb, 0, none⟩ = some (.pointer (some ⟨b, 0, none⟩)) := x2
          have hcU : U63 gt' := by unfold U63; omega
          have hGu : U64 gt' := by unfold U64; omega
          clear hA hes' hIV hpd
          go_upto_region 35 with (fail)
          go_region_held3 (fun w' => w'.cell? ⟨bq, 0, none⟩ = some (.pointer (some ⟨q, 0, none⟩)) ∧ w'.cell? ⟨bb, 0, none⟩ = some (.pointer (some ⟨b, 0, none⟩))) (first | exact ⟨x1, x2⟩ | (with_reducible assumption)) (first
            | (go_at_call 37; (with_reducible refine (got_x HPD.out).mono ?_); rintro _ w9 ⟨rfl, rfl⟩)
            | (go_at_call 27; (with_reducible refine (ack_x HPD.out hcU HES.out gt' hGu N gt' es' HA.out).mono ?_); rintro _ w9 ⟨rfl, hP9⟩; have HP9 := Lib.hid hP9; have y12 := hP9.ptrs; clear hP9))
          go_wp2_with (fail)
          go_roundw
          case rel => exact ⟨j + 1, gt', gl, ps', acks, by omega, by go_num, Lib.hid ⟨said, EPS.out, HES'.out ▸ HP9.out⟩, HIV, Lib.hid (by have := HGN.out; omega), by omega, by omega⟩
          case measure => simp [intOf]; omega
        · have d0 : decide (0 < nl) = true := decide_eq_true (by omega)
          obtain ⟨L2, er, G', hT⟩ : ∃ L2 er G', takeR G G L = (L2, er, G') := ⟨_, _, _, rfl⟩
          have hne : (all.drop G).take 16 ≠ [] := by rw [← EL.out]; intro e; have := ENL.out; rw [e] at this; simp at this; omega
          have hseg := HI7.out.next hne
          rw [← EL.out] at hseg
          have hcm := HI7.out.come (G, L) hseg hT
          have HCM := Lib.hid hcm
          have hG' : G' ≤ na := by have := hcm.1.g; have := ENA.out; omega
          have hgl : Hid (gl.length ≤ 1000000000) := Lib.hid (by rw [HI7.out.glen]; omega)
          have HT := Lib.hid hT
          have hp8 : PF w ⟨q, b, bq, bb, g0, m1, m2⟩ G G (all.drop G) all gl ps' acks (.slice Aa na ca) w8 := ⟨said, EPS.out, _, _, _, _, _, _, _, _, HX8.out⟩
          have HP8 := Lib.hid hp8
          clear hne hseg hcm hT hp8 h0 HX8
          go_wp2_with (fail)
          refine (come_c w ⟨q, b, bq, bb, g0, m1, m2⟩ G G _ all gl ps' acks _ w8 _ G A8 nl cp8 d8 L L2 er G' HP8.out ENL.out.symm R8.out F1.out F2.out (by omega) HT.out (by omega) (by omega) (by unfold U64; omega) hgl.out (by omega)).mono ?_
          rintro r w9 ⟨rfl, said9, eps9, hpe9⟩
          have EPS9 := Lib.hid eps9; clear eps9 EPS
          obtain ⟨N, gt', es', hA⟩ : ∃ N gt es', ackR G (all.drop G) G' = (N, gt, es') := ⟨_, _, _, rfl⟩
          obtain ⟨rfl, hes', hIV⟩ := HCM.out.1.ackG hA
          have HA := Lib.hid hA
          have HES' := Lib.hid hes'
          have HIV := Lib.hid hIV
          have hpd : PE w ⟨q, b, bq, bb, g0, m1, m2⟩ G gt' (all.drop G) all (gl ++ L2) said9 (acks ++ [gt']) (.slice Aa na ca) w9.drew := hpe9.drewN 1
          have HPD := Lib.hid hpd
          obtain ⟨x1, x2⟩ := hpe9.ptrs
          have hcU : U63 G := by unfold U63; omega
          have hGu : U64 gt' := by unfold U64; omega
          clear hA hes' hIV hpd hpe9 HP8 R8
          go_upto_region 35 with (fail)
          go_region_held3 (fun w' => w'.cell? ⟨bq, 0, none⟩ = some (.pointer (some ⟨q, 0, none⟩)) ∧ w'.cell? ⟨bb, 0, none⟩ = some (.pointer (some ⟨b, 0, none⟩))) (first | exact ⟨x1, x2⟩ | (with_reducible assumption)) (first
            | (go_at_call 37; (with_reducible refine (got_x HPD.out).mono ?_); rintro _ w10 ⟨rfl, rfl⟩)
            | (go_at_call 27; (with_reducible refine (ack_x HPD.out hcU HES.out gt' hGu N gt' es' HA.out).mono ?_); rintro _ w10 ⟨rfl, hP10⟩; have HP10 := Lib.hid hP10; have y12 := hP10.ptrs; clear hP10))
          go_wp2_with (fail)
          go_roundw
          case rel => exact ⟨j + 1, gt', gl ++ L2, ps', acks ++ [gt'], by omega, by go_num, Lib.hid ⟨said9, EPS9.out, HES'.out ▸ HP10.out⟩, HIV, Lib.hid (by have h5 : G + L.length ≤ gt' := HCM.out.2.2.1 (Nat.le_refl _); rw [← ENL.out, HLM.out] at h5; have := HM.out; omega), by omega, by rw [List.length_append, List.length_singleton]; omega⟩
          case measure => simp [intOf]; omega
      · have hge' : (d : Int) + 1 ≤ (j : Int) := by omega
        have hGn : G = na := by have := HM.out; omega
        have HGN := Lib.hid hGn; clear hGn
        obtain ⟨said, eps, col, vq, vg, vs, vk, dq, dA, dG, hX⟩ := HP.out
        have xq := hX.xq.cell
        have HX7 := Lib.hid hX
        clear eps hX HP
        have HL : Hid ((all.drop G).take 16 = []) := Lib.hid (by rw [HGN.out, ENA.out, List.drop_length]; rfl)
        go_wp2_with (fail)
        refine (batch_x HX7.out HES.out).mono ?_
        rintro r w8 ⟨v8, rfl, ⟨d8, hE8⟩, hX8⟩
        rw [HL.out] at hE8
        obtain ⟨A8, cp8, ev8, f1, f2, hR8⟩ := hE8.form
        replace ev8 : v8 = .slice A8 0 cp8 := ev8
        subst ev8
        obtain ⟨Ag, cg, evg, p1, p2, rg⟩ := hX8.go.form
        obtain ⟨Aa', ca', eva, p3', p4', ra⟩ := hX8.ac.form
        injection eva with ea1 ea2 ea3
        subst ea1 ea3
        subst evg
        have hgl : gl = all := by rw [HI.out.l, HGN.out, ENA.out, List.take_length]
        subst hgl
        have xg := hX8.xg.cell
        rw [← ENA.out] at xg
        have RG := Lib.hid rg
        have RA := Lib.hid ra
        have HB8 := Lib.hid hX8.bel
        clear hE8 hX8 hR8 xq HX7 f1 f2 rg ra ea2 p1 p2 p3' p4'
        go_wp2_with (fail)
        refine (Same24_t _ _ Ag Aa na cg ca _ _ _ w8 ENA.out.symm RG.out RA.out (by omega)).mono ?_
        rintro r w9 ⟨rfl, j9, rfl⟩
        go_wp2_with (fail)
        go_ret
        exact ⟨rfl, below_drewN HB8.out _⟩
end Go.Proofs.Ytgnciejbhaebeaa
