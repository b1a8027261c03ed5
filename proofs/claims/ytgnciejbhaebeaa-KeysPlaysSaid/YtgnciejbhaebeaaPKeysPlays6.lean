/- Parts one behind the other: The walk of the law KeysPlays: it returns true. Conditions: as told at each. -/
import Derived.Test.YtgnciejbhaebeaaPKeysPlays5
import Derived.Deep.CutBlock

/- The walk of the law KeysPlays: it returns true. Conditions: the row's own. -/
namespace Go.Proofs.Ytgnciejbhaebeaa
open Go Go.RowKit

theorem KSF_start {w w1 w2 w3 w4 : World} {q b m c : Nat} (hq : w1.heap[w.heap.size]? = some (.cells #[.int .u64 0, .slice none 0 0] 116 (0, 0))) (h1 : Below w.heap.size w w1) (hi : Ib w2 w1.heap.size 0) (h2 : Below w1.heap.size w1 w2)
    (e3 : w3 = (w2.alloc (Obj.cells #[Value.slice none 0 0, Value.int IntKind.i64 0] 51)).alloc (Obj.cells #[Value.int IntKind.u64 0] 54)) (eq : q = w.heap.size) (eb : b = w1.heap.size) (em : m = w2.heap.size) (ec : c = m + 1) (h4 : Below w3.heap.size w3 w4) :
    KSF (fun _ => False) w q b m c 0 0 0 0 [] [] w4 := by
  subst eq eb em ec
  have s1 := heap_lt hq
  have s2 := hi.lt
  have b3 : Below w2.heap.size w2 w3 := by rw [e3]; exact ((Below.refl _ _).alloc (Nat.le_refl _) _).alloc (by simp) _
  have s3 : w3.heap.size = w2.heap.size + 2 := by rw [e3]; simp
  have r3 : w3.heap[w2.heap.size]? = some (.cells #[.slice none 0 0, .int .i64 0] 51 (0, 0)) := by
    rw [e3, Below.heap_alloc _ _ _ (by simp)]
    exact heap_alloc_new w2 _
  have r4 : w3.heap[w2.heap.size + 1]? = some (.cells #[.int .u64 0] 54 (0, 0)) := by
    have e : w2.heap.size + 1 = (w2.alloc (Obj.cells #[Value.slice none 0 0, Value.int IntKind.i64 0] 51)).heap.size := by simp
    rw [e3, e]
    exact heap_alloc_new _ _
  have b13 : Below w1.heap.size w1 w3 := h2.trans (b3.mono h2.size)
  have z1 := h1.size; have z2 := h2.size
  have qz : Qu (fun _ => False) w4 w.heap.size 0 (.slice none 0 0) [] [] := by
    have : Qu (fun _ => False) w1 w.heap.size 0 (.slice none 0 0) [] [] := ⟨hq, ⟨rfl, World.ownsRow_nil _ _ _ _, fun k e => (by cases e), fun i h => absurd h (by simp)⟩, fun e => e⟩
    exact (this.below b13).below h4
  have rz : RQ (fun _ => False) w4 w2.heap.size 0 (.slice none 0 0) [] [] := by
    have : RQ (fun _ => False) w3 w2.heap.size 0 (.slice none 0 0) [] [] := ⟨r3, ⟨rfl, World.ownsRow_nil _ _ _ _, fun k e => (by cases e), fun i h => absurd h (by simp)⟩, fun e => e⟩
    exact this.below h4
  exact ⟨_, _, _, _, _, _, qz, rz, (hi.below b3).below h4, RI.below (show RI w3 _ 0 from r4) h4, (h1.trans (b13.mono z1)).trans (h4.mono (by omega)), ⟨by omega, by omega, by omega, by omega, by omega, by omega⟩, ⟨by omega, by omega, by omega, by omega⟩,
    fun _ e => e.elim, fun _ e => e.elim, fun _ e => e.elim⟩

set_option maxRecDepth 100000 in
set_option maxHeartbeats 4000000 in
theorem KeysPlays_walk (w : World) (A : Option Addr) (n c : Nat) (ovs : List OpV) (ods : List OpD) (hr : ods.length = n ∧ OpsR (· < w.heap.size) w A ovs ods ∧ n ≤ c ∧ c ≤ maxLen ∧ n ≤ 1466015503658) :
    Calls Try.prog 5 #[.slice A n c] w fun r w' => r = .returned (.bool true) ∧ Below w.heap.size w w' := by
  obtain ⟨hn, hO, -, -, hl⟩ := hr
  have HN := Lib.hid hn; clear hn
  have HO := Lib.hid hO; clear hO
  go_enter Try.func5, Try.ntmps5
  go_wp2_with (fail)
  refine (NewQueue_c w).mono ?_
  rintro r w1 ⟨rfl, hq, hb1, -⟩
  have HQ := Lib.hid hq
  have HB1 := Lib.hid hb1
  obtain ⟨q, eq⟩ : ∃ q, q = w.heap.size := ⟨_, rfl⟩
  rw [← eq]
  have EQ := Lib.hid eq; clear eq hq hb1
  go_wp2_with (fail)
  refine (NewInbox_c w1).mono ?_
  rintro r w2 ⟨rfl, hi, hb2⟩
  have HI := Lib.hid hi
  have HB2 := Lib.hid hb2
  obtain ⟨b, eb⟩ : ∃ b, b = w1.heap.size := ⟨_, rfl⟩
  rw [← eb]
  have EB := Lib.hid eb; clear eb hi hb2
  go_wp2_with (fail)
  obtain ⟨w3, ew3⟩ : ∃ w3, w3 = (w2.alloc (Obj.cells #[Value.slice none 0 0, Value.int IntKind.i64 0] 51)).alloc (Obj.cells #[Value.int IntKind.u64 0] 54) := ⟨_, rfl⟩
  obtain ⟨m, em⟩ : ∃ m, m = w2.heap.size := ⟨_, rfl⟩
  obtain ⟨m2, em2⟩ : ∃ m2, m2 = m + 1 := ⟨_, rfl⟩
  rw [← ew3, ← em, ← em2]
  have EM := Lib.hid em
  have EM2 := Lib.hid em2
  have EW3 := Lib.hid ew3
  clear em em2 ew3
  refine (fixed24_c w3).mono ?_
  rintro r w4 ⟨rfl, hb4⟩
  have HK0 := Lib.hid (KSF_start HQ.out HB1.out HI.out HB2.out EW3.out EQ.out EB.out EM.out EM2.out hb4)
  clear hb4 HQ HB1 HI HB2 EW3 EQ EB EM EM2
  go_wp2_with (fail)
  go_loopw [41] (fun i wr => ∃ (k came got : Nat) (all : List Ev), k ≤ n ∧ i = .int .i64 k ∧ Hid (KSF (fun _ => False) w q b m m2 came came got got (all.drop came) all wr) ∧ came ≤ all.length ∧ all.length ≤ k ∧ got ≤ 16 * k) (fun i _ => n - (intOf i).toNat)
  case atStart => exact ⟨0, 0, 0, [], Nat.zero_le _, rfl, HK0, Nat.le_refl _, Nat.le_refl _, Nat.le_refl _⟩
  case round =>
    clear HK0
    obtain ⟨k, came, got, all, hk, rfl, HK, hc1, hc2, hc3⟩ := hrel
    rcases Nat.lt_or_ge k n with hlt | hge
    · obtain ⟨B, off, ov, od, rfl, hB, -, hop, hcell⟩ := HO.out.at_ k (by rw [HN.out]; exact hlt)
      obtain ⟨k0, e0, m0, A0, n0, cp0, ds0⟩ := ov
      obtain ⟨ek, At, tn, tc, ex, ey, eb⟩ := e0
      have kb := HK.out.bel
      have cell : ∀ j, j < 8 → wr.cell? ⟨B, off + k * 8 + j, none⟩ = (OpV.cells ⟨k0, ⟨ek, At, tn, tc, ex, ey, eb⟩, m0, A0, n0, cp0, ds0⟩)[j]? := fun j hj => (kb.cell (p := ⟨B, _, none⟩) hB).trans (hcell j hj)
      have c0 : wr.cell? ⟨B, off + k * 8, none⟩ = some (.int .i64 k0) := cell 0 (by decide)
      have c1 : wr.cell? ⟨B, off + k * 8 + 1, none⟩ = some (.int .i64 ek) := cell 1 (by decide)
      have c2 : wr.cell? ⟨B, off + k * 8 + 2, none⟩ = some (.slice At tn tc) := cell 2 (by decide)
      have c3 : wr.cell? ⟨B, off + k * 8 + 3, none⟩ = some (.int .i64 ex) := cell 3 (by decide)
      have c4 : wr.cell? ⟨B, off + k * 8 + 4, none⟩ = some (.int .i64 ey) := cell 4 (by decide)
      have c5 : wr.cell? ⟨B, off + k * 8 + 5, none⟩ = some (.int .i64 eb) := cell 5 (by decide)
      have c6 : wr.cell? ⟨B, off + k * 8 + 6, none⟩ = some (.int .u64 (m0 : Int)) := cell 6 (by decide)
      have c7 : wr.cell? ⟨B, off + k * 8 + 7, none⟩ = some (.slice A0 n0 cp0) := cell 7 (by decide)
      clear cell hcell
      obtain ⟨z0, ⟨zk, zt, zx, zy, zb⟩, zm, ol⟩ := od
      obtain rfl : k0 = z0 := hop.1
      obtain rfl : ek = zk := hop.2.1.1
      obtain rfl : ex = zx := hop.2.1.2.1
      obtain rfl : ey = zy := hop.2.1.2.2.1
      obtain rfl : eb = zb := hop.2.1.2.2.2.1
      obtain rfl : m0 = zm := hop.2.2.1
      have HOP := Lib.hid hop; clear hop
      have hlt' : (k : Int) < (n : Int) := by omega
      rcases Nat.lt_or_ge 100 k with h100 | h100
      · have h100' : (100 : Int) < (k : Int) := by omega
        go_wp2_with (fail)
        go_ret
        exact ⟨rfl, HK.out.bel.alloc HK.out.bel.size _⟩
      · have h100' : (k : Int) ≤ 100 := by omega
        obtain ⟨wa, ewa⟩ : ∃ wa, wa = wr.alloc (.cells #[.int .i64 k0, .int .i64 ek, .slice At tn tc, .int .i64 ex, .int .i64 ey, .int .i64 eb, .int .u64 (m0 : Int), .slice A0 n0 cp0] 56) := ⟨_, rfl⟩
        obtain ⟨g, eg⟩ : ∃ g, g = wr.heap.size := ⟨_, rfl⟩
        have RP1 := Lib.hid (RP.start HK.out HOP.out eg ewa)
        have EWA := Lib.hid ewa; clear ewa
        have EG := Lib.hid eg; clear eg
        clear kb hB
        go_wp2_with (fail)
        rw [← EWA.out, ← EG.out]
        clear c0 c1 c2 c3 c4 c5 c6 c7 EWA EG HOP HK
        obtain ⟨l1, l2, l3, l4, l5⟩ := RP1.out.op.2.2.2.2
        refine (great_c _ A0 n0 cp0 ds0 ol wa l1 l2 l3 l4).mono ?_
        rintro r w5 ⟨rfl, j5, e5⟩
        have RP2 := Lib.hid (e5 ▸ RP1.out.drewN j5)
        clear RP1 e5 l1 l2 l3 l4 l5
        obtain ⟨c0, c1, c2, c3, c4, c5, c6, c7⟩ := RP2.out.bx.cells
        obtain ⟨G, eG⟩ : ∃ G, G = greatB ol := ⟨_, rfl⟩
        rw [← eG]
        clear eG
        cases G with
        | true =>
          go_wp2_with (fail)
          go_ret
          exact ⟨rfl, RP2.out.ks.bel⟩
        | false =>
          go_wp2_with (fail)
          obtain ⟨wb, ewb⟩ : ∃ wb, wb = w5.alloc (.cells #[.int .i64 ek, .slice At tn tc, .int .i64 ex, .int .i64 ey, .int .i64 eb] 36) := ⟨_, rfl⟩
          obtain ⟨g1, eg1⟩ : ∃ g1, g1 = w5.heap.size := ⟨_, rfl⟩
          rw [← ewb, ← eg1]
          have rb : wb.heap[g1]? = some (.cells #[.int .i64 ek, .slice At tn tc, .int .i64 ex, .int .i64 ey, .int .i64 eb] 36 (0, 0)) := by rw [ewb, eg1]; exact heap_alloc_new w5 _
          have bb : Below w5.heap.size w5 wb := by rw [ewb]; exact (Below.refl _ _).alloc (Nat.le_refl _) _
          have RP3 := Lib.hid (RP2.out.same bb)
          clear RP2 bb ewb eg1 c0 c1 c2 c3 c4 c5 c6 c7
          have he : EvsR (fun _ => True) wb (some ⟨g1, 0, none⟩) [⟨ek, At, tn, tc, ex, ey, eb⟩] [⟨ek, zt, ex, ey, eb⟩] := EvsR.one rb trivial (RP3.out.op.2.1.weak (fun _ _ _ => trivial))
          refine (great_c _ _ 1 1 _ [⟨ek, zt, ex, ey, eb⟩] wb rfl he (Nat.le_refl _) (by unfold maxLen; decide)).mono ?_
          rintro r w6 ⟨rfl, j6, e6⟩
          have RP4 := Lib.hid (e6 ▸ RP3.out.drewN j6)
          clear RP3 e6 he rb
          obtain ⟨c0, c1, c2, c3, c4, c5, c6, c7⟩ := RP4.out.bx.cells
          obtain ⟨G, eG⟩ : ∃ G, G = greatB [⟨ek, zt, ex, ey, eb⟩] := ⟨_, rfl⟩
          rw [← eG]
          clear eG
          cases G with
          | true =>
            go_wp2_with (fail)
            go_ret
            exact ⟨rfl, RP4.out.ks.bel⟩
          | false =>
            go_upto_block 2 with (fail)

            go_cut [2] (fun s2 wx => ∃ (came' got' : Nat) (all' : List Ev), Hid (KSF (fun _ => False) w q b m m2 came' came' got' got' (all'.drop came') all' wx) ∧ came' ≤ all'.length ∧ all'.length ≤ k + 1 ∧ got' ≤ 16 * (k + 1))
            case first =>
              have hcU : U63 came := by unfold U63; omega
              have hgU : U63 got := by unfold U63; omega
              have hall : all.length ≤ 1000000000 := by omega
              have hes : (all.drop came).length ≤ 1000000000 := by rw [List.length_drop]; omega
              have HALL := Lib.hid hall; clear hall
              have HES := Lib.hid hes; clear hes
              have HC1 := Lib.hid hc1
              by_cases h0 : k0 = 0
              · subst h0
                go_wp2_with (fail)
                obtain ⟨wc, ewc⟩ : ∃ wc, wc = w6.alloc (.cells #[.int .i64 ek, .slice At tn tc, .int .i64 ex, .int .i64 ey, .int .i64 eb] 36) := ⟨_, rfl⟩
                obtain ⟨g2, eg2⟩ : ∃ g2, g2 = w6.heap.size := ⟨_, rfl⟩
                rw [← ewc, ← eg2]
                have rc : wc.heap[g2]? = some (.cells #[.int .i64 ek, .slice At tn tc, .int .i64 ex, .int .i64 ey, .int .i64 eb] 36 (0, 0)) := by rw [ewc, eg2]; exact heap_alloc_new w6 _
                have bc : Below w6.heap.size w6 wc := by rw [ewc]; exact (Below.refl _ _).alloc (Nat.le_refl _) _
                have RP5 := Lib.hid (RP4.out.same bc)
                clear RP4 bc ewc eg2 c0 c1 c2 c3 c4 c5 c6 c7
                have he : EvsR (fun _ => True) wc (some ⟨g2, 0, none⟩) [⟨ek, At, tn, tc, ex, ey, eb⟩] [⟨ek, zt, ex, ey, eb⟩] := EvsR.one rc trivial (RP5.out.op.2.1.weak (fun _ _ _ => trivial))
                refine (Copy24_c _ _ 1 1 _ [⟨ek, zt, ex, ey, eb⟩] wc rfl he (by decide)).mono ?_
                rintro r w7 ⟨v7, ds7, rfl, hE7, hb7⟩
                have hE7' := hE7.weak (ok' := Fresh wc w7) (fun j h1 h2 => ⟨h1, h2⟩)
                have RP7 := Lib.hid (RP5.out.below (G := fun j => j = g ∨ Fresh wc w7 j) hb7 (fun j hj => hj))
                obtain ⟨g7, cp7, A7, n7, cT7, rfl, hg1, hg2, tx7, x0, x1, x2, x3, x4⟩ := hE7'.one
                have E7 := Lib.hid hE7'
                have TX7 := Lib.hid tx7
                clear hE7 hE7' tx7 RP5 he rc hb7
                obtain ⟨N, er, all', hrp⟩ : ∃ N er all', rpushR came all ⟨ek, zt, ex, ey, eb⟩ = (N, er, all') := ⟨_, _, _, rfl⟩
                obtain ⟨hp, p4, p5⟩ := push_all hc1 hrp
                have HP := Lib.hid hp; clear hp
                have HRP := Lib.hid hrp; clear hrp
                have hg1' : (1 : Int) ≤ (cp7 : Int) := by omega
                go_wp2_with (fail)
                refine (push_k RP7.out.ks hcU HES.out _ ek ex ey eb A7 n7 cT7 zt TX7.out.r N er _ HP.out).mono ?_
                rintro r w8 ⟨rfl, hK8, hf8⟩
                have HK8 := Lib.hid hK8
                have BX8 := Lib.hid (RP7.out.bx.kf (F := fun j => j = g ∨ Fresh wc w7 j) (.inl rfl) hf8)
                have E8 := Lib.hid (hf8.evsO E7.out (fun j hj => .inr hj))
                have OP8 := Lib.hid RP7.out.op0
                clear hK8 hf8 RP7 E7 TX7 x0 x1 x2 x3 x4
                obtain ⟨c0, c1, c2, c3, c4, c5, c6, c7⟩ := BX8.out.cells
                go_wp2_with (fail)
                refine (rpush_k HK8.out HC1.out HALL.out _ ek ex ey eb At tn tc zt (OP8.out.below HK8.out.bel).2.1.2.2.2.2 N er _ HRP.out).mono ?_
                rintro r w9 ⟨rfl, hK9, hf9⟩
                have HK9 := Lib.hid hK9
                have E9 := Lib.hid (hf9.evsO E8.out (fun j hj => .inr hj))
                clear hK9 hf9 E8 HK8 BX8 c0 c1 c2 c3 c4 c5 c6 c7
                go_wp2_with (fail)
                refine (Turn24_c _ _ 1 cp7 ds7 [⟨ek, zt, ex, ey, eb⟩] w9 rfl E9.out).mono ?_
                rintro r w10 ⟨rfl, hK10⟩
                have HK10 := Lib.hid ((HK9.out.weak (G := Fresh wc w7) (fun j hj => .inr hj)).keeps hK10)
                clear HK9 E9 hK10
                have nN : ((N : Int) != (N : Int)) = false := by simp
                have nE : ((er : Int) != (er : Int)) = false := by simp
                go_wp2_with (fail)
                go_meet
                exact ⟨came, got, all', Lib.hid (HK10.out.weak (fun j hj => hj.elim)), p4, by omega, by omega⟩
              · have k0f : (k0 == 0) = false := by rw [beq_eq_false_iff_ne]; exact h0
                clear h0
                by_cases h1 : k0 = 1
                · subst h1
                  obtain ⟨N, gt, hra⟩ : ∃ N gt, rackR came all m0 = (N, gt) := ⟨_, _, rfl⟩
                  obtain ⟨hp, p4⟩ := ack_all hc1 hra
                  have HP := Lib.hid hp; clear hp
                  have HRA := Lib.hid hra; clear hra
                  have hm0 : Hid (U64 m0) := Lib.hid RP4.out.op0.2.2.2.1
                  have RP5 : Hid (RP (fun j => j = g) w q b m m2 came got (all.drop came) all ⟨1, ⟨ek, At, tn, tc, ex, ey, eb⟩, m0, A0, n0, cp0, ds0⟩ ⟨1, ⟨ek, zt, ex, ey, eb⟩, m0, ol⟩ g w6.drew) := Lib.hid (RP4.out.drewN 1)
                  go_upto_region 18 with (fail)
                  go_region_held3 (fun w' => w'.cell? ⟨g, 6, none⟩ = some (.int .u64 (m0 : Int))) (first | exact c6 | (with_reducible assumption)) (first
                    | (go_at_call 27; (with_reducible refine (ack_k RP5.out.ks hcU HES.out m0 hm0.out N gt _ HP.out).mono ?_); rintro _ w7 ⟨rfl, hK7, hf7⟩; have HK7 := Lib.hid hK7; have b7 := Lib.hid (RP5.out.bx.kf (F := fun j => j = g) rfl hf7); obtain ⟨_, _, _, _, _, _, d6, _⟩ := b7.out.cells; clear hK7 hf7)
                    | (go_at_call 31; (with_reducible refine (rack_k HK7.out HC1.out HALL.out m0 hm0.out N gt HRA.out).mono ?_); rintro _ w8 ⟨rfl, hK8, hf8⟩; have HK8 := Lib.hid hK8; have b8 := Lib.hid (b7.out.kf (F := fun j => j = g) rfl hf8); obtain ⟨_, _, _, _, _, _, e6, _⟩ := b8.out.cells; clear hK8 hf8))
                  have nN : ((N : Int) != (N : Int)) = false := by simp
                  go_wp2_with (fail)
                  go_meet
                  exact ⟨gt, got, all, Lib.hid (HK8.out.weak (fun j hj => hj.elim)), p4, by omega, by omega⟩
                · have k1f : (k0 == 1) = false := by rw [beq_eq_false_iff_ne]; exact h1
                  clear h1
                  by_cases h2 : k0 = 2
                  · subst h2
                    obtain ⟨l1, l2, l3, l4, l5⟩ := RP4.out.op.2.2.2.2
                    simp only at l1 l2 l3 l4 l5
                    have hm0 : Hid (U64 m0) := Lib.hid RP4.out.op0.2.2.2.1
                    have L1 := Lib.hid l1
                    go_wp2_with (fail)
                    refine (Copy24_c _ A0 n0 cp0 ds0 ol w6 l1 l2 (by omega)).mono ?_
                    rintro r w7 ⟨v7, ds7, rfl, hE7, hb7⟩
                    clear l1 l2
                    have hE7' := hE7.weak (ok' := Fresh w6 w7) (fun j h1 h2 => ⟨h1, h2⟩)
                    obtain ⟨A7, cp7, ev7, f1, f2, hR7⟩ := hE7'.form
                    rw [L1.out] at ev7 f1
                    subst ev7
                    have RP7 := Lib.hid (RP4.out.below (G := fun j => j = g ∨ Fresh w6 w7 j) hb7 (fun j hj => hj))
                    have E7 := Lib.hid hE7'
                    have R7 := Lib.hid hR7
                    clear hE7 hE7' hR7 hb7 RP4 c0 c1 c2 c3 c4 c5 c6 c7
                    obtain ⟨c0, c1, c2, c3, c4, c5, c6, c7⟩ := RP7.out.bx.cells
                    obtain ⟨L, er, gt, hT⟩ : ∃ L er gt, takeR got m0 ol = (L, er, gt) := ⟨_, _, _, rfl⟩
                    have hLl := take_len got m0 ol
                    have hgg := take_grows got m0 ol
                    rw [hT] at hLl hgg
                    have HT := Lib.hid hT; clear hT
                    obtain ⟨nl, enl⟩ : ∃ nl, nl = L.length := ⟨_, rfl⟩
                    have ENL := Lib.hid enl
                    have hnl : nl ≤ 16 := by rw [enl]; exact hLl
                    have hgt : gt ≤ got + 16 := hgg
                    clear hLl hgg enl
                    go_wp2_with (fail)
                    have tk := take_k RP7.out.ks (Fresh w6 w7) hgU m0 hm0.out A7 n0 cp7 ds7 ol L1.out R7.out f1 f2 (by omega)
                    rw [HT.out] at tk
                    refine tk.mono ?_
                    clear tk
                    rintro r w8 ⟨v8, rfl, ⟨ds8, hE8⟩, hK8, hf8⟩
                    replace hE8 : EvsO (w7.heap.size ≤ ·) w8 v8 ds8 L := hE8
                    have hE8' := hE8.weak (ok' := Fresh w7 w8) (fun j h1 h2 => ⟨h1, h2⟩)
                    obtain ⟨A8, cp8, ev8, f3, f4, hR8⟩ := hE8'.form
                    rw [← ENL.out] at ev8 f3
                    subst ev8
                    replace hK8 : KSF (fun j => (j = g ∨ Fresh w6 w7 j) ∨ Fresh w7 w8 j) w q b m m2 came came gt got (all.drop came) all w8 := hK8
                    have HK8 := Lib.hid hK8
                    have BX8 := Lib.hid (RP7.out.bx.kf (F := fun j => j = g ∨ Fresh w6 w7 j) (.inl rfl) hf8)
                    have OP8 := Lib.hid RP7.out.op0
                    have E7b := Lib.hid (hf8.evsO E7.out (fun j hj => .inr hj))
                    have E8 := Lib.hid hE8'
                    have R8 := Lib.hid hR8
                    clear hE8 hE8' hR8 hK8 hf8 RP7 E7 R7 c0 c1 c2 c3 c4 c5 c6 c7
                    obtain ⟨c0, c1, c2, c3, c4, c5, c6, c7⟩ := BX8.out.cells
                    go_wp2_with (fail)
                    have hlm : ¬ m2 < w.heap.size := by
                      obtain ⟨own1, own2, v1, v2, d1, d2, h⟩ := HK8.out
                      have := h.ge.2.2.2
                      omega
                    have rtk := rtake_k HK8.out (· < w.heap.size) hgU m0 hm0.out hlm A0 n0 cp0 ds0 ol L1.out (OP8.out.below HK8.out.bel).2.2.2.2.2.1 l3 l4 (by omega)
                    rw [HT.out] at rtk
                    refine rtk.mono ?_
                    clear rtk hlm
                    rintro r w9 ⟨v9, rfl, hE9, hK9, hf9⟩
                    obtain ⟨A9, cp9, ds9, ev9, hR9, -, -⟩ := hE9
                    replace ev9 : v9 = .slice A9 L.length cp9 := ev9
                    rw [← ENL.out] at ev9
                    subst ev9
                    replace hR9 : EvsR _ w9 A9 ds9 L := hR9
                    replace hK9 : KSF (fun j => (j = g ∨ Fresh w6 w7 j) ∨ Fresh w7 w8 j) w q b m m2 came came gt gt (all.drop came) all w9 := hK9
                    have HK9 := Lib.hid hK9
                    have BX9 := Lib.hid (BX8.out.kf (F := fun j => (j = g ∨ Fresh w6 w7 j) ∨ Fresh w7 w8 j) (.inl (.inl rfl)) hf9)
                    have E7c := Lib.hid (hf9.evsO E7b.out (fun j hj => .inl (.inr hj)))
                    have E8b := Lib.hid (hf9.evsO E8.out (fun j hj => .inr hj))
                    have R9 := Lib.hid hR9
                    clear hK9 hf9 hR9 HK8 BX8 E7b E8 R8 c0 c1 c2 c3 c4 c5 c6 c7
                    obtain ⟨c0, c1, c2, c3, c4, c5, c6, c7⟩ := BX9.out.cells
                    have nE : ((er : Int) != (er : Int)) = false := by simp
                    have hn0 : n0 ≤ 140737488355328 := by omega
                    go_wp2_with (fail)
                    refine (Same24_t _ _ A8 A9 nl cp8 cp9 ds8 ds9 L w9 ENL.out.symm (E8b.out.rd ENL.out) R9.out (by omega)).mono ?_
                    rintro r w10 ⟨rfl, j10, e10⟩
                    have HK10 := Lib.hid (e10 ▸ HK9.out.drewN j10)
                    have BX10 := Lib.hid (BX9.out.below (w' := w10) (by rw [e10]; exact below_drewN (Below.refl _ _) j10))
                    have E7d := Lib.hid (E7c.out.frame (w' := w10) (fun _ _ _ => by rw [e10]; rfl))
                    have E8c := Lib.hid (E8b.out.frame (w' := w10) (fun _ _ _ => by rw [e10]; rfl))
                    clear HK9 BX9 E7c E8b R9 e10 c0 c1 c2 c3 c4 c5 c6 c7
                    obtain ⟨c0, c1, c2, c3, c4, c5, c6, c7⟩ := BX10.out.cells
                    go_wp2_with (fail)
                    refine (Same24_t _ _ A7 A0 n0 cp7 cp0 ds7 ds0 ol w10 L1.out (E7d.out.rd L1.out.symm) (OP8.out.below HK10.out.bel).2.2.2.2.2.1 hn0).mono ?_
                    rintro r w11 ⟨rfl, j11, e11⟩
                    have HK11 := Lib.hid (e11 ▸ HK10.out.drewN j11)
                    have E8d := Lib.hid (E8c.out.frame (w' := w11) (fun _ _ _ => by rw [e11]; rfl))
                    clear HK10 BX10 E7d E8c e11 c0 c1 c2 c3 c4 c5 c6 c7
                    go_wp2_with (fail)
                    refine (Turn24_c _ A8 nl cp8 ds8 L w11 ENL.out.symm E8d.out).mono ?_
                    rintro r w12 ⟨rfl, hK12⟩
                    have HK12 := Lib.hid ((HK11.out.weak (G := Fresh w7 w8) (fun j hj => .inr hj)).keeps hK12)
                    clear HK11 E8d hK12
                    go_wp2_with (fail)
                    go_meet
                    exact ⟨came, gt, all, Lib.hid (HK12.out.weak (fun j hj => hj.elim)), HC1.out, by omega, by omega⟩
                  · have k2f : (k0 == 2) = false := by rw [beq_eq_false_iff_ne]; exact h2
                    clear h2
                    go_wp2_with (fail)
                    go_meet
                    exact ⟨came, got, all, Lib.hid (RP4.out.ks.weak (fun j hj => hj.elim)), hc1, by omega, by omega⟩
            case rest =>
              obtain ⟨came', got', all', HK, h1, h2, h3⟩ := hcut
              clear RP4 c0 c1 c2 c3 c4 c5 c6 c7 hc1 hc2 hc3
              have hcU : U63 came' := by unfold U63; omega
              have hall : all'.length ≤ 1000000000 := by omega
              have hes : (all'.drop came').length ≤ 1000000000 := by rw [List.length_drop]; omega
              have hN : came' + (all'.drop came').length = all'.length := by rw [List.length_drop]; omega
              have hT : ((all'.drop came').take 16).length ≤ 16 := List.length_take_le _ _
              have HALL := Lib.hid hall; clear hall
              have HES := Lib.hid hes; clear hes
              have H1 := Lib.hid h1
              have HN2 := Lib.hid hN; clear hN
              obtain ⟨L, eL⟩ : ∃ L, L = (all'.drop came').take 16 := ⟨_, rfl⟩
              have EL := Lib.hid eL
              rw [← eL] at hT
              clear eL
              go_wp2_with (fail)
              refine (batch_k HK.out HES.out).mono ?_
              rintro r w7 ⟨v7, rfl, hE7, hK7, -⟩
              rw [← EL.out] at hE7
              obtain ⟨ds7, hE7⟩ := hE7
              have E7 := Lib.hid hE7
              have HK7 := Lib.hid hK7
              obtain ⟨A7, cp7, ev7, f1, f2, hR7⟩ := hE7.form
              obtain ⟨nl, enl⟩ : ∃ nl, nl = L.length := ⟨_, rfl⟩
              rw [← enl] at ev7 hT
              have ENL := Lib.hid enl
              subst ev7
              clear hE7 hK7 f1 f2 hR7 enl HK
              go_wp2_with (fail)
              refine (rbatch_k HK7.out H1.out HALL.out).mono ?_
              rintro r w8 ⟨v8, rfl, hE8, j8, e8⟩
              rw [← EL.out] at hE8
              obtain ⟨A8, cp8, ds8, ev8, hR8, -, -⟩ := hE8
              rw [← ENL.out] at ev8
              subst ev8
              have HK8 := Lib.hid (e8 ▸ HK7.out.drewN j8)
              have E8 := Lib.hid (E7.out.frame (w' := w8) (fun k _ _ => by rw [e8]; rfl))
              have R8 := Lib.hid hR8
              clear E7 HK7 e8 hR8
              obtain ⟨⟨A3, c3, d3⟩, d4⟩ := HK8.out.cells
              have nN : ((came' : Int) != (came' : Int)) = false := by simp
              have nA : ((all'.length : Int) != (all'.length : Int)) = false := by simp
              have nG : ((got' : Int) != (got' : Int)) = false := by simp
              have wA := u64_wrapN (n := all'.length) (by unfold U64; have := HALL.out; omega)
              have Q1 : Hid (∀ j, Calls Try.prog 24 #[.slice A7 nl cp7, .slice A8 nl cp8] (w8.drewN j) fun e w'' => e = .returned (.bool true) ∧ ∃ q, w'' = w8.drewN q) :=
                Lib.hid fun j => Calls.quiet_of (Same24_t _ _ A7 A8 nl cp7 cp8 ds7 ds8 L _ ENL.out.symm ((E8.out.frame (w' := w8.drewN j) (fun _ _ _ => rfl)).rd ENL.out) (R8.out.drewN j) (by omega))
              have Q2 : Hid (∀ j, Calls Try.prog 36 #[.pointer (some ⟨q, 0, none⟩)] (w8.drewN j) fun e w'' => e = .returned (.int .u64 (all'.length : Int)) ∧ ∃ q, w'' = w8.drewN q) :=
                Lib.hid fun j => Calls.quiet_of (accepted_k (HK8.out.drewN j) hcU HES.out _ HN2.out)
              have Q3 : Hid (∀ j, Calls Try.prog 37 #[.pointer (some ⟨b, 0, none⟩)] (w8.drewN j) fun e w'' => e = .returned (.int .u64 (got' : Int)) ∧ ∃ q, w'' = w8.drewN q) :=
                Lib.hid fun j => Calls.quiet_of_same ((got_k (HK8.out.drewN j)).mono fun _ _ ⟨he, hw⟩ => ⟨he, hw.symm⟩)
              go_upto_region 29 with (fail)
              go_quiet (first
                | (go_at_call 24; exact Q1.out _)
                | (go_at_call 36; exact Q2.out _)
                | (go_at_call 37; exact Q3.out _))
              obtain ⟨w9, ew9⟩ : ∃ w9, w9 = w8.drewN nq := ⟨_, rfl⟩
              have HK9 := Lib.hid (ew9 ▸ HK8.out.drewN nq)
              have E9 := Lib.hid (E8.out.frame (w' := w9) (fun _ _ _ => by rw [ew9]; rfl))
              rw [← ew9]
              clear ew9 HK8 E8 R8 d3 d4 Q1 Q2 Q3 nN nA nG wA
              go_wp2_with (fail)
              refine (Turn24_c _ A7 nl cp7 ds7 L w9 ENL.out.symm E9.out).mono ?_
              rintro r w10 ⟨rfl, hK10⟩
              have HK10 := Lib.hid (HK9.out.keeps hK10)
              clear HK9 E9 hK10
              go_wp2_with (fail)
              go_roundw
              case rel => exact ⟨k + 1, came', got', all', by omega, by go_num, Lib.hid (HK10.out.weak (fun j hj => hj.elim)), H1.out, h2, h3⟩
              case measure => simp [intOf]; omega
    · have hge' : (n : Int) ≤ (k : Int) := by omega
      go_wp2_with (fail)
      go_ret
      exact ⟨rfl, HK.out.bel⟩
end Go.Proofs.Ytgnciejbhaebeaa
