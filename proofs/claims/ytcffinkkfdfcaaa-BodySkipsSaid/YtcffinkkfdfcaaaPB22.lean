/- Parts one behind the other: What the reference's May of a choice answers; What PutSelect lays; The plain law of items: what is laid is read as it was; what is read is laid as it stood there; What is put as a Hello, a Select, a Confirm is got as it was: plain data. Conditions: as told at each. -/
import Derived.Test.YtcffinkkfdfcaaaPB17
import Derived.Test.YtcffinkkfdfcaaaPB1
import Derived.Test.YtcffinkkfdfcaaaPB18
import Derived.Test.YtcffinkkfdfcaaaPB10
import Derived.Test.YtcffinkkfdfcaaaPB4
import Derived.Test.YtcffinkkfdfcaaaPB7

set_option linter.unusedVariables false
set_option linter.unusedSimpArgs false
/- What the reference's May of a choice answers. Conditions: none. -/
namespace Go.Proofs.Ytcffinkkfdfcaaa
open Go Go.RowKit

theorem shr_bit (f q : Nat) : (((f : Int) / 2 ^ q).tmod 2 == 1) = f.testBit q := by
  rw [Nat.testBit_eq_decide_div_mod_eq]
  obtain ⟨x, hx⟩ : ∃ x : Nat, x = f / 2 ^ q := ⟨_, rfl⟩
  have e1 : (f : Int) / 2 ^ q = (x : Int) := by rw [hx]; simp
  rw [e1, ← hx, Int.tmod_eq_emod_of_nonneg (Int.natCast_nonneg x)]
  rw [Bool.eq_iff_iff, beq_iff_eq, decide_eq_true_iff]
  omega
set_option maxRecDepth 100000 in
set_option maxHeartbeats 4000000 in
theorem refMay14_c (v : Int) (f : Nat) (hf : f < 4294967296) (w : World) : Calls Try.prog 46 #[.agg #[.int .i64 v, .int .u32 (f : Int)]] w fun r w' => r = .returned (.bool (mayF v f)) ∧ Below w.heap.size w w' := by
  have kb : Below w.heap.size w (w.alloc (.cells #[.int .i64 v, .int .u32 (f : Int)] 46)) := (Below.refl _ _).alloc (Nat.le_refl _) _
  rcases Int.lt_or_le v 1 with h1 | h1
  · have e : mayF v f = false := decide_eq_false (by unfold mayPF; omega)
    rw [e]
    have d1 : decide (v < (1 : Int)) = true := decide_eq_true h1
    clear e h1
    go_enter Try.func46, Try.ntmps46
    go_wp2_with (fail)
    go_ret
    exact ⟨rfl, kb⟩
  rcases Int.lt_or_le 3 v with h3 | h3
  · have e : mayF v f = false := decide_eq_false (by unfold mayPF; omega)
    rw [e]
    have d1 : decide (v < (1 : Int)) = false := decide_eq_false (by omega)
    have d3 : decide ((3 : Int) < v) = true := decide_eq_true (by omega)
    clear e h1 h3
    go_enter Try.func46, Try.ntmps46
    go_wp2_with (fail)
    go_ret
    exact ⟨rfl, kb⟩
  obtain ⟨T, eT⟩ : ∃ T, mayF v f = T := ⟨_, rfl⟩
  rw [eT]
  have HB : Hid (T = true ↔ ∀ i, i < 32 → badBit v f i = false) := Lib.hid (by rw [← eT]; exact mayF_bits v f h1 h3)
  have d1 : decide (v < (1 : Int)) = false := decide_eq_false (by omega)
  have d3 : decide ((3 : Int) < v) = false := decide_eq_false (by omega)
  have KB := Lib.hid kb
  clear eT kb
  obtain ⟨W0, eW⟩ : ∃ W0, W0 = w.alloc (.cells #[.int .i64 v, .int .u32 (f : Int)] 46) := ⟨_, rfl⟩
  have c0 : W0.cell? ⟨w.heap.size, 0, none⟩ = some (.int .i64 v) := by rw [eW]; exact (heap_cell (heap_alloc_new w _) 0).trans rfl
  have c1 : W0.cell? ⟨w.heap.size, 1, none⟩ = some (.int .u32 (f : Int)) := by rw [eW]; exact (heap_cell (heap_alloc_new w _) 1).trans rfl
  have EW := Lib.hid eW
  clear eW
  go_enter Try.func46, Try.ntmps46
  go_wp2_with (fail)
  rw [← EW.out]
  clear d1 d3
  go_loopw [3] (fun i wr => ∃ q n : Nat, q ≤ 32 ∧ i = .int .i64 q ∧ Hid (∀ j, j < q → badBit v f j = false) ∧ wr = W0.drewN n) (fun i _ => 32 - (intOf i).toNat)
  case atStart => exact ⟨0, 0, by omega, rfl, Lib.hid (fun j hj => absurd hj (by omega)), rfl⟩
  case round =>
    obtain ⟨q, n, hq, rfl, HQ, hwr⟩ := hrel
    have k0 : wr.cell? ⟨w.heap.size, 0, none⟩ = some (.int .i64 v) := by rw [hwr]; exact c0
    have k1 : wr.cell? ⟨w.heap.size, 1, none⟩ = some (.int .u32 (f : Int)) := by rw [hwr]; exact c1
    have HW := Lib.hid hwr
    clear hwr
    by_cases hlt : q < 32
    · have hlt' : (q : Int) < 32 := by omega
      obtain ⟨s, es⟩ : ∃ s, sinceB q = s := ⟨_, rfl⟩
      have HS : Hid (∀ w : World, Calls Try.prog 68 #[.int .i64 (q : Int)] w fun r w' => r = .returned (.int .i64 (s : Int)) ∧ w' = w) := Lib.hid (fun w => by rw [← es]; exact since_c q w)
      have ES := Lib.hid es
      have hb := shr_bit f q
      clear es
      obtain ⟨B, eB⟩ : ∃ B, f.testBit q = B := ⟨_, rfl⟩
      rw [eB] at hb
      have EB := Lib.hid eB
      have HBB := Lib.hid hb
      clear eB hb
      go_upto_region 6 with (fail)
      refine wp_region_quiet_lit (by kernel_rfl) (by kernel_rfl) ?_
      iterate 7 (first | go_big_quiet_step (fail) | quiet_step (fail))
      rw [HBB.out]
      cases B with
      | false =>
        have HQ2 : Hid (∀ j, j < q + 1 → badBit v f j = false) := Lib.hid (fun j hj => by
          rcases Nat.lt_or_ge j q with h | h
          · exact HQ.out j h
          · obtain rfl : j = q := by omega
            unfold badBit; rw [EB.out]; rfl)
        repeat (any_goals (first | go_big_quiet_step (fail) | quiet_step (fail)))
        refine wpQuiet_nil ?_; intro _ hw'; obtain ⟨nq, hw''⟩ := hw'; subst hw''
        go_wp2_with (fail)
        go_roundw
        case rel => exact ⟨q + 1, n + nq, by omega, by go_num, HQ2, by rw [HW.out, World.drewN_drewN]⟩
        case measure => simp [intOf]; omega
      | true =>
        by_cases s0 : s = 0
        · have e0 : ((s : Int) == 0) = true := by rw [s0]; rfl
          have HTT : Hid (T = false) := Lib.hid (by
            cases T with
            | false => rfl
            | true =>
              exfalso
              have := HB.out.1 rfl q hlt
              unfold badBit at this
              rw [EB.out, ES.out, decide_eq_true s0] at this; cases this)
          clear s0
          repeat (any_goals (first | go_big_quiet_step ((go_at_call 68; exact Calls.quiet_of_same (HS.out _))) | quiet_step ((go_at_call 68; exact Calls.quiet_of_same (HS.out _)))))
          refine wpQuiet_nil ?_; intro _ hw'; obtain ⟨nq, hw''⟩ := hw'; subst hw''
          go_wp2_with (fail)
          go_ret
          rw [HTT.out]
          exact ⟨rfl, by first | (rw [HW.out]; exact below_drewN (below_drewN (by rw [EW.out]; exact KB.out) _) _) | (rw [HW.out]; exact below_drewN (by rw [EW.out]; exact KB.out) _)⟩
        · have e0 : ((s : Int) == 0) = false := by rw [beq_eq_false_iff_ne]; omega
          by_cases s1 : v < (s : Int)
          · have e1 : decide (v < (s : Int)) = true := decide_eq_true s1
            have HTT : Hid (T = false) := Lib.hid (by
              cases T with
              | false => rfl
              | true =>
                exfalso
                have := HB.out.1 rfl q hlt
                unfold badBit at this
                rw [EB.out, ES.out, decide_eq_true s1] at this; simp at this)
            clear s0 s1
            repeat (any_goals (first | go_big_quiet_step ((go_at_call 68; exact Calls.quiet_of_same (HS.out _))) | quiet_step ((go_at_call 68; exact Calls.quiet_of_same (HS.out _)))))
            refine wpQuiet_nil ?_; intro _ hw'; obtain ⟨nq, hw''⟩ := hw'; subst hw''
            go_wp2_with (fail)
            go_ret
            rw [HTT.out]
            exact ⟨rfl, by first | (rw [HW.out]; exact below_drewN (below_drewN (by rw [EW.out]; exact KB.out) _) _) | (rw [HW.out]; exact below_drewN (by rw [EW.out]; exact KB.out) _)⟩
          · have e1 : decide (v < (s : Int)) = false := decide_eq_false s1
            have HQ2 : Hid (∀ j, j < q + 1 → badBit v f j = false) := Lib.hid (fun j hj => by
              rcases Nat.lt_or_ge j q with h | h
              · exact HQ.out j h
              · obtain rfl : j = q := by omega
                unfold badBit; rw [EB.out, ES.out, decide_eq_false s0, decide_eq_false s1]; rfl)
            clear s0 s1
            repeat (any_goals (first | go_big_quiet_step ((go_at_call 68; exact Calls.quiet_of_same (HS.out _))) | quiet_step ((go_at_call 68; exact Calls.quiet_of_same (HS.out _)))))
            refine wpQuiet_nil ?_; intro _ hw'; obtain ⟨nq, hw''⟩ := hw'; subst hw''
            go_wp2_with (fail)
            go_roundw
            case rel => exact ⟨q + 1, n + nq, by omega, by go_num, HQ2, by rw [HW.out, World.drewN_drewN]⟩
            case measure => simp [intOf]; omega
    · obtain rfl : q = 32 := by omega
      have hT : T = true := HB.out.2 HQ.out
      have HTT := Lib.hid hT
      clear hT
      go_wp2_with (fail)
      go_ret
      rw [HTT.out]
      exact ⟨rfl, by first | (rw [HW.out]; exact below_drewN (below_drewN (by rw [EW.out]; exact KB.out) _) _) | (rw [HW.out]; exact below_drewN (by rw [EW.out]; exact KB.out) _)⟩
end Go.Proofs.Ytcffinkkfdfcaaa

/- What PutSelect lays. Conditions: features of their kind; arrays of sixteen and of thirty-two bytes. -/
namespace Go.Proofs.Ytcffinkkfdfcaaa
open Go Go.RowKit

def selI (v : Int) (f1 : Nat) (mx : Int) (f2 : Nat) (l1 l2 : List UInt8) : Array Value := (.int .i64 v :: .int .u32 (f1 : Int) :: .int .i64 mx :: .int .u32 (f2 : Int) :: (l1.map bv ++ l2.map bv)).toArray
def selL (v : Int) (f1 : Nat) (mx : Int) (f2 : Nat) (l1 l2 : List UInt8) : List (List UInt8) := [numL v.toNat 1, numL f1 4, numL mx.toNat 1, numL f2 4, l1, l2]
def putS (v : Int) (f1 : Nat) (mx : Int) (f2 : Nat) (l1 l2 : List UInt8) : Int × List UInt8 := if (mayF v f1 && offI mx) = true then (0, encF (crF 0 (selL v f1 mx f2 l1 l2))) else (1, [])
theorem mayF_in {v : Int} {f : Nat} (h : mayF v f = true) : 1 ≤ v ∧ v ≤ 3 := ⟨(of_decide_eq_true h).1, (of_decide_eq_true h).2.1⟩
theorem selI_rd1 {w : World} {g f1 f2 : Nat} {v mx : Int} {l1 l2 : List UInt8} {t : TypeId} (h : w.heap[g]? = some (.cells (selI v f1 mx f2 l1 l2) t (0, 0))) : Rd w (some ⟨g, 4, none⟩) (l1.map bv) := by
  refine .inr ⟨g, 4, rfl, heap_lt h, fun k hk => ?_⟩
  rw [heap_cell h, selI, List.getElem?_toArray, show 4 + k = k + 1 + 1 + 1 + 1 by omega, List.getElem?_cons_succ, List.getElem?_cons_succ, List.getElem?_cons_succ, List.getElem?_cons_succ, List.getElem?_append_left hk, List.getElem?_eq_getElem hk]
theorem selI_rd2 {w : World} {g f1 f2 : Nat} {v mx : Int} {l1 l2 : List UInt8} {t : TypeId} (hl : l1.length = 16) (h : w.heap[g]? = some (.cells (selI v f1 mx f2 l1 l2) t (0, 0))) : Rd w (some ⟨g, 20, none⟩) (l2.map bv) := by
  refine .inr ⟨g, 20, rfl, heap_lt h, fun k hk => ?_⟩
  rw [heap_cell h, selI, List.getElem?_toArray, show 20 + k = (k + 16) + 1 + 1 + 1 + 1 by omega, List.getElem?_cons_succ, List.getElem?_cons_succ, List.getElem?_cons_succ, List.getElem?_cons_succ, List.getElem?_append_right (by rw [List.length_map]; omega), List.length_map, hl, show k + 16 - 16 = k by omega, List.getElem?_eq_getElem hk]
theorem rds6 (w : World) {A0 A1 A2 A3 A4 A5 : Option Addr} {n0 n1 n2 n3 n4 n5 c0 c1 c2 c3 c4 c5 : Nat} {b0 b1 b2 b3 b4 b5 : List UInt8} (h0 : b0.length = n0 ∧ Rd w A0 (b0.map bv) ∧ n0 ≤ c0 ∧ c0 ≤ maxLen) (h1 : b1.length = n1 ∧ Rd w A1 (b1.map bv) ∧ n1 ≤ c1 ∧ c1 ≤ maxLen) (h2 : b2.length = n2 ∧ Rd w A2 (b2.map bv) ∧ n2 ≤ c2 ∧ c2 ≤ maxLen) (h3 : b3.length = n3 ∧ Rd w A3 (b3.map bv) ∧ n3 ≤ c3 ∧ c3 ≤ maxLen) (h4 : b4.length = n4 ∧ Rd w A4 (b4.map bv) ∧ n4 ≤ c4 ∧ c4 ≤ maxLen) (h5 : b5.length = n5 ∧ Rd w A5 (b5.map bv) ∧ n5 ≤ c5 ∧ c5 ≤ maxLen) :
    RdS (w.alloc (.cells #[.slice A0 n0 c0, .slice A1 n1 c1, .slice A2 n2 c2, .slice A3 n3 c3, .slice A4 n4 c4, .slice A5 n5 c5] 25)) (some ⟨w.heap.size, 0, none⟩) [b0, b1, b2, b3, b4, b5] :=
  RdS_lit w [(A0, n0, c0), (A1, n1, c1), (A2, n2, c2), (A3, n3, c3), (A4, n4, c4), (A5, n5, c5)] [b0, b1, b2, b3, b4, b5] _ rfl (fun x hx => by
    simp at hx
    rcases hx with rfl | rfl | rfl | rfl | rfl | rfl
    · exact h0
    · exact h1
    · exact h2
    · exact h3
    · exact h4
    · exact h5)
set_option maxRecDepth 100000 in
set_option maxHeartbeats 4000000 in
theorem PutSelect_c (v : Int) (f1 : Nat) (mx : Int) (f2 : Nat) (l1 l2 : List UInt8) (hf1 : f1 < 4294967296) (hf2 : f2 < 4294967296) (h1 : l1.length = 16) (h2 : l2.length = 32) (w : World) :
    Calls Try.prog 17 #[.agg (selI v f1 mx f2 l1 l2)] w fun r w' => ∃ x, r = .returned (.tuple #[x, .int .i64 (putS v f1 mx f2 l1 l2).1]) ∧ OwnB w' w.heap.size x (putS v f1 mx f2 l1 l2).2 ∧ Below w.heap.size w w' := by
  obtain ⟨w1, ew1⟩ : ∃ w1, w1 = w.alloc (.cells (selI v f1 mx f2 l1 l2) 49) := ⟨_, rfl⟩
  obtain ⟨gb, egb⟩ : ∃ gb, gb = w.heap.size := ⟨_, rfl⟩
  have b1 : Below w.heap.size w w1 := by rw [ew1]; exact (Below.refl _ _).alloc (Nat.le_refl _) _
  have HH1 : Hid (w1.heap[gb]? = some (.cells (selI v f1 mx f2 l1 l2) 49 (0, 0))) := Lib.hid (by rw [ew1, egb]; exact heap_alloc_new w _)
  have x0 : w1.cell? ⟨gb, 0, none⟩ = some (.int .i64 v) := (heap_cell HH1.out 0).trans rfl
  have x1 : w1.cell? ⟨gb, 1, none⟩ = some (.int .u32 (f1 : Int)) := (heap_cell HH1.out 1).trans rfl
  have HB1 := Lib.hid b1
  have HL1 := Lib.hid h1
  have HL2 := Lib.hid h2
  have HF1 := Lib.hid hf1
  have HF2 := Lib.hid hf2
  have EW1 := Lib.hid ew1
  have EGB := Lib.hid egb
  obtain ⟨E, eE⟩ : ∃ E, (putS v f1 mx f2 l1 l2).1 = E := ⟨_, rfl⟩
  obtain ⟨L, eL⟩ : ∃ L, (putS v f1 mx f2 l1 l2).2 = L := ⟨_, rfl⟩
  rw [eE, eL]
  have HE := Lib.hid eE
  have HLL := Lib.hid eL
  clear ew1 egb b1 h1 h2 hf1 hf2 eE eL
  go_enter Try.func17, Try.ntmps17
  go_upto_region 1 with (fail)
  rw [← EW1.out, ← EGB.out]
  go_wp2_with (fail)
  refine (featMay_c v f1 HF1.out w1).mono ?_
  rintro _ w2 ⟨rfl, hb2⟩
  obtain ⟨O1, eO1⟩ : ∃ O, mayF v f1 = O := ⟨_, rfl⟩
  rw [eO1]
  have HO1 := Lib.hid eO1
  have HB2 := Lib.hid (HB1.out.trans (hb2.mono HB1.out.size))
  have HH2 := Lib.hid ((hb2.block gb (heap_lt HH1.out)).trans HH1.out)
  clear hb2 eO1 x0 x1
  cases O1 with
  | false =>
    have hE : E = 1 := by rw [← HE.out]; unfold putS; rw [HO1.out]; rfl
    have hL : L = [] := by rw [← HLL.out]; unfold putS; rw [HO1.out]; rfl
    have EE := Lib.hid hE
    have EL := Lib.hid hL
    clear hE hL
    go_wp2_with (fail)
    go_ret2
    rw [EE.out, EL.out]
    exact ⟨_, rfl, Own.nil_ _ _ _, HB2.out⟩
  | true =>
  have z0 : w2.cell? ⟨gb, 0, none⟩ = some (.int .i64 v) := (heap_cell HH2.out 0).trans rfl
  have z1 : w2.cell? ⟨gb, 1, none⟩ = some (.int .u32 (f1 : Int)) := (heap_cell HH2.out 1).trans rfl
  have z2 : w2.cell? ⟨gb, 2, none⟩ = some (.int .i64 mx) := (heap_cell HH2.out 2).trans rfl
  have z3 : w2.cell? ⟨gb, 3, none⟩ = some (.int .u32 (f2 : Int)) := (heap_cell HH2.out 3).trans rfl
  go_wp2_with (fail)
  refine (offerMayI_c mx f2 w2).mono ?_
  rintro _ w3 ⟨rfl, hb3⟩
  obtain ⟨O, eO⟩ : ∃ O, offI mx = O := ⟨_, rfl⟩
  rw [eO]
  have HO := Lib.hid eO
  have HB3 := Lib.hid (HB2.out.trans (hb3.mono HB2.out.size))
  have HH3 := Lib.hid ((hb3.block gb (heap_lt HH2.out)).trans HH2.out)
  clear hb3 eO z0 z1 z2 z3
  cases O with
  | false =>
    have hE : E = 1 := by rw [← HE.out]; unfold putS; rw [HO1.out, HO.out]; rfl
    have hL : L = [] := by rw [← HLL.out]; unfold putS; rw [HO1.out, HO.out]; rfl
    have EE := Lib.hid hE
    have EL := Lib.hid hL
    clear hE hL
    go_wp2_with (fail)
    go_ret2
    rw [EE.out, EL.out]
    exact ⟨_, rfl, Own.nil_ _ _ _, HB3.out⟩
  | true =>
  clear HH1 HB1 HB2 HH2
  have z0 : w3.cell? ⟨gb, 0, none⟩ = some (.int .i64 v) := (heap_cell HH3.out 0).trans rfl
  have z1 : w3.cell? ⟨gb, 1, none⟩ = some (.int .u32 (f1 : Int)) := (heap_cell HH3.out 1).trans rfl
  have z2 : w3.cell? ⟨gb, 2, none⟩ = some (.int .i64 mx) := (heap_cell HH3.out 2).trans rfl
  have z3 : w3.cell? ⟨gb, 3, none⟩ = some (.int .u32 (f2 : Int)) := (heap_cell HH3.out 3).trans rfl
  have eO := HO.out
  obtain ⟨m1, m3⟩ : 1 ≤ mx ∧ mx ≤ 3 := of_decide_eq_true eO
  obtain ⟨hv1, hv3⟩ := mayF_in HO1.out
  obtain ⟨V, rfl⟩ : ∃ V : Nat, v = (V : Int) := ⟨v.toNat, by omega⟩
  obtain ⟨M, rfl⟩ : ∃ M : Nat, mx = (M : Int) := ⟨mx.toNat, by omega⟩
  have hE : E = 0 := by rw [← HE.out]; unfold putS; rw [HO1.out, eO]; rfl
  have hL : L = encF (crF 0 [numL V 1, numL f1 4, numL M 1, numL f2 4, l1, l2]) := by rw [← HLL.out]; unfold putS; rw [HO1.out, eO]; rfl
  have EE := Lib.hid hE
  have EL := Lib.hid hL
  have hV : V < 256 := by omega
  have hM : M < 256 := by omega
  have VF1 : Hid (U64 f1) := Lib.hid (by have := HF1.out; unfold U64; omega)
  have VF2 : Hid (U64 f2) := Lib.hid (by have := HF2.out; unfold U64; omega)
  have hwF1 := u32w HF1.out
  have hwF2 := u32w HF2.out
  have hwV := u64w (n := V) (by omega)
  have hwM := u64w (n := M) (by omega)
  have VV : Hid (U64 V) := Lib.hid (by unfold U64; omega)
  have VM : Hid (U64 M) := Lib.hid (by unfold U64; omega)
  have hgb : gb < w3.heap.size := heap_lt HH3.out
  have HR1 := Lib.hid (selI_rd1 HH3.out)
  have HR2 := Lib.hid (selI_rd2 HL1.out HH3.out)
  have hbs : ∀ b ∈ [numL V 1, numL f1 4, numL M 1, numL f2 4, l1, l2], b.length ≤ 4096 := by
    intro b hb
    simp at hb
    rcases hb with rfl | rfl | rfl | rfl | rfl | rfl
    · rw [numL_length]; decide
    · rw [numL_length]; decide
    · rw [numL_length]; decide
    · rw [numL_length]; decide
    · rw [HL1.out]; decide
    · rw [HL2.out]; decide
  have HBS := Lib.hid hbs
  clear hE hL hv1 hv3 eO hbs m1 m3 HO
  go_upto_region 3 with (fail)
  refine wp_region_rw 40 [Rl.eq (.pointer (some ⟨gb, 0, none⟩)), Rl.eq (.pointer (some ⟨gb, 0, none⟩)), Rl.eq (.int .i64 (V : Int)), Rl.eq (.int .u64 (V : Int)), Rl.txt 1 (numL V 1), Rl.eq (.pointer (some ⟨gb, 0, none⟩)), Rl.eq (.pointer (some ⟨gb, 1, none⟩)), Rl.eq (.int .u32 (f1 : Int)), Rl.eq (.int .u64 (f1 : Int)), Rl.txt 4 (numL f1 4), Rl.eq (.pointer (some ⟨gb, 2, none⟩)), Rl.eq (.pointer (some ⟨gb, 2, none⟩)), Rl.eq (.int .i64 (M : Int)), Rl.eq (.int .u64 (M : Int)), Rl.txt 1 (numL M 1), Rl.eq (.pointer (some ⟨gb, 2, none⟩)), Rl.eq (.pointer (some ⟨gb, 3, none⟩)), Rl.eq (.int .u32 (f2 : Int)), Rl.eq (.int .u64 (f2 : Int)), Rl.txt 4 (numL f2 4), Rl.eq (.pointer (some ⟨gb, 4, none⟩)), Rl.eq (.slice (some ⟨gb, 4, none⟩) 16 16), Rl.eq (.pointer (some ⟨gb, 20, none⟩)), Rl.eq (.slice (some ⟨gb, 20, none⟩) 32 32), Rl.sls 6 [numL V 1, numL f1 4, numL M 1, numL f2 4, l1, l2], Rl.own w.heap.size (encF (crF 0 [numL V 1, numL f1 4, numL M 1, numL f2 4, l1, l2])), Rl.own w.heap.size (encF (crF 0 [numL V 1, numL f1 4, numL M 1, numL f2 4, l1, l2])), Rl.eq (.int .i64 0)] [14, 15, 16, 17, 18, 19, 20, 21, 22, 23, 24, 25, 26, 27, 28, 29, 30, 31, 32, 33, 34, 35, 36, 37, 38, 39, 2, 3] (by kernel_rfl) rfl (by kernel_rfl) (by kernel_rfl) ?_ ?_
  · repeat (first | exact AllFrom.nil_ | (refine AllFrom.cons_ (by rfl) ?_ ?_; rotate_left))
    · intro f w' g hF hD
      have h1 : f 1 = .pointer (some ⟨gb, 0, none⟩) := hF 1 (by kernel_rfl)
      rw [if_pos (wanted_none rfl)]
      clear hF hD
      exact gives_val (by simp only [execOp, evF, h1]; first | rfl | go_simp) ⟨Gr.refl _, rfl⟩
    · intro f w' g hF hD
      have h14 : f 14 = (.pointer (some ⟨gb, 0, none⟩)) := hD 0 14 (by kernel_rfl) rfl
      rw [if_pos (wanted_none rfl)]
      clear hF hD
      exact gives_val (by simp only [execOp, evF, h14]; first | rfl | go_simp) ⟨Gr.refl _, rfl⟩
    · intro f w' g hF hD
      have h15 : f 15 = (.pointer (some ⟨gb, 0, none⟩)) := hD 1 15 (by kernel_rfl) rfl
      rw [if_pos (wanted_none rfl)]
      clear hF hD
      have cl : w'.cell? ⟨gb, 0, none⟩ = some (.int .i64 (V : Int)) := (g.cell (p := ⟨gb, 0, none⟩) hgb).trans z0
      exact gives_val (by simp only [execOp, evF, h15]; go_simp) ⟨Gr.refl _, rfl⟩
    · intro f w' g hF hD
      have h16 : f 16 = (.int .i64 (V : Int)) := hD 2 16 (by kernel_rfl) rfl
      rw [if_pos (wanted_none rfl)]
      clear hF hD
      exact gives_val (by simp only [execOp, evF, h16]; first | rfl | go_simp) ⟨Gr.refl _, rfl⟩
    · intro f w' g hF hD
      have h17 : f 17 = (.int .u64 (V : Int)) := hD 3 17 (by kernel_rfl) rfl
      rw [if_pos (wanted_none rfl)]
      clear hF hD
      refine gives_func rfl Try.func34 (by kernel_rfl) rfl (by simp only [List.map_toArray, List.map_cons, List.map_nil, evF, h17]) ((Num_c V 1 w' VV.out).mono ?_)
      rintro e w'' ⟨x, rfl, ho, hb⟩
      rw [nm1] at ho
      obtain ⟨A5, c5, rfl, hc5, hm5, r5, _⟩ := OwnB.form ho
      rw [numL_length] at hc5 ⊢
      exact ⟨_, rfl, hb, _, _, rfl, numL_length _ _, r5, hc5, hm5⟩
    · intro f w' g hF hD
      have h1 : f 1 = .pointer (some ⟨gb, 0, none⟩) := hF 1 (by kernel_rfl)
      rw [if_pos (wanted_none rfl)]
      clear hF hD
      exact gives_val (by simp only [execOp, evF, h1]; first | rfl | go_simp) ⟨Gr.refl _, rfl⟩
    · intro f w' g hF hD
      have h19 : f 19 = (.pointer (some ⟨gb, 0, none⟩)) := hD 5 19 (by kernel_rfl) rfl
      rw [if_pos (wanted_none rfl)]
      clear hF hD
      exact gives_val (by simp only [execOp, evF, h19]; first | rfl | go_simp) ⟨Gr.refl _, rfl⟩
    · intro f w' g hF hD
      have h20 : f 20 = (.pointer (some ⟨gb, 1, none⟩)) := hD 6 20 (by kernel_rfl) rfl
      rw [if_pos (wanted_none rfl)]
      clear hF hD
      have cl : w'.cell? ⟨gb, 1, none⟩ = some (.int .u32 (f1 : Int)) := (g.cell (p := ⟨gb, 1, none⟩) hgb).trans z1
      exact gives_val (by simp only [execOp, evF, h20]; go_simp) ⟨Gr.refl _, rfl⟩
    · intro f w' g hF hD
      have h21 : f 21 = (.int .u32 (f1 : Int)) := hD 7 21 (by kernel_rfl) rfl
      rw [if_pos (wanted_none rfl)]
      clear hF hD
      exact gives_val (by simp only [execOp, evF, h21]; first | rfl | go_simp) ⟨Gr.refl _, rfl⟩
    · intro f w' g hF hD
      have h22 : f 22 = (.int .u64 (f1 : Int)) := hD 8 22 (by kernel_rfl) rfl
      rw [if_pos (wanted_none rfl)]
      clear hF hD
      refine gives_func rfl Try.func34 (by kernel_rfl) rfl (by simp only [List.map_toArray, List.map_cons, List.map_nil, evF, h22]) ((Num_c f1 4 w' VF1.out).mono ?_)
      rintro e w'' ⟨x, rfl, ho, hb⟩
      rw [nm4] at ho
      obtain ⟨A5, c5, rfl, hc5, hm5, r5, _⟩ := OwnB.form ho
      rw [numL_length] at hc5 ⊢
      exact ⟨_, rfl, hb, _, _, rfl, numL_length _ _, r5, hc5, hm5⟩
    · intro f w' g hF hD
      have h1 : f 1 = .pointer (some ⟨gb, 0, none⟩) := hF 1 (by kernel_rfl)
      rw [if_pos (wanted_none rfl)]
      clear hF hD
      exact gives_val (by simp only [execOp, evF, h1]; first | rfl | go_simp) ⟨Gr.refl _, rfl⟩
    · intro f w' g hF hD
      have h24 : f 24 = (.pointer (some ⟨gb, 2, none⟩)) := hD 10 24 (by kernel_rfl) rfl
      rw [if_pos (wanted_none rfl)]
      clear hF hD
      exact gives_val (by simp only [execOp, evF, h24]; first | rfl | go_simp) ⟨Gr.refl _, rfl⟩
    · intro f w' g hF hD
      have h25 : f 25 = (.pointer (some ⟨gb, 2, none⟩)) := hD 11 25 (by kernel_rfl) rfl
      rw [if_pos (wanted_none rfl)]
      clear hF hD
      have cl : w'.cell? ⟨gb, 2, none⟩ = some (.int .i64 (M : Int)) := (g.cell (p := ⟨gb, 2, none⟩) hgb).trans z2
      exact gives_val (by simp only [execOp, evF, h25]; go_simp) ⟨Gr.refl _, rfl⟩
    · intro f w' g hF hD
      have h26 : f 26 = (.int .i64 (M : Int)) := hD 12 26 (by kernel_rfl) rfl
      rw [if_pos (wanted_none rfl)]
      clear hF hD
      exact gives_val (by simp only [execOp, evF, h26]; first | rfl | go_simp) ⟨Gr.refl _, rfl⟩
    · intro f w' g hF hD
      have h27 : f 27 = (.int .u64 (M : Int)) := hD 13 27 (by kernel_rfl) rfl
      rw [if_pos (wanted_none rfl)]
      clear hF hD
      refine gives_func rfl Try.func34 (by kernel_rfl) rfl (by simp only [List.map_toArray, List.map_cons, List.map_nil, evF, h27]) ((Num_c M 1 w' VM.out).mono ?_)
      rintro e w'' ⟨x, rfl, ho, hb⟩
      rw [nm1] at ho
      obtain ⟨A5, c5, rfl, hc5, hm5, r5, _⟩ := OwnB.form ho
      rw [numL_length] at hc5 ⊢
      exact ⟨_, rfl, hb, _, _, rfl, numL_length _ _, r5, hc5, hm5⟩
    · intro f w' g hF hD
      have h1 : f 1 = .pointer (some ⟨gb, 0, none⟩) := hF 1 (by kernel_rfl)
      rw [if_pos (wanted_none rfl)]
      clear hF hD
      exact gives_val (by simp only [execOp, evF, h1]; first | rfl | go_simp) ⟨Gr.refl _, rfl⟩
    · intro f w' g hF hD
      have h29 : f 29 = (.pointer (some ⟨gb, 2, none⟩)) := hD 15 29 (by kernel_rfl) rfl
      rw [if_pos (wanted_none rfl)]
      clear hF hD
      exact gives_val (by simp only [execOp, evF, h29]; first | rfl | go_simp) ⟨Gr.refl _, rfl⟩
    · intro f w' g hF hD
      have h30 : f 30 = (.pointer (some ⟨gb, 3, none⟩)) := hD 16 30 (by kernel_rfl) rfl
      rw [if_pos (wanted_none rfl)]
      clear hF hD
      have cl : w'.cell? ⟨gb, 3, none⟩ = some (.int .u32 (f2 : Int)) := (g.cell (p := ⟨gb, 3, none⟩) hgb).trans z3
      exact gives_val (by simp only [execOp, evF, h30]; go_simp) ⟨Gr.refl _, rfl⟩
    · intro f w' g hF hD
      have h31 : f 31 = (.int .u32 (f2 : Int)) := hD 17 31 (by kernel_rfl) rfl
      rw [if_pos (wanted_none rfl)]
      clear hF hD
      exact gives_val (by simp only [execOp, evF, h31]; first | rfl | go_simp) ⟨Gr.refl _, rfl⟩
    · intro f w' g hF hD
      have h32 : f 32 = (.int .u64 (f2 : Int)) := hD 18 32 (by kernel_rfl) rfl
      rw [if_pos (wanted_none rfl)]
      clear hF hD
      refine gives_func rfl Try.func34 (by kernel_rfl) rfl (by simp only [List.map_toArray, List.map_cons, List.map_nil, evF, h32]) ((Num_c f2 4 w' VF2.out).mono ?_)
      rintro e w'' ⟨x, rfl, ho, hb⟩
      rw [nm4] at ho
      obtain ⟨A5, c5, rfl, hc5, hm5, r5, _⟩ := OwnB.form ho
      rw [numL_length] at hc5 ⊢
      exact ⟨_, rfl, hb, _, _, rfl, numL_length _ _, r5, hc5, hm5⟩
    · intro f w' g hF hD
      have h1 : f 1 = .pointer (some ⟨gb, 0, none⟩) := hF 1 (by kernel_rfl)
      rw [if_pos (wanted_none rfl)]
      clear hF hD
      exact gives_val (by simp only [execOp, evF, h1]; first | rfl | go_simp) ⟨Gr.refl _, rfl⟩
    · intro f w' g hF hD
      have h34 : f 34 = (.pointer (some ⟨gb, 4, none⟩)) := hD 20 34 (by kernel_rfl) rfl
      rw [if_pos (wanted_none rfl)]
      clear hF hD
      exact gives_val (by simp only [execOp, evF, h34]; first | rfl | go_simp) ⟨Gr.refl _, rfl⟩
    · intro f w' g hF hD
      have h1 : f 1 = .pointer (some ⟨gb, 0, none⟩) := hF 1 (by kernel_rfl)
      rw [if_pos (wanted_none rfl)]
      clear hF hD
      exact gives_val (by simp only [execOp, evF, h1]; first | rfl | go_simp) ⟨Gr.refl _, rfl⟩
    · intro f w' g hF hD
      have h36 : f 36 = (.pointer (some ⟨gb, 20, none⟩)) := hD 22 36 (by kernel_rfl) rfl
      rw [if_pos (wanted_none rfl)]
      clear hF hD
      exact gives_val (by simp only [execOp, evF, h36]; first | rfl | go_simp) ⟨Gr.refl _, rfl⟩
    · intro f w' g hF hD
      have q18 := hD 4 18 (by kernel_rfl) rfl
      have q23 := hD 9 23 (by kernel_rfl) rfl
      have q28 := hD 14 28 (by kernel_rfl) rfl
      have q33 := hD 19 33 (by kernel_rfl) rfl
      have h35 : f 35 = (.slice (some ⟨gb, 4, none⟩) 16 16) := hD 21 35 (by kernel_rfl) rfl
      have h37 : f 37 = (.slice (some ⟨gb, 20, none⟩) 32 32) := hD 23 37 (by kernel_rfl) rfl
      rw [if_pos (wanted_none rfl)]
      clear hF hD
      obtain ⟨A0, c0, h18, q0⟩ := q18
      obtain ⟨A1, c1, h23, q1⟩ := q23
      obtain ⟨A2, c2, h28, q2⟩ := q28
      obtain ⟨A3, c3, h33, q3⟩ := q33
      have kg : Below w3.heap.size w3 w' := (below_drewN (Below.refl _ _) 1).trans g
      have r3 := rds6 w' q0 q1 q2 q3 (A4 := some ⟨gb, 4, none⟩) (c4 := 16) ⟨HL1.out, HR1.out.below kg, Nat.le_refl _, by decide⟩ (A5 := some ⟨gb, 20, none⟩) (c5 := 32) ⟨HL2.out, HR2.out.below kg, Nat.le_refl _, by decide⟩
      exact gives_val (v := .slice (some ⟨w'.heap.size, 0, none⟩) 6 6) (by simp only [execOp, evF, h35, h37, h18, h23, h28, h33]; first | rfl | go_simp) ⟨(Below.refl _ _).alloc (Nat.le_refl _) _, some ⟨w'.heap.size, 0, none⟩, 6, rfl, r3⟩
    · intro f w' g hF hD
      have q38 := hD 24 38 (by kernel_rfl) rfl
      rw [if_pos (wanted_none rfl)]
      clear hF hD
      obtain ⟨A0, c0, h38, q0⟩ := q38
      have kg : Below w3.heap.size w3 w' := (below_drewN (Below.refl _ _) 1).trans g
      refine gives_func rfl Try.func43 (by kernel_rfl) rfl (by simp only [List.map_toArray, List.map_cons, List.map_nil, evF, h38]) ((listB_c A0 6 c0 [numL V 1, numL f1 4, numL M 1, numL f2 4, l1, l2] w' rfl q0 (by decide) HBS.out).mono ?_)
      rintro e w'' ⟨x, rfl, ho, hb⟩
      exact ⟨_, rfl, hb, Own.low ho (Nat.le_trans HB3.out.size kg.size)⟩
    · intro f w' g hF hD
      have q39 := hD 25 39 (by kernel_rfl) rfl
      rw [if_pos (wanted_none rfl)]
      clear hF hD
      exact gives_val (v := f 39) (by simp only [execOp, evF]; rfl) ⟨Gr.refl _, q39⟩
    · intro f w' g hF hD
      rw [if_pos (wanted_none rfl)]
      clear hF hD
      exact gives_val (by simp only [execOp, evF]; first | rfl | go_simp) ⟨Gr.refl _, rfl⟩
  intro f' w4 g hD
  have h2 : OwnB w4 w.heap.size (f' 2) (encF (crF 0 [numL V 1, numL f1 4, numL M 1, numL f2 4, l1, l2])) := hD 26 2 rfl
  have h3 : f' 3 = .int .i64 0 := hD 27 3 rfl
  have HO := Lib.hid h2
  have HB4 := Lib.hid (HB3.out.trans (((below_drewN (Below.refl _ _) 1).trans g).mono HB3.out.size))
  obtain ⟨v2, ev2⟩ : ∃ v2, v2 = f' 2 := ⟨_, rfl⟩
  rw [← ev2] at HO
  simp only [putAll, List.setIfInBounds_toArray, List.set_cons_zero, List.set_cons_succ, h3, ← ev2]
  clear h2 h3 hD g z0 z1 z2 z3 hwF1 hwF2 hwV hwM hgb hM hV ev2
  go_wp2_with (fail)
  go_ret2
  rw [EE.out, EL.out]
  exact ⟨_, rfl, HO.out, HB4.out⟩
end Go.Proofs.Ytcffinkkfdfcaaa

/- The plain law of items: what is laid is read as it was; what is read is laid as it stood there. Conditions: none. -/
namespace Go.Proofs.Ytcffinkkfdfcaaa
open Go Go.RowKit

theorem numI_parts {k : Int} {cr li : Bool} (h1 : 1 ≤ k) (h2 : k ≤ 1000) : ((numI k cr li / 4 : Nat) : Int) = k ∧ (numI k cr li % 2 = 1 ↔ li = true) ∧ (decide (2 ≤ numI k cr li % 4) = cr) ∧ U64 (numI k cr li) := by
  have hu : U64 (numI k cr li) := by have := numI_le cr li h1 h2; unfold U64; omega
  refine ⟨?_, ?_, ?_, hu⟩
  · unfold numI; cases cr <;> cases li <;> simp <;> omega
  · unfold numI; cases cr <;> cases li <;> simp <;> omega
  · unfold numI; cases cr <;> cases li <;> simp <;> omega
theorem scan_cons {x : En} {S R : List En} {c : Nat} : scanF (x :: (S ++ R)) c = 0 ↔ fe c x = 0 ∧ scanF S (c + 1) = 0 ∧ scanF R (c + 1 + S.length) = 0 := by
  rw [scanF]
  by_cases h : fe c x = 0
  · rw [if_neg (by simp [h]), scanF_append]
    by_cases h2 : scanF S (c + 1) = 0
    · rw [if_neg (by simp [h2])]
      simp [h, h2]
    · rw [if_pos h2]
      simp [h2]
  · rw [if_pos h]; simp [h]
/-- A reader's first number, where it was laid. -/
theorem varR_laid {s : RS} {n : Nat} {more : List UInt8} (h0 : s.err = 0) (hu : U64 n) (hl : s.b.drop s.at_ = varL n ++ more) :
    varR s = (n, { s with at_ := s.at_ + (varL n).length }) ∧ s.b.drop (s.at_ + (varL n).length) = more := by
  refine ⟨?_, ?_⟩
  · rw [varR, if_neg (by simpa using h0), hl, varGo_laid hu]
  · rw [← List.drop_drop, hl, List.drop_left]
theorem textR_laid {s : RS} {t more : List UInt8} (h0 : s.err = 0) (ht : t.length ≤ 4096) (hl : s.b.drop s.at_ = varL t.length ++ (t ++ more)) :
    ∃ s2, textR s 4096 = (t, s2) ∧ s2.b = s.b ∧ s2.err = 0 ∧ s2.b.drop s2.at_ = more := by
  have hu : U64 t.length := by unfold U64; omega
  obtain ⟨-, hd⟩ := varR_laid h0 hu hl
  have hlen : (s.b.drop (s.at_ + (varL t.length).length)).length = t.length + more.length := by rw [hd, List.length_append]
  rw [List.length_drop] at hlen
  have hsl : s.at_ + (varL t.length).length ≤ s.b.length ∨ t.length + more.length = 0 := by omega
  refine ⟨{ s with at_ := s.at_ + (varL t.length).length + t.length }, ?_, rfl, h0, ?_⟩
  · have h1 : ¬ ((4096 : Int) < 0 ∨ (4096 : Int) < (t.length : Int)) := by omega
    have h2 : ¬ s.b.length < s.at_ + (varL t.length).length + t.length := by
      have := congrArg List.length hl
      rw [List.length_drop, List.length_append, List.length_append] at this
      have hv : 1 ≤ (varL t.length).length := (varGo_u64 (varGo_laid hu [])).2.2
      omega
    rw [textR, if_neg (by simpa using h0), hl, varGo_laid hu]
    simp only
    rw [if_neg h1, if_neg h2, hd, List.take_left]
  · show s.b.drop (s.at_ + (varL t.length).length + t.length) = more
    rw [← List.drop_drop, hd, List.drop_left]
theorem back_law : ∀ (f : Fo) (m : Nat) (s : RS) (d : Int) (ah c : Nat), s.b.length - s.at_ < m → s.err = 0 → s.at_ ≤ s.b.length → d ≤ 4 → s.b.drop s.at_ = layL f → (layL f).length ≤ 4096 → scanF (fullR f d ah) c = 0 → decG m s d ah c = (0, f, c + (fullR f d ah).length)
  | .nil, m, s, d, ah, c, hm, h0, ha, hd, hl, h4, hs => by
    obtain ⟨m', rfl⟩ : ∃ m', m = m' + 1 := ⟨m - 1, by omega⟩
    have : s.b.length - s.at_ = 0 := by have := congrArg List.length hl; rw [List.length_drop] at this; simpa [layL] using this
    rw [decG_end (by omega)]; rfl
  | .cons k cr li bs sub rest, m, s, d, ah, c, hm, h0, ha, hd, hl, h4, hs => by
    obtain ⟨m', rfl⟩ : ∃ m', m = m' + 1 := ⟨m - 1, by omega⟩
    rw [fullR, if_pos (by omega)] at hs
    obtain ⟨hfe, hs1, hs2⟩ := scan_cons.1 hs
    obtain ⟨q1, q2, q3, q4, q5, q6, q7, q8⟩ := fe_zero hfe
    dsimp only at q2 q3 q4 q5 q6 q7 q8
    obtain ⟨n1, n2, n3, n4⟩ := numI_parts (cr := cr) (li := li) q2 q3
    obtain ⟨t, et⟩ : ∃ t, t = (if li then layL sub else bs) := ⟨_, rfl⟩
    have hlay : layL (.cons k cr li bs sub rest) = varL (numI k cr li) ++ (varL t.length ++ (t ++ layL rest)) := by rw [layL, ← et]; simp only [List.append_assoc]
    rw [hlay] at hl h4
    obtain ⟨hv, hd1⟩ := varR_laid h0 n4 hl
    obtain ⟨s1, es1⟩ : ∃ s1 : RS, s1 = { s with at_ := s.at_ + (varL (numI k cr li)).length } := ⟨_, rfl⟩
    rw [← es1] at hv
    have hd1' : s1.b.drop s1.at_ = varL t.length ++ (t ++ layL rest) := by rw [es1]; exact hd1
    have h1 : s1.err = 0 := by rw [es1]; exact h0
    obtain ⟨a1, a2, a3, a4, a5, a6⟩ := varR_step hv h0 ha
    rw [List.length_append, List.length_append, List.length_append] at h4
    obtain ⟨s2, ht, e2b, e2e, hd2⟩ := textR_laid h1 (by omega) hd1'
    obtain ⟨b1, b2, b3, b4, b5, b6, b7⟩ := textR_step ht h1 (by rw [a1]; exact a4)
    have hlt : s.at_ < s.b.length := by have := a6 h1; omega
    have hnf : ¬ (numI k cr li / 4 ≤ ah ∨ 1000 < numI k cr li / 4) := by omega
    have hnc : ¬ 64 ≤ c := by omega
    have hr : s2.b.length - s2.at_ < m' := by have := a6 h1; have := b7 e2e; rw [b1, a1]; omega
    have hr2 : s2.at_ ≤ s2.b.length := by rw [b1]; exact b4
    have hk : ((numI k cr li / 4 : Nat) : Int) = k := n1
    cases li with
    | false =>
      obtain rfl : sub = .nil := Fo.len0 (q5 rfl)
      have ht0 : t = bs := by rw [et]; rfl
      subst ht0
      have h2 : numI k cr false % 2 = 0 := by have : ¬ numI k cr false % 2 = 1 := fun h => by cases n2.1 h
                                              omega
      rw [decG_item hlt hv h1 hnf hnc ht e2e h2]
      have ih := back_law rest m' s2 d (numI k cr false / 4) (c + 1) hr e2e hr2 hd hd2 (by omega) (by rw [hk]; simpa [fullR] using hs2)
      rw [ih, cmb, n3, hk]
      simp only [Fo.app, fullR, if_pos (show d < 5 by omega), List.nil_append, List.length_cons]
      congr 2
      omega
    | true =>
      have hd4 : d ≠ 4 := q7 rfl
      have hb0 : bs = [] := List.eq_nil_of_length_eq_zero (q6 rfl)
      subst hb0
      have ht0 : t = layL sub := by rw [et]; rfl
      subst ht0
      have h2 : numI k cr true % 2 = 1 := n2.2 rfl
      have ihs := back_law sub m' ⟨layL sub, 0, 0, none⟩ (d + 1) 0 (c + 1) (by show (layL sub).length - 0 < m'; have := a6 h1; rw [a1] at b6; omega) rfl (Nat.zero_le _) (by omega) rfl (by omega) hs1
      rw [decG_list hlt hv h1 hnf hnc hd4 ht e2e h2 ihs]
      have ih := back_law rest m' s2 d (numI k cr true / 4) (c + 1 + (fullR sub (d + 1) (0 : Nat)).length) hr e2e hr2 hd hd2 (by omega) (by rw [hk]; exact hs2)
      rw [ih, cmb, n3, hk]
      simp only [Fo.app, fullR, if_pos (show d < 5 by omega), List.length_cons, List.length_append]
      congr 2
      have e0 : ((0 : Nat) : Int) = 0 := rfl
      rw [e0]
      omega
/-- What is laid is read as it was. -/
theorem dec_back {f : Fo} (h : checkF f = 0) : decT (layL f) = (0, f) := by
  have hs : scanF (fullR f 1 0) 0 = 0 := by
    unfold checkF at h
    by_cases h0 : scanF (fullR f 1 0) 0 = 0
    · exact h0
    · rw [if_pos h0] at h; exact absurd h h0
  have h4 : (layL f).length ≤ 4096 := by
    unfold checkF at h
    rw [if_neg (by simp [hs])] at h
    by_cases h1 : 4096 < (layL f).length
    · rw [if_pos h1] at h; omega
    · omega
  have := back_law f ((layL f).length + 1) ⟨layL f, 0, 0, none⟩ 1 0 0 (by show (layL f).length - 0 < _; omega) rfl (Nat.zero_le _) (by omega) rfl h4 hs
  rw [decT_eq h4 this]
  rfl
/-- A number's bytes and what stands behind. -/
theorem varR_one {s s1 : RS} {n : Nat} (hv : varR s = (n, s1)) (h0 : s.err = 0) (h1 : s1.err = 0) : s.b.drop s.at_ = varL n ++ s1.b.drop s1.at_ := by
  unfold varR at hv
  rw [if_neg (by simpa using h0)] at hv
  cases hg : varGo (s.b.drop s.at_) 0 with
  | bad e =>
    rw [hg] at hv
    injection hv with hn hs
    subst hs
    rcases varGo_err hg with rfl | rfl <;> cases h1
  | ok n' k =>
    rw [hg] at hv
    injection hv with hn hs
    subst hs hn
    have := (varGo_one _ _ _ _ hg).1
    show s.b.drop s.at_ = varL n' ++ s.b.drop (s.at_ + k)
    rw [← this, ← List.drop_drop, List.take_append_drop]
theorem textR_one {s s2 : RS} {t : List UInt8} (ht : textR s 4096 = (t, s2)) (h0 : s.err = 0) (h2 : s2.err = 0) : s.b.drop s.at_ = varL t.length ++ (t ++ s2.b.drop s2.at_) := by
  unfold textR at ht
  rw [if_neg (by simpa using h0)] at ht
  cases hg : varGo (s.b.drop s.at_) 0 with
  | bad e =>
    rw [hg] at ht
    injection ht with hn hs
    subst hs
    rcases varGo_err hg with rfl | rfl <;> cases h2
  | ok n k =>
    rw [hg] at ht
    simp only at ht
    by_cases h3 : (4096 : Int) < 0 ∨ (4096 : Int) < (n : Int)
    · rw [if_pos h3] at ht
      injection ht with hn hs
      subst hs
      cases h2
    · rw [if_neg h3] at ht
      by_cases h4 : s.b.length < s.at_ + k + n
      · rw [if_pos h4] at ht
        injection ht with hn hs
        subst hs
        cases h2
      · rw [if_neg h4] at ht
        injection ht with hn hs
        subst hs hn
        have hl : ((s.b.drop (s.at_ + k)).take n).length = n := by rw [List.length_take, List.length_drop]; omega
        have := (varGo_one _ _ _ _ hg).1
        show s.b.drop s.at_ = varL ((s.b.drop (s.at_ + k)).take n).length ++ ((s.b.drop (s.at_ + k)).take n ++ s.b.drop (s.at_ + k + n))
        rw [hl, ← List.drop_drop (i := n), List.take_append_drop, ← this, ← List.drop_drop, List.take_append_drop]
theorem numI_of {n : Nat} : numI ((n / 4 : Nat) : Int) (decide (2 ≤ n % 4)) true = n / 4 * 4 + (if 2 ≤ n % 4 then 2 else 0) + 1 ∧ numI ((n / 4 : Nat) : Int) (decide (2 ≤ n % 4)) false = n / 4 * 4 + (if 2 ≤ n % 4 then 2 else 0) := by
  unfold numI
  by_cases h : 2 ≤ n % 4
  · simp [h]; omega
  · simp [h]; omega
theorem one_law : ∀ (m : Nat) (s : RS) (d : Int) (ah c : Nat) (L : Fo) (c' : Nat), s.b.length - s.at_ < m → s.err = 0 → s.at_ ≤ s.b.length → 1 ≤ d → d ≤ 4 → decG m s d ah c = (0, L, c') → layL L = s.b.drop s.at_ ∧ scanF (fullR L d ah) c = 0 ∧ c' = c + (fullR L d ah).length
  | 0, s, d, ah, c, L, c', hm, _, _, _, _, _ => by omega
  | m + 1, s, d, ah, c, L, c', hm, h0, ha, hd1, hd, hD => by
    obtain ⟨n, s1, hv⟩ : ∃ n s1, varR s = (n, s1) := ⟨_, _, rfl⟩
    obtain ⟨t, s2, ht⟩ : ∃ t s2, textR s1 4096 = (t, s2) := ⟨_, _, rfl⟩
    by_cases hlt' : s.b.length ≤ s.at_
    · rw [decG_end hlt'] at hD
      injection hD with _ hD
      injection hD with e1 e2
      subst e1 e2
      refine ⟨?_, rfl, rfl⟩
      rw [List.drop_of_length_le hlt']; rfl
    have hlt : s.at_ < s.b.length := by omega
    obtain ⟨a1, a2, a3, a4, a5, a6⟩ := varR_step hv h0 ha
    by_cases h1 : s1.err = 0
    · obtain ⟨b1, b2, b3, b4, b5, b6, b7⟩ := textR_step ht h1 (by rw [a1]; exact a4)
      by_cases h2 : n / 4 ≤ ah ∨ 1000 < n / 4
      · rw [decG_form hlt hv h1 h2] at hD; injection hD with hD; cases hD
      by_cases h3 : 64 ≤ c
      · rw [decG_many hlt hv h1 h2 h3] at hD; injection hD with hD; cases hD
      by_cases h4 : n % 2 = 1 ∧ d = 4
      · rw [decG_deep hlt hv h1 h2 h3 h4] at hD; injection hD with hD; cases hD
      by_cases h5 : s2.err = 0
      · have hr : s2.b.length - s2.at_ < m := by have := a6 h1; have := b7 h5; rw [b1, a1]; omega
        have hr2 : s2.at_ ≤ s2.b.length := by rw [b1]; exact b4
        have hbytes : s.b.drop s.at_ = varL n ++ (varL t.length ++ (t ++ s2.b.drop s2.at_)) := by rw [varR_one hv h0 h1, textR_one ht h1 h5]
        obtain ⟨nt, nf⟩ := numI_of (n := n)
        by_cases h6 : n % 2 = 1
        · have hd4 : d ≠ 4 := fun e => h4 ⟨h6, e⟩
          by_cases h7 : (decG m ⟨t, 0, 0, none⟩ (d + 1) 0 (c + 1)).1 = 0
          · obtain ⟨L1, c1, e7⟩ : ∃ L1 c1, decG m ⟨t, 0, 0, none⟩ (d + 1) 0 (c + 1) = (0, L1, c1) := ⟨_, _, Prod.ext h7 rfl⟩
            obtain ⟨i1, i2, i3⟩ := one_law m ⟨t, 0, 0, none⟩ (d + 1) 0 (c + 1) L1 c1 (by show t.length - 0 < m; have := a6 h1; rw [a1] at b6; omega) rfl (Nat.zero_le _) (by omega) (by omega) e7
            have i1' : layL L1 = t := i1
            rw [decG_list hlt hv h1 h2 h3 hd4 ht h5 h6 e7] at hD
            obtain ⟨L2, c2, e8⟩ : ∃ L2 c2, decG m s2 d (n / 4) c1 = (0, L2, c2) := ⟨_, _, Prod.ext (show (decG m s2 d (n / 4) c1).1 = 0 from congrArg Prod.fst hD) rfl⟩
            rw [e8, cmb] at hD
            injection hD with _ hD
            injection hD with e1 e2
            simp only [Fo.app] at e1 e2
            subst e1 e2
            obtain ⟨j1, j2, j3⟩ := one_law m s2 d (n / 4) c1 L2 c2 hr h5 hr2 hd1 hd e8
            have e0 : ((0 : Nat) : Int) = 0 := rfl
            rw [e0] at i2 i3
            refine ⟨?_, ?_, ?_⟩
            · rw [layL, if_pos rfl, i1', j1, hbytes, nt]
              have : n / 4 * 4 + (if 2 ≤ n % 4 then 2 else 0) + 1 = n := by split <;> omega
              rw [this]
              simp only [List.append_assoc]
            · rw [fullR, if_pos (by omega)]
              refine scan_cons.2 ⟨fe_0 h3 ⟨by show (1 : Int) ≤ ((n / 4 : Nat) : Int); omega, by show ((n / 4 : Nat) : Int) ≤ 1000; omega, by show (ah : Int) < ((n / 4 : Nat) : Int); omega, (fun h => by cases h), fun _ => rfl⟩ (fun h => hd4 h.2) (Nat.zero_le _), i2, ?_⟩
              rw [← i3]; exact j2
            · rw [fullR, if_pos (by omega), List.length_cons, List.length_append, j3, i3]; omega
          · rw [decG_bad hlt hv h1 h2 h3 hd4 ht h5 h6 h7] at hD
            exact absurd (congrArg Prod.fst hD) h7
        · rw [decG_item hlt hv h1 h2 h3 ht h5 (by omega)] at hD
          obtain ⟨L2, c2, e8⟩ : ∃ L2 c2, decG m s2 d (n / 4) (c + 1) = (0, L2, c2) := ⟨_, _, Prod.ext (show (decG m s2 d (n / 4) (c + 1)).1 = 0 from congrArg Prod.fst hD) rfl⟩
          rw [e8, cmb] at hD
          injection hD with _ hD
          injection hD with e1 e2
          simp only [Fo.app] at e1 e2
          subst e1 e2
          obtain ⟨j1, j2, j3⟩ := one_law m s2 d (n / 4) (c + 1) L2 c2 hr h5 hr2 hd1 hd e8
          refine ⟨?_, ?_, ?_⟩
          · rw [layL, if_neg (by simp), j1, hbytes, nf]
            have : n / 4 * 4 + (if 2 ≤ n % 4 then 2 else 0) = n := by split <;> omega
            rw [this]
            simp only [List.append_assoc]
          · rw [fullR, if_pos (by omega)]
            refine scan_cons.2 ⟨fe_0 h3 ⟨by show (1 : Int) ≤ ((n / 4 : Nat) : Int); omega, by show ((n / 4 : Nat) : Int) ≤ 1000; omega, by show (ah : Int) < ((n / 4 : Nat) : Int); omega, fun _ => rfl, (fun h => by cases h)⟩ (fun h => by cases h.1) b5, rfl, ?_⟩
            simpa [fullR] using j2
          · rw [fullR, if_pos (by omega), List.length_cons, List.length_append, j3]; simp only [fullR, List.length_nil]; omega
      · rw [decG_text hlt hv h1 h2 h3 h4 ht h5] at hD
        exact absurd (congrArg Prod.fst hD) h5
    · rw [decG_var hlt hv h1] at hD
      exact absurd (congrArg Prod.fst hD) h1
/-- What is read without an error is laid as it stood there. -/
theorem dec_one {bs : List UInt8} (h : (decT bs).1 = 0) : checkF (decT bs).2 = 0 ∧ layL (decT bs).2 = bs := by
  by_cases h4 : 4096 < bs.length
  · rw [decT_long h4] at h; cases h
  · obtain ⟨e, L, c, eR⟩ : ∃ e L c, decG (bs.length + 1) ⟨bs, 0, 0, none⟩ 1 0 0 = (e, L, c) := ⟨_, _, _, rfl⟩
    rw [decT_eq (by omega) eR] at h ⊢
    have he : e = 0 := h
    subst he
    show checkF L = 0 ∧ layL L = bs
    obtain ⟨h1, h2, h3⟩ := one_law (bs.length + 1) ⟨bs, 0, 0, none⟩ 1 0 0 L c (by show bs.length - 0 < _; omega) rfl (Nat.zero_le _) (by omega) (by omega) eR
    have h1' : layL L = bs := h1
    refine ⟨?_, h1'⟩
    have e0 : ((0 : Nat) : Int) = 0 := rfl
    rw [e0] at h2
    rw [checkF, h2, if_neg (by simp), h1', if_neg h4]
end Go.Proofs.Ytcffinkkfdfcaaa

/- What is put as a Hello, a Select, a Confirm is got as it was: plain data. Conditions: none. -/
namespace Go.Proofs.Ytcffinkkfdfcaaa
open Go Go.RowKit

theorem cr_scan : ∀ (l : List (List UInt8)) (k c : Nat) (ah : Int), (∀ b ∈ l, b.length ≤ 32) → c + l.length ≤ 64 → k + l.length ≤ 31 → ah ≤ k → scanF (fullR (crF k l) 1 ah) c = 0
  | [], _, _, _, _, _, _, _ => rfl
  | b :: l, k, c, ah, hb, hc, hk, ha => by
    have h1 : b.length ≤ 32 := hb b (by simp)
    have ih := cr_scan l (k + 1) (c + 1) ((k : Int) + 1) (fun x hx => hb x (by simp [hx])) (by simp at hc; omega) (by simp at hk; omega) (by omega)
    have hf : fe c ⟨(k : Int) + 1, true, false, b.length, 0, 1, ah⟩ = 0 := by
      simp only [List.length_cons] at hc hk
      unfold fe
      rw [if_neg (by omega), if_neg (by simp; omega), if_neg (by simp), if_neg (by show ¬ 4096 < b.length; omega)]
    rw [crF, fullR]
    simp only [fullR, Fo.len, if_pos (show (1 : Int) < 5 by decide), List.nil_append]
    rw [scanF, if_neg (by rw [hf]; simp)]
    exact ih
theorem cr_lay : ∀ (l : List (List UInt8)) (k : Nat), (∀ b ∈ l, b.length ≤ 32) → k + l.length ≤ 31 → (layL (crF k l)).length ≤ 34 * l.length
  | [], _, _, _ => by simp [crF, layL]
  | b :: l, k, hb, hk => by
    have h1 : b.length ≤ 32 := hb b (by simp)
    have ih := cr_lay l (k + 1) (fun x hx => hb x (by simp [hx])) (by simp at hk; omega)
    simp only [List.length_cons] at hk ⊢
    have hn : numI ((k : Int) + 1) true false < 128 := by unfold numI; simp; omega
    rw [crF, layL]
    simp only [Bool.false_eq_true, if_false, List.length_append]
    rw [varL_lo hn, varL_lo (show b.length < 128 by omega)]
    simp only [List.length_cons, List.length_nil]
    omega
theorem cr_check {l : List (List UInt8)} (hb : ∀ b ∈ l, b.length ≤ 32) (hl : l.length ≤ 31) : checkF (crF 0 l) = 0 := by
  have h1 := cr_scan l 0 0 0 hb (by omega) (by omega) (by omega)
  have h2 := cr_lay l 0 hb (by omega)
  unfold checkF
  rw [if_neg (by rw [h1]; simp), if_neg (by omega)]
theorem mem_kinds {n i : Nat} (h : i < n) : ((i : Int) + 1) ∈ kindsL n := by
  unfold kindsL
  exact List.mem_map.2 ⟨i, List.mem_range.2 h, by omega⟩
theorem not_kinds {n : Nat} {z : Int} (h : (n : Int) < z) : z ∉ kindsL n := by
  unfold kindsL
  intro hm
  obtain ⟨i, hi, e⟩ := List.mem_map.1 hm
  have := List.mem_range.1 hi
  omega
theorem cr_pick (n : Nat) : ∀ (l : List (List UInt8)) (k : Nat), k + l.length ≤ n → pickF (kindsL n) (crF k l) = crF k l ∧ critF (kindsL n) (crF k l) = false
  | [], _, _ => ⟨rfl, rfl⟩
  | b :: l, k, hk => by
    obtain ⟨i1, i2⟩ := cr_pick n l (k + 1) (by simp at hk; omega)
    have hm : ((k : Int) + 1) ∈ kindsL n := mem_kinds (by simp at hk; omega)
    rw [crF, pickF, critF, if_pos hm, i1, i2, decide_eq_true hm]
    exact ⟨rfl, rfl⟩
theorem cr_get : ∀ (l : List (List UInt8)) (k i : Nat) (hi : i < l.length), hasI ((k + i + 1 : Nat) : Int) (crF k l) = true ∧ getI ((k + i + 1 : Nat) : Int) (crF k l) = .cons ((k + i : Nat) + 1) true false l[i] .nil .nil
  | b :: l, k, 0, _ => by
    rw [crF, hasI, getI, if_pos (by omega), if_pos (by omega)]
    exact ⟨rfl, rfl⟩
  | b :: l, k, i + 1, hi => by
    obtain ⟨h1, h2⟩ := cr_get l (k + 1) i (by simpa using hi)
    rw [crF, hasI, getI, if_neg (by omega), if_neg (by omega)]
    rw [show k + (i + 1) + 1 = k + 1 + i + 1 by omega]
    refine ⟨h1, ?_⟩
    rw [h2, show k + (i + 1) = k + 1 + i by omega]
    rfl
/-- The walk over such items, at place i. -/
theorem by_cr {l : List (List UInt8)} {i n : Nat} (hi : i < l.length) (hn : l[i].length = n) : byS ⟨crF 0 l, i, 0⟩ n = ⟨crF 0 l, i + 1, 0⟩ ∧ byB ⟨crF 0 l, i, 0⟩ n = l[i] := by
  obtain ⟨h1, h2⟩ := cr_get l 0 i hi
  rw [Nat.zero_add] at h1 h2
  have hb : nxB ⟨crF 0 l, i, 0⟩ = true := by unfold nxB; rw [if_pos rfl]; exact h1
  have hI : nxI ⟨crF 0 l, i, 0⟩ = .cons ((i : Nat) + 1) true false l[i] .nil .nil := by unfold nxI; rw [if_pos rfl]; exact h2
  have hl : itL (nxI ⟨crF 0 l, i, 0⟩) = false := by rw [hI]; rfl
  have hbs : itB (nxI ⟨crF 0 l, i, 0⟩) = l[i] := by rw [hI]; rfl
  refine ⟨?_, by rw [byB, if_pos ⟨hb, hl, by rw [hbs]; exact hn⟩, hbs]⟩
  rw [byS, if_pos hb, hl, hbs, decide_eq_true hn]
  have h0 : nxS (⟨crF 0 l, i, 0⟩ : FS) true = ⟨crF 0 l, i + 1, 0⟩ := by
    unfold nxS
    rw [if_neg (by rw [hb]; simp)]
  rw [h0]
  rfl
theorem enc_lay {f : Fo} (h : checkF f = 0) : encF f = layL f := by unfold encF; rw [if_pos h]
theorem opS_enc {f : Fo} (h : checkF f = 0) (K : Nat) : opS (encF f) K = ⟨(pickT (kindsL K) f).2, 0, (pickT (kindsL K) f).1⟩ := by
  rw [enc_lay h]
  unfold opS knS
  rw [dec_back h, if_neg (by simp)]
/-- Such items and behind them one that isn't known. -/
theorem opS_cr {l : List (List UInt8)} {f : Fo} (h : checkF f = 0) (hp : pickT (kindsL l.length) f = (0, crF 0 l)) : opS (encF f) l.length = ⟨crF 0 l, 0, 0⟩ := by rw [opS_enc h, hp]
theorem cr_pickT (l : List (List UInt8)) : pickT (kindsL l.length) (crF 0 l) = (0, crF 0 l) := by
  obtain ⟨h1, h2⟩ := cr_pick l.length l 0 (by omega)
  unfold pickT
  rw [h1, h2]; rfl
theorem cr_opS {l : List (List UInt8)} (hb : ∀ b ∈ l, b.length ≤ 32) (hl : l.length ≤ 31) : opS (encF (crF 0 l)) l.length = ⟨crF 0 l, 0, 0⟩ := opS_cr (cr_check hb hl) (cr_pickT l)
theorem enc_len {l : List (List UInt8)} (hb : ∀ b ∈ l, b.length ≤ 32) (hl : l.length ≤ 31) : (encF (crF 0 l)).length ≤ 34 * l.length := by
  rw [enc_lay (cr_check hb hl)]; exact cr_lay l 0 hb (by omega)
theorem one_num {mx : Int} (h : offI mx = true) (s : FS) (hs : byB s 1 = numL mx.toNat 1) : (oneN s : Int) = mx ∧ offB (oneN s) = true := by
  obtain ⟨h1, h2⟩ := of_decide_eq_true h
  have e : oneN s = mx.toNat := by
    unfold oneN
    rw [hs]
    show (lo (mx.toNat / 1)).toNat = _
    rw [lo_nat]; omega
  rw [e]
  refine ⟨by omega, ?_⟩
  unfold offB
  exact decide_eq_true (by omega)
theorem four_num {ft : Nat} (h : ft < 4294967296) (s : FS) (hs : byB s 4 = numL ft 4) : fourN s = ft := by
  unfold fourN
  rw [hs, beN_num]
  exact Nat.mod_eq_of_lt (by simpa using h)
/-- A Hello that lies in a walk's list. -/
theorem hel_at {bs : List UInt8} {mx : Int} {ft : Nat} {l : List UInt8} (hx : offI mx = true) (hf : ft < 4294967296) (hl : l.length = 16) (h : opS bs 3 = ⟨crF 0 [numL mx.toNat 1, numL ft 4, l], 0, 0⟩) :
    helE bs = 0 ∧ (helR bs).val = .agg (helI mx ft l) := by
  obtain ⟨a1, a2⟩ := by_cr (l := [numL mx.toNat 1, numL ft 4, l]) (i := 0) (n := 1) (by simp) (numL_length _ _)
  obtain ⟨b1, b2⟩ := by_cr (l := [numL mx.toNat 1, numL ft 4, l]) (i := 1) (n := 4) (by simp) (numL_length _ _)
  obtain ⟨c1, c2⟩ := by_cr (l := [numL mx.toNat 1, numL ft 4, l]) (i := 2) (n := 16) (by simp) hl
  have s1 : helS1 bs = ⟨crF 0 [numL mx.toNat 1, numL ft 4, l], 0, 0⟩ := h
  have s2 : helS2 bs = ⟨crF 0 [numL mx.toNat 1, numL ft 4, l], 1, 0⟩ := by rw [helS2, s1, a1]
  have s3 : helS3 bs = ⟨crF 0 [numL mx.toNat 1, numL ft 4, l], 2, 0⟩ := by rw [helS3, s2, b1]
  have s4 : helS4 bs = ⟨crF 0 [numL mx.toNat 1, numL ft 4, l], 3, 0⟩ := by rw [helS4, s3, c1]
  obtain ⟨o1, o2⟩ := one_num hx (helS1 bs) (by rw [s1, a2]; rfl)
  have o3 := four_num hf (helS2 bs) (by rw [s2, b2]; rfl)
  have o4 : byB (helS3 bs) 16 = l := by rw [s3, c2]; rfl
  have hE : helE bs = 0 := by rw [helE, helS5, o2, s4]; rfl
  refine ⟨hE, ?_⟩
  rw [helR, if_pos hE]
  unfold Hel.val helV helC helI
  dsimp only
  rw [o1, o3, o4]
theorem hel_lens {mx : Int} {ft : Nat} {l : List UInt8} (hl : l.length = 16) : ∀ b ∈ [numL mx.toNat 1, numL ft 4, l], b.length ≤ 32 := by
  intro b hb
  simp only [List.mem_cons, List.not_mem_nil, or_false] at hb
  rcases hb with rfl | rfl | rfl
  · rw [numL_length]; decide
  · rw [numL_length]; decide
  · omega
theorem hel_back {mx : Int} {ft : Nat} {l : List UInt8} (hf : ft < 4294967296) (hl : l.length = 16) (h : (putH mx ft l).1 = 0) : helE (putH mx ft l).2 = 0 ∧ (helR (putH mx ft l).2).val = .agg (helI mx ft l) ∧ (putH mx ft l).2.length ≤ 512 := by
  have hx : offI mx = true := by
    unfold putH at h
    split at h
    · assumption
    · cases h
  have e : (putH mx ft l).2 = encF (crF 0 [numL mx.toNat 1, numL ft 4, l]) := by unfold putH; rw [if_pos hx]
  rw [e]
  obtain ⟨h1, h2⟩ := hel_at hx hf hl (cr_opS (hel_lens hl) (by simp))
  exact ⟨h1, h2, Nat.le_trans (enc_len (hel_lens hl) (by simp)) (by simp)⟩
theorem sel_lens {v mx : Int} {f1 f2 : Nat} {l m : List UInt8} (hl : l.length = 16) (hm : m.length = 32) : ∀ b ∈ selL v f1 mx f2 l m, b.length ≤ 32 := by
  intro b hb
  simp only [selL, List.mem_cons, List.not_mem_nil, or_false] at hb
  rcases hb with rfl | rfl | rfl | rfl | rfl | rfl
  · rw [numL_length]; decide
  · rw [numL_length]; decide
  · rw [numL_length]; decide
  · rw [numL_length]; decide
  · omega
  · omega
theorem one_may {v : Int} (h1 : 1 ≤ v) (h2 : v ≤ 3) (s : FS) (hs : byB s 1 = numL v.toNat 1) : (oneN s : Int) = v := (one_num (mx := v) (decide_eq_true ⟨h1, h2⟩) s hs).1
theorem sel_back {v mx : Int} {f1 f2 : Nat} {l m : List UInt8} (h1 : f1 < 4294967296) (h2 : f2 < 4294967296) (hl : l.length = 16) (hm : m.length = 32) (h : (putS v f1 mx f2 l m).1 = 0) :
    selE (putS v f1 mx f2 l m).2 = 0 ∧ (selR (putS v f1 mx f2 l m).2).val = .agg (selI v f1 mx f2 l m) ∧ (putS v f1 mx f2 l m).2.length ≤ 512 := by
  have hx : (mayF v f1 && offI mx) = true := by
    unfold putS at h
    split at h
    · assumption
    · cases h
  have e : (putS v f1 mx f2 l m).2 = encF (crF 0 (selL v f1 mx f2 l m)) := by unfold putS; rw [if_pos hx]
  rw [e]
  obtain ⟨hx1, hx2⟩ := Bool.and_eq_true _ _ ▸ hx
  have hv := mayF_in hx1
  have h0 := cr_opS (sel_lens (v := v) (mx := mx) (f1 := f1) (f2 := f2) hl hm) (by show (6 : Nat) ≤ 31; decide)
  obtain ⟨bs, ebs⟩ : ∃ bs, encF (crF 0 (selL v f1 mx f2 l m)) = bs := ⟨_, rfl⟩
  obtain ⟨L, eL⟩ : ∃ L, selL v f1 mx f2 l m = L := ⟨_, rfl⟩
  have hlen := enc_len (sel_lens (v := v) (mx := mx) (f1 := f1) (f2 := f2) hl hm) (by show (6 : Nat) ≤ 31; decide)
  rw [ebs] at h0 hlen ⊢
  rw [show (selL v f1 mx f2 l m).length = 6 from rfl] at h0 hlen
  have L6 : L.length = 6 := by rw [← eL]; rfl
  rw [eL] at h0
  have g0 : L[0] = numL v.toNat 1 := by simp [← eL, selL]
  have g1 : L[1] = numL f1 4 := by simp [← eL, selL]
  have g2 : L[2] = numL mx.toNat 1 := by simp [← eL, selL]
  have g3 : L[3] = numL f2 4 := by simp [← eL, selL]
  have g4 : L[4] = l := by simp [← eL, selL]
  have g5 : L[5] = m := by simp [← eL, selL]
  obtain ⟨a1, a2⟩ := by_cr (l := L) (i := 0) (n := 1) (by omega) (by rw [g0]; exact numL_length _ _)
  obtain ⟨b1, b2⟩ := by_cr (l := L) (i := 1) (n := 4) (by omega) (by rw [g1]; exact numL_length _ _)
  obtain ⟨c1, c2⟩ := by_cr (l := L) (i := 2) (n := 1) (by omega) (by rw [g2]; exact numL_length _ _)
  obtain ⟨d1, d2⟩ := by_cr (l := L) (i := 3) (n := 4) (by omega) (by rw [g3]; exact numL_length _ _)
  obtain ⟨p1, p2⟩ := by_cr (l := L) (i := 4) (n := 16) (by omega) (by rw [g4]; exact hl)
  obtain ⟨q1, q2⟩ := by_cr (l := L) (i := 5) (n := 32) (by omega) (by rw [g5]; exact hm)
  have s1 : selS1 bs = ⟨crF 0 L, 0, 0⟩ := h0
  have s2 : selS2 bs = ⟨crF 0 L, 1, 0⟩ := by rw [selS2, s1, a1]
  have s3 : selS3 bs = ⟨crF 0 L, 2, 0⟩ := by rw [selS3, s2, b1]
  have s4 : selS4 bs = ⟨crF 0 L, 3, 0⟩ := by rw [selS4, s3, c1]
  have s5 : selS5 bs = ⟨crF 0 L, 4, 0⟩ := by rw [selS5, s4, d1]
  have s6 : selS6 bs = ⟨crF 0 L, 5, 0⟩ := by rw [selS6, s5, p1]
  have s7 : selS7 bs = ⟨crF 0 L, 6, 0⟩ := by rw [selS7, s6, q1]
  have o1 := one_may hv.1 hv.2 (selS1 bs) (by rw [s1, a2, g0])
  have o2 := four_num h1 (selS2 bs) (by rw [s2, b2, g1])
  obtain ⟨o3, o3b⟩ := one_num hx2 (selS3 bs) (by rw [s3, c2, g2])
  have o4 := four_num h2 (selS4 bs) (by rw [s4, d2, g3])
  have o5 : byB (selS5 bs) 16 = l := by rw [s5, p2, g4]
  have o6 : byB (selS6 bs) 32 = m := by rw [s6, q2, g5]
  have hB : selB bs = true := by rw [selB, o1, o2, hx1, o3b]; rfl
  have hE : selE bs = 0 := by rw [selE, selS8, hB, s7]; rfl
  refine ⟨hE, ?_, Nat.le_trans hlen (by decide)⟩
  rw [selR, if_pos hE]
  unfold Sel.val selC selI
  dsimp only
  rw [o1, o2, o3, o4, o5, o6]
theorem con_back {l : List UInt8} (hl : l.length = 32) : conE (encF (crF 0 [l])) = 0 ∧ conT (encF (crF 0 [l])) = l := by
  have hb : ∀ b ∈ [l], b.length ≤ 32 := by intro b hb; simp at hb; rw [hb, hl]; decide
  have h0 := cr_opS hb (by simp)
  obtain ⟨bs, ebs⟩ : ∃ bs, encF (crF 0 [l]) = bs := ⟨_, rfl⟩
  rw [ebs] at h0 ⊢
  obtain ⟨a1, a2⟩ := by_cr (l := [l]) (i := 0) (n := 32) (by simp) hl
  have h1 : opS bs 1 = ⟨crF 0 [l], 0, 0⟩ := h0
  have hE : conE bs = 0 := by rw [conE, conS, h1, a1]
  exact ⟨hE, by rw [conT, if_pos hE, h1, a2]; rfl⟩
end Go.Proofs.Ytcffinkkfdfcaaa
