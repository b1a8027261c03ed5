/- Parts one behind the other: What body.list and the reference's critical lay: critical items of the kinds 1 and up; What PutConfirm and PutHello lay; What PutHello and the reference's PutHello lay; What the reference's PutHello lays; What the reference's May of a choice answers; What PutSelect lays; How a law's arguments are opened: a Hello and a Select, by value; What the reference's GetSelect answers. Conditions: as told at each. -/
import Derived.Test.YtcffinkkfdfcaaaPBodyGets7
import Derived.Test.YtcffinkkfdfcaaaPBodyGets8
import Derived.Test.YtcffinkkfdfcaaaPBodyGets1
import Derived.Test.YtcffinkkfdfcaaaPBodyGets9
import Derived.Test.YtcffinkkfdfcaaaPBodyGets2

/- What body.list and the reference's critical lay: critical items of the kinds 1 and up. Conditions: texts that can be read. -/
namespace Go.Proofs.Ytcffinkkfdfcaaa
open Go Go.RowKit

/-- Critical items of the kinds from k + 1 on. -/
def crF : Nat → List (List UInt8) → Fo
  | _, [] => .nil
  | k, b :: l => .cons ((k : Int) + 1) true false b .nil (crF (k + 1) l)
theorem crF_snoc (b : List UInt8) : ∀ (l : List (List UInt8)) (k : Nat), crF k (l ++ [b]) = (crF k l).app (.cons (((k + l.length : Nat) : Int) + 1) true false b .nil .nil)
  | [], k => by simp [crF, Fo.app]
  | x :: l, k => by
    rw [List.cons_append, crF, crF, Fo.app, crF_snoc b l (k + 1)]
    rw [show k + 1 + l.length = k + (x :: l).length by simp; omega]
theorem crF_take {l : List (List UInt8)} {q : Nat} (h : q < l.length) : crF 0 (l.take (q + 1)) = (crF 0 (l.take q)).app (.cons ((q : Int) + 1) true false l[q] .nil .nil) := by
  rw [List.take_succ_eq_append_getElem h, crF_snoc, Nat.zero_add, List.length_take, Nat.min_eq_left (Nat.le_of_lt h)]
theorem crF_len : ∀ (l : List (List UInt8)) (k : Nat), (crF k l).len = l.length
  | [], _ => rfl
  | _ :: l, k => by rw [crF, Fo.len, crF_len l]; rfl
theorem RdS.item {w : World} {A : Option Addr} {bss : List (List UInt8)} (h : RdS w A bss) (hb : ∀ b ∈ bss, b.length ≤ 4096) {q : Nat} (hq : q < bss.length) : ∃ b off Ak ck, A = some ⟨b, off, none⟩ ∧ b < w.heap.size ∧ w.cell? ⟨b, off + q, none⟩ = some (.slice Ak bss[q].length ck) ∧ TxtR (· < w.heap.size) w Ak bss[q].length ck bss[q] := by
  obtain ⟨b, off, e, hlt, hc⟩ := h.addr (by omega)
  obtain ⟨Ak, ck, h1, h2, h3, h4⟩ := hc q hq
  have hm := hb bss[q] (List.getElem_mem hq)
  refine ⟨b, off, Ak, ck, e, hlt, h1, rfl, h2, h3, h4, fun h0 a ea => ?_, by omega⟩
  obtain ⟨b', o', e', hb', _⟩ := h2.addr (by rw [List.length_map]; exact h0)
  rw [ea] at e'
  injection e' with e'
  rw [e']; exact hb'
set_option maxRecDepth 100000 in
set_option maxHeartbeats 4000000 in
theorem listB_c (A : Option Addr) (n c : Nat) (bss : List (List UInt8)) (w : World) (hn : bss.length = n) (hr : RdS w A bss) (hk : n ≤ 60) (hb : ∀ b ∈ bss, b.length ≤ 4096) :
    Calls Try.prog 43 #[.slice A n c] w fun r w' => ∃ v, r = .returned v ∧ OwnB w' w.heap.size v (encF (crF 0 bss)) ∧ Below w.heap.size w w' := by
  have HN := Lib.hid hn
  have HR := Lib.hid hr
  have HB := Lib.hid hb
  clear hn hr hb
  go_enter Try.func43, Try.ntmps43
  go_wp2_with (fail)
  go_loopw [3, 10] (fun v i wr => ∃ (q : Nat) (ds : List ItV), q ≤ n ∧ i = .int .i64 q ∧ Hid (FoQ wr w.heap.size v ds (crF 0 (bss.take q))) ∧ Hid (ds.length = q) ∧ Hid (Below w.heap.size w wr)) (fun _ i _ => n - (intOf i).toNat)
  case atStart => exact ⟨0, [], by omega, rfl, Lib.hid ⟨World.ownsRow_nil _ _ _ _, rfl⟩, Lib.hid rfl, Lib.hid (Below.refl _ _)⟩
  case round =>
    obtain ⟨q, ds, hq, rfl, HQ, HD, HK⟩ := hrel
    have hz : w.heap.size ≤ wr.heap.size := HK.out.size
    by_cases hlt : q < n
    · have hlt' : (q : Int) < (n : Int) := by omega
      have hqb : q < bss.length := by rw [HN.out]; exact hlt
      obtain ⟨b, off, Ak, ck, rfl, hbb, hc, ht⟩ := HR.out.item HB.out hqb
      have hc2 : wr.cell? ⟨b, off + q, none⟩ = some (.slice Ak bss[q].length ck) := (HK.out.cell (p := ⟨b, _, none⟩) hbb).trans hc
      obtain ⟨m, em⟩ : ∃ m, bss[q].length = m := ⟨_, rfl⟩
      obtain ⟨t, et⟩ : ∃ t, bss[q] = t := ⟨_, rfl⟩
      have hnx := crF_take hqb
      rw [em] at hc2 ht
      rw [et] at ht hnx
      have HNX := Lib.hid hnx
      have IT : Hid (ItsR (fun j => u3.ownBlock ≠ some j) wr [⟨(q : Int) + 1, true, false, Ak, m, ck, none, 0, 0⟩] (.cons ((q : Int) + 1) true false t .nil .nil)) := Lib.hid (item_old ((ht.frame (fun j hj _ => HK.out.block j hj) HK.out.size).weak (fun j (hj : j < w.heap.size) _ e => by have := (HQ.out.row.lt j e).1; omega)) _ _)
      have HDL : Hid (ds.length ≤ 1000) := Lib.hid (by rw [HD.out]; omega)
      clear hnx hc ht em et hqb
      go_wp2_with (first | (at_builtin; refine wpList_item wr rfl (.tmp 15) (.tmp 20) rfl w.heap.size u3 ds _ rfl HQ.out _ ⟨(q : Int) + 1, true, false, Ak, m, ck, none, 0, 0⟩ rfl rfl _ IT.out HDL.out hz ?_; intro v5 w5 hq5 hb5; have HQ5 := Lib.hid hq5; have HK5 := Lib.hid (HK.out.trans hb5); clear hq5 hb5))
      go_roundw
      case rel => exact ⟨q + 1, _, by omega, by go_num, Lib.hid (by rw [HNX.out]; exact HQ5.out), Lib.hid (by rw [List.length_append, HD.out]; rfl), HK5⟩
      case measure => simp [intOf]; omega
    · obtain rfl : n = q := by omega
      have HQ' : Hid (FoQ wr w.heap.size u3 ds (crF 0 bss)) := Lib.hid (by have := HQ.out; rw [← HN.out, List.take_length] at this; exact this)
      obtain ⟨A6, c6, rfl, _, _, r6⟩ := HQ'.out.form (n := n) (by rw [crF_len, HN.out])
      have R6 := Lib.hid r6
      clear r6
      go_wp2_with (fail)
      refine (EncodeT_c (crF 0 bss) (fun _ => True) A6 n c6 wr (by rw [crF_len, HN.out]) R6.out (by omega)).mono ?_
      rintro _ w7 ⟨x, rfl, ho, hb⟩
      have HO := Lib.hid (Own.low ho hz)
      have HB7 := Lib.hid (HK.out.trans (hb.mono hz))
      clear ho hb
      go_wp2_with (fail)
      go_ret
      exact ⟨_, rfl, HO.out, HB7.out⟩
set_option maxRecDepth 100000 in
set_option maxHeartbeats 4000000 in
theorem critical_c (A : Option Addr) (n c : Nat) (bss : List (List UInt8)) (w : World) (hn : bss.length = n) (hr : RdS w A bss) (hk : n ≤ 60) (hb : ∀ b ∈ bss, b.length ≤ 4096) :
    Calls Try.prog 44 #[.slice A n c] w fun r w' => ∃ v, r = .returned v ∧ OwnB w' w.heap.size v (encF (crF 0 bss)) ∧ Below w.heap.size w w' := by
  have HN := Lib.hid hn
  have HR := Lib.hid hr
  have HB := Lib.hid hb
  clear hn hr hb
  go_enter Try.func44, Try.ntmps44
  go_wp2_with (fail)
  go_loopw [3, 10] (fun v i wr => ∃ (q : Nat) (ds : List ItV), q ≤ n ∧ i = .int .i64 q ∧ Hid (FoQ wr w.heap.size v ds (crF 0 (bss.take q))) ∧ Hid (ds.length = q) ∧ Hid (Below w.heap.size w wr)) (fun _ i _ => n - (intOf i).toNat)
  case atStart => exact ⟨0, [], by omega, rfl, Lib.hid ⟨World.ownsRow_made w #[] 0 (Nat.le_refl _) (Nat.zero_le _) rfl, rfl⟩, Lib.hid rfl, Lib.hid ((Below.refl _ _).alloc (Nat.le_refl _) _)⟩
  case round =>
    obtain ⟨q, ds, hq, rfl, HQ, HD, HK⟩ := hrel
    have hz : w.heap.size ≤ wr.heap.size := HK.out.size
    by_cases hlt : q < n
    · have hlt' : (q : Int) < (n : Int) := by omega
      have hqb : q < bss.length := by rw [HN.out]; exact hlt
      obtain ⟨b, off, Ak, ck, rfl, hbb, hc, ht⟩ := HR.out.item HB.out hqb
      have hc2 : wr.cell? ⟨b, off + q, none⟩ = some (.slice Ak bss[q].length ck) := (HK.out.cell (p := ⟨b, _, none⟩) hbb).trans hc
      obtain ⟨m, em⟩ : ∃ m, bss[q].length = m := ⟨_, rfl⟩
      obtain ⟨t, et⟩ : ∃ t, bss[q] = t := ⟨_, rfl⟩
      have hnx := crF_take hqb
      rw [em] at hc2 ht
      rw [et] at ht hnx
      have HNX := Lib.hid hnx
      have IT : Hid (ItsR (fun j => u3.ownBlock ≠ some j) wr [⟨(q : Int) + 1, true, false, Ak, m, ck, none, 0, 0⟩] (.cons ((q : Int) + 1) true false t .nil .nil)) := Lib.hid (item_old ((ht.frame (fun j hj _ => HK.out.block j hj) HK.out.size).weak (fun j (hj : j < w.heap.size) _ e => by have := (HQ.out.row.lt j e).1; omega)) _ _)
      have HDL : Hid (ds.length ≤ 1000) := Lib.hid (by rw [HD.out]; omega)
      clear hnx hc ht em et hqb
      go_wp2_with (first | (at_builtin; refine wpList_item wr rfl (.tmp 13) (.tmp 21) rfl w.heap.size u3 ds _ rfl HQ.out _ ⟨(q : Int) + 1, true, false, Ak, m, ck, none, 0, 0⟩ rfl rfl _ IT.out HDL.out hz ?_; intro v5 w5 hq5 hb5; have HQ5 := Lib.hid hq5; have HK5 := Lib.hid (HK.out.trans hb5); clear hq5 hb5))
      go_roundw
      case rel => exact ⟨q + 1, _, by omega, by go_num, Lib.hid (by rw [HNX.out]; exact HQ5.out), Lib.hid (by rw [List.length_append, HD.out]; rfl), HK5⟩
      case measure => simp [intOf]; omega
    · obtain rfl : n = q := by omega
      have HQ' : Hid (FoQ wr w.heap.size u3 ds (crF 0 bss)) := Lib.hid (by have := HQ.out; rw [← HN.out, List.take_length] at this; exact this)
      obtain ⟨A6, c6, rfl, _, _, r6⟩ := HQ'.out.form (n := n) (by rw [crF_len, HN.out])
      have R6 := Lib.hid r6
      clear r6
      go_wp2_with (fail)
      refine (refEncodeT_c (crF 0 bss) (fun _ => True) A6 n c6 wr (by rw [crF_len, HN.out]) R6.out (by omega)).mono ?_
      rintro _ w7 ⟨x, rfl, ho, hb⟩
      have HO := Lib.hid (Own.low ho hz)
      have HB7 := Lib.hid (HK.out.trans (hb.mono hz))
      clear ho hb
      go_wp2_with (fail)
      go_ret
      exact ⟨_, rfl, HO.out, HB7.out⟩
end Go.Proofs.Ytcffinkkfdfcaaa

/- What PutConfirm and PutHello lay. Conditions: arrays of bytes of their lengths. -/
namespace Go.Proofs.Ytcffinkkfdfcaaa
open Go Go.RowKit

theorem a32_rd (w : World) (l : List UInt8) (t : TypeId) : Rd (w.alloc (.cells (a32C l) t)) (some ⟨w.heap.size, 0, none⟩) (l.map bv) := Rd.lit w (l.map bv) t
set_option maxRecDepth 100000 in
set_option maxHeartbeats 4000000 in
theorem PutConfirm_c (l : List UInt8) (h : l.length = 32) (w : World) :
    Calls Try.prog 19 #[.agg (a32C l)] w fun r w' => ∃ v, r = .returned v ∧ OwnB w' w.heap.size v (encF (crF 0 [l])) ∧ Below w.heap.size w w' := by
  obtain ⟨w1, ew1⟩ : ∃ w1, w1 = w.alloc (.cells (a32C l) 47) := ⟨_, rfl⟩
  obtain ⟨gr, egr⟩ : ∃ gr, gr = w.heap.size := ⟨_, rfl⟩
  have b1 : Below w.heap.size w w1 := by rw [ew1]; exact (Below.refl _ _).alloc (Nat.le_refl _) _
  have HR1 : Hid (Rd w1 (some ⟨gr, 0, none⟩) (l.map bv)) := Lib.hid (by rw [ew1, egr]; exact a32_rd w l _)
  have HB1 := Lib.hid b1
  have HL := Lib.hid h
  have EW1 := Lib.hid ew1
  have EGR := Lib.hid egr
  clear ew1 egr b1 h
  go_enter Try.func19, Try.ntmps19
  go_upto_region 1 with (fail)
  rw [← EW1.out, ← EGR.out]
  go_wp2_with (fail)
  refine (listB_c (some ⟨w1.heap.size, 0, none⟩) 1 1 [l] _ rfl (RdS_one w1 _ 32 32 l _ HL.out HR1.out (Nat.le_refl _) (by decide)) (by decide) (by intro b hb; rw [List.mem_singleton.1 hb, HL.out]; decide)).mono ?_
  rintro _ w2 ⟨v, rfl, ho, hb⟩
  have b2 : Below w1.heap.size w1 (w1.alloc (.cells #[.slice (some ⟨gr, 0, none⟩) 32 32] 25)) := (Below.refl _ _).alloc (Nat.le_refl _) _
  have hz : w.heap.size ≤ w1.heap.size := HB1.out.size
  have HO := Lib.hid (Own.low ho (Nat.le_trans hz b2.size))
  have HB2 := Lib.hid ((HB1.out.trans (b2.mono hz)).trans (hb.mono (Nat.le_trans hz b2.size)))
  clear ho hb b2 hz
  go_wp2_with (fail)
  go_ret
  exact ⟨_, rfl, HO.out, HB2.out⟩
set_option maxRecDepth 100000 in
set_option maxHeartbeats 4000000 in
theorem refPutConfirm_c (l : List UInt8) (h : l.length = 32) (w : World) :
    Calls Try.prog 20 #[.agg (a32C l)] w fun r w' => ∃ v, r = .returned v ∧ OwnB w' w.heap.size v (encF (crF 0 [l])) ∧ Below w.heap.size w w' := by
  obtain ⟨w1, ew1⟩ : ∃ w1, w1 = w.alloc (.cells (a32C l) 47) := ⟨_, rfl⟩
  obtain ⟨gr, egr⟩ : ∃ gr, gr = w.heap.size := ⟨_, rfl⟩
  have b1 : Below w.heap.size w w1 := by rw [ew1]; exact (Below.refl _ _).alloc (Nat.le_refl _) _
  have HR1 : Hid (Rd w1 (some ⟨gr, 0, none⟩) (l.map bv)) := Lib.hid (by rw [ew1, egr]; exact a32_rd w l _)
  have HB1 := Lib.hid b1
  have HL := Lib.hid h
  have EW1 := Lib.hid ew1
  have EGR := Lib.hid egr
  clear ew1 egr b1 h
  go_enter Try.func20, Try.ntmps20
  go_upto_region 1 with (fail)
  rw [← EW1.out, ← EGR.out]
  go_wp2_with (fail)
  refine (critical_c (some ⟨w1.heap.size, 0, none⟩) 1 1 [l] _ rfl (RdS_one w1 _ 32 32 l _ HL.out HR1.out (Nat.le_refl _) (by decide)) (by decide) (by intro b hb; rw [List.mem_singleton.1 hb, HL.out]; decide)).mono ?_
  rintro _ w2 ⟨v, rfl, ho, hb⟩
  have b2 : Below w1.heap.size w1 (w1.alloc (.cells #[.slice (some ⟨gr, 0, none⟩) 32 32] 25)) := (Below.refl _ _).alloc (Nat.le_refl _) _
  have hz : w.heap.size ≤ w1.heap.size := HB1.out.size
  have HO := Lib.hid (Own.low ho (Nat.le_trans hz b2.size))
  have HB2 := Lib.hid ((HB1.out.trans (b2.mono hz)).trans (hb.mono (Nat.le_trans hz b2.size)))
  clear ho hb b2 hz
  go_wp2_with (fail)
  go_ret
  exact ⟨_, rfl, HO.out, HB2.out⟩
/-- A Hello's cells, its greatest version any number. -/
def helI (mx : Int) (ft : Nat) (l : List UInt8) : Array Value := (.int .i64 mx :: .int .u32 (ft : Int) :: l.map bv).toArray
def offI (mx : Int) : Bool := decide (1 ≤ mx ∧ mx ≤ 3)
theorem offerMayI_c (mx : Int) (ft : Nat) (w : World) :
    Calls Try.prog 42 #[.agg #[.int .i64 mx, .int .u32 (ft : Int)]] w fun r w' => r = .returned (.bool (offI mx)) ∧ Below w.heap.size w w' := by
  have kb : Below w.heap.size w (w.alloc (.cells #[.int .i64 mx, .int .u32 (ft : Int)] 41)) := (Below.refl _ _).alloc (Nat.le_refl _) _
  by_cases h1 : 1 ≤ mx
  · by_cases h3 : mx ≤ 3
    · have e : offI mx = true := decide_eq_true ⟨h1, h3⟩
      rw [e]; clear e
      have d1 : decide ((1 : Int) ≤ mx) = true := decide_eq_true (by omega)
      have d3 : decide (mx ≤ 3) = true := decide_eq_true (by omega)
      go_enter Try.func42, Try.ntmps42
      go_wp2
      go_ret
      exact ⟨rfl, kb⟩
    · have e : offI mx = false := decide_eq_false (by omega)
      rw [e]; clear e
      have d1 : decide ((1 : Int) ≤ mx) = true := decide_eq_true (by omega)
      have d3 : decide (mx ≤ 3) = false := decide_eq_false (by omega)
      go_enter Try.func42, Try.ntmps42
      go_wp2
      go_ret
      exact ⟨rfl, kb⟩
  · have e : offI mx = false := decide_eq_false (by omega)
    rw [e]; clear e
    have d1 : decide ((1 : Int) ≤ mx) = false := decide_eq_false (by omega)
    go_enter Try.func42, Try.ntmps42
    go_wp2
    go_ret
    exact ⟨rfl, kb⟩
end Go.Proofs.Ytcffinkkfdfcaaa

/- What PutHello and the reference's PutHello lay. Conditions: features of their kind; a nonce of sixteen bytes. -/
namespace Go.Proofs.Ytcffinkkfdfcaaa
open Go Go.RowKit

theorem nm1 (n : Nat) : numLI n 1 = numL n 1 := by unfold numLI; rw [if_pos (by decide)]; rfl
theorem numL_one (n : Nat) : numL n 1 = [lo n] := by simp [numL]
def putH (mx : Int) (ft : Nat) (l : List UInt8) : Int × List UInt8 := if offI mx = true then (0, encF (crF 0 [numL mx.toNat 1, numL ft 4, l])) else (1, [])
theorem helI_rd {w : World} {g : Nat} {mx : Int} {ft : Nat} {l : List UInt8} {t : TypeId} (h : w.heap[g]? = some (.cells (helI mx ft l) t (0, 0))) : Rd w (some ⟨g, 2, none⟩) (l.map bv) := by
  refine .inr ⟨g, 2, rfl, heap_lt h, fun k hk => ?_⟩
  rw [heap_cell h, helI, List.getElem?_toArray, show 2 + k = k + 1 + 1 by omega, List.getElem?_cons_succ, List.getElem?_cons_succ, List.getElem?_eq_getElem hk]
theorem rds3 (w : World) {A0 A1 A2 : Option Addr} {n0 n1 n2 c0 c1 c2 : Nat} {b0 b1 b2 : List UInt8} (h0 : b0.length = n0 ∧ Rd w A0 (b0.map bv) ∧ n0 ≤ c0 ∧ c0 ≤ maxLen) (h1 : b1.length = n1 ∧ Rd w A1 (b1.map bv) ∧ n1 ≤ c1 ∧ c1 ≤ maxLen) (h2 : b2.length = n2 ∧ Rd w A2 (b2.map bv) ∧ n2 ≤ c2 ∧ c2 ≤ maxLen) :
    RdS (w.alloc (.cells #[.slice A0 n0 c0, .slice A1 n1 c1, .slice A2 n2 c2] 25)) (some ⟨w.heap.size, 0, none⟩) [b0, b1, b2] :=
  RdS_lit w [(A0, n0, c0), (A1, n1, c1), (A2, n2, c2)] [b0, b1, b2] _ rfl (fun x hx => by
    simp at hx
    rcases hx with rfl | rfl | rfl
    · exact h0
    · exact h1
    · exact h2)
set_option maxRecDepth 100000 in
set_option maxHeartbeats 4000000 in
theorem PutHello_c (mx : Int) (ft : Nat) (l : List UInt8) (hf : ft < 4294967296) (h : l.length = 16) (w : World) :
    Calls Try.prog 15 #[.agg (helI mx ft l)] w fun r w' => ∃ x, r = .returned (.tuple #[x, .int .i64 (putH mx ft l).1]) ∧ OwnB w' w.heap.size x (putH mx ft l).2 ∧ Below w.heap.size w w' := by
  obtain ⟨w1, ew1⟩ : ∃ w1, w1 = w.alloc (.cells (helI mx ft l) 44) := ⟨_, rfl⟩
  obtain ⟨gb, egb⟩ : ∃ gb, gb = w.heap.size := ⟨_, rfl⟩
  have b1 : Below w.heap.size w w1 := by rw [ew1]; exact (Below.refl _ _).alloc (Nat.le_refl _) _
  have HH1 : Hid (w1.heap[gb]? = some (.cells (helI mx ft l) 44 (0, 0))) := Lib.hid (by rw [ew1, egb]; exact heap_alloc_new w _)
  have x0 : w1.cell? ⟨gb, 0, none⟩ = some (.int .i64 mx) := (heap_cell HH1.out 0).trans rfl
  have x1 : w1.cell? ⟨gb, 1, none⟩ = some (.int .u32 (ft : Int)) := (heap_cell HH1.out 1).trans rfl
  have HB1 := Lib.hid b1
  have HL := Lib.hid h
  have HF := Lib.hid hf
  have EW1 := Lib.hid ew1
  have EGB := Lib.hid egb
  obtain ⟨E, eE⟩ : ∃ E, (putH mx ft l).1 = E := ⟨_, rfl⟩
  obtain ⟨L, eL⟩ : ∃ L, (putH mx ft l).2 = L := ⟨_, rfl⟩
  rw [eE, eL]
  have HE := Lib.hid eE
  have HLL := Lib.hid eL
  clear ew1 egb b1 h hf eE eL
  go_enter Try.func15, Try.ntmps15
  go_upto_region 1 with (fail)
  rw [← EW1.out, ← EGB.out]
  go_wp2_with (fail)
  refine (offerMayI_c mx ft w1).mono ?_
  rintro _ w2 ⟨rfl, hb2⟩
  obtain ⟨O, eO⟩ : ∃ O, offI mx = O := ⟨_, rfl⟩
  rw [eO]
  have HO := Lib.hid eO
  have HB2 := Lib.hid (HB1.out.trans (hb2.mono HB1.out.size))
  have HH2 := Lib.hid ((hb2.block gb (heap_lt HH1.out)).trans HH1.out)
  clear hb2 eO x0 x1
  cases O with
  | false =>
    have hE : E = 1 := by rw [← HE.out]; unfold putH; rw [HO.out]; rfl
    have hL : L = [] := by rw [← HLL.out]; unfold putH; rw [HO.out]; rfl
    have EE := Lib.hid hE
    have EL := Lib.hid hL
    clear hE hL
    go_wp2_with (fail)
    go_ret2
    rw [EE.out, EL.out]
    exact ⟨_, rfl, Own.nil_ _ _ _, HB2.out⟩
  | true =>
    have hE : E = 0 := by rw [← HE.out]; unfold putH; rw [HO.out]; rfl
    obtain ⟨m1, m3⟩ : 1 ≤ mx ∧ mx ≤ 3 := of_decide_eq_true HO.out
    obtain ⟨M, rfl⟩ : ∃ M : Nat, mx = (M : Int) := ⟨mx.toNat, by omega⟩
    have hL : L = encF (crF 0 [numL M 1, numL ft 4, l]) := by rw [← HLL.out]; unfold putH; rw [HO.out]; rfl
    have EE := Lib.hid hE
    have EL := Lib.hid hL
    have VM : Hid (U64 M) := Lib.hid (by unfold U64; omega)
    have VF : Hid (U64 ft) := Lib.hid (by have := HF.out; unfold U64; omega)
    have hw1 := u64w (n := M) (by omega)
    have hw2 := u32w HF.out
    have z0 : w2.cell? ⟨gb, 0, none⟩ = some (.int .i64 (M : Int)) := (heap_cell HH2.out 0).trans rfl
    have z1 : w2.cell? ⟨gb, 1, none⟩ = some (.int .u32 (ft : Int)) := (heap_cell HH2.out 1).trans rfl
    have HC0 : Hid (w2.drew.cell? ⟨gb, 0, none⟩ = some (.int .i64 (M : Int)) ∧ w2.drew.cell? ⟨gb, 1, none⟩ = some (.int .u32 (ft : Int))) := Lib.hid ⟨z0, z1⟩
    have hgb : gb < w2.heap.size := heap_lt HH2.out
    have HRB := Lib.hid (helI_rd HH2.out)
    clear hE hL m1 m3 z0 z1
    go_upto_region 3 with (fail)
    go_region_held3 (fun w' => w'.cell? ⟨gb, 0, none⟩ = some (.int .i64 (M : Int)) ∧ w'.cell? ⟨gb, 1, none⟩ = some (.int .u32 (ft : Int))) (first | (with_reducible exact HC0.out) | (with_reducible assumption) | (with_reducible exact keep01 hgb (by assumption) (by assumption)) | (with_reducible exact keep01 hgb (by assumption) ((Below.refl _ _).alloc (by assumption) _))) (first
      | (go_at_call 34; (with_reducible refine (Num_c M 1 _ VM.out).mono ?_); rintro _ w4 ⟨v4, rfl, ho4, hb4⟩; rw [nm1] at ho4; obtain ⟨A4, c4, rfl, hc4, hm4, r4, _⟩ := OwnB.form ho4; rw [numL_length] at hc4 ⊢; have N4 : Hid (Below w2.heap.size w2 w4) := Lib.hid ((below_drewN (Below.refl _ _) 1).trans hb4); have R4 : Hid ((numL M 1).length = 1 ∧ Rd w4 A4 ((numL M 1).map bv) ∧ 1 ≤ c4 ∧ c4 ≤ maxLen) := Lib.hid ⟨numL_length _ _, r4, hc4, hm4⟩; have hk4 : Below w2.heap.size _ w4 := hb4; have s4 : w2.heap.size ≤ w4.heap.size := N4.out.size; clear ho4 hb4 r4 hc4 hm4)
      | (go_at_call 34; (with_reducible refine (Num_c ft 4 _ VF.out).mono ?_); rintro _ w5 ⟨v5, rfl, ho5, hb5⟩; rw [nm4] at ho5; obtain ⟨A5, c5, rfl, hc5, hm5, r5, _⟩ := OwnB.form ho5; rw [numL_length] at hc5 ⊢; have N5 : Hid (Below w2.heap.size w2 w5) := Lib.hid (N4.out.trans (hb5.mono s4)); have R5 := Lib.hid (rds3 w5 ⟨R4.out.1, R4.out.2.1.below hb5, R4.out.2.2⟩ ⟨numL_length ft 4, r5, hc5, hm5⟩ (A2 := some ⟨gb, 2, none⟩) (c2 := 16) ⟨HL.out, HRB.out.below N5.out, Nat.le_refl _, by decide⟩); have hk5 : Below w2.heap.size _ w5 := hb5.mono s4; have s5 : w2.heap.size ≤ w5.heap.size := N5.out.size; clear ho5 hb5 r5 hc5 hm5)
      | (go_at_call 43; (refine (listB_c (some ⟨w5.heap.size, 0, none⟩) 3 3 [numL M 1, numL ft 4, l] _ rfl R5.out (by decide) ?_).mono ?_); (intro b hb; simp at hb; rcases hb with rfl | rfl | rfl; (rw [numL_length]; decide); (rw [numL_length]; decide); (rw [HL.out]; decide)); rintro _ w6 ⟨v6, rfl, ho6, hb6⟩; have HO6 := Lib.hid ho6; have N6 := Lib.hid hb6; have hk6 : Below w2.heap.size _ w6 := hb6.mono (by simp; omega); clear ho6 hb6))
    have hz2 : w.heap.size ≤ w2.heap.size := HB2.out.size
    have b5 : Below w5.heap.size w5 (w5.alloc (.cells #[.slice A4 1 c4, .slice A5 4 c5, .slice (some ⟨gb, 2, none⟩) 16 16] 25)) := (Below.refl _ _).alloc (Nat.le_refl _) _
    have hz5 : w.heap.size ≤ w5.heap.size := Nat.le_trans hz2 N5.out.size
    have HOF := Lib.hid (Own.low HO6.out (Nat.le_trans hz5 b5.size))
    have HBF := Lib.hid (((HB2.out.trans (N5.out.mono hz2)).trans (b5.mono hz5)).trans (N6.out.mono (Nat.le_trans hz5 b5.size)))
    clear hz2 b5 hz5 hk4 hk5 hk6 s4 s5 hw1 hw2 HO6 N6 N5 N4 R4 R5
    go_wp2_with (fail)
    go_ret2
    rw [EE.out, EL.out]
    exact ⟨_, rfl, HOF.out, HBF.out⟩
end Go.Proofs.Ytcffinkkfdfcaaa

/- What the reference's PutHello lays. Conditions: features of their kind; a nonce of sixteen bytes. -/
namespace Go.Proofs.Ytcffinkkfdfcaaa
open Go Go.RowKit

/-- Bytes to be read in a slice of n. -/
def Rl.txt (n : Nat) (bs : List UInt8) : Rl := ⟨fun w v => ∃ A c, v = .slice A n c ∧ bs.length = n ∧ Rd w A (bs.map bv) ∧ n ≤ c ∧ c ≤ maxLen, fun ⟨A, c, h, hn, r, q1, q2⟩ hb => ⟨A, c, h, hn, r.below hb, q1, q2⟩⟩
/-- A slice of n slices of bytes. -/
def Rl.sls (n : Nat) (bss : List (List UInt8)) : Rl := ⟨fun w v => ∃ A c, v = .slice A n c ∧ RdS w A bss, fun ⟨A, c, h, r⟩ hb => ⟨A, c, h, r.below hb⟩⟩
/-- Bytes in a row made from block B on. -/
def Rl.own (B : Nat) (bs : List UInt8) : Rl := ⟨fun w v => OwnB w B v bs, fun h hb => Own.below h hb⟩
theorem u8w2 {n : Nat} (h : n < 256) : IntKind.u8.wrap (n : Int) = (n : Int) := by
  unfold IntKind.wrap
  simp [IntKind.bits, IntKind.signed]
  omega
set_option maxRecDepth 100000 in
set_option maxHeartbeats 4000000 in
theorem refPutHello_c (mx : Int) (ft : Nat) (l : List UInt8) (hf : ft < 4294967296) (h : l.length = 16) (w : World) :
    Calls Try.prog 16 #[.agg (helI mx ft l)] w fun r w' => ∃ x, r = .returned (.tuple #[x, .int .i64 (putH mx ft l).1]) ∧ OwnB w' w.heap.size x (putH mx ft l).2 ∧ Below w.heap.size w w' := by
  obtain ⟨w1, ew1⟩ : ∃ w1, w1 = w.alloc (.cells (helI mx ft l) 44) := ⟨_, rfl⟩
  obtain ⟨gb, egb⟩ : ∃ gb, gb = w.heap.size := ⟨_, rfl⟩
  have b1 : Below w.heap.size w w1 := by rw [ew1]; exact (Below.refl _ _).alloc (Nat.le_refl _) _
  have HH1 : Hid (w1.heap[gb]? = some (.cells (helI mx ft l) 44 (0, 0))) := Lib.hid (by rw [ew1, egb]; exact heap_alloc_new w _)
  have x0 : w1.cell? ⟨gb, 0, none⟩ = some (.int .i64 mx) := (heap_cell HH1.out 0).trans rfl
  have x1 : w1.cell? ⟨gb, 1, none⟩ = some (.int .u32 (ft : Int)) := (heap_cell HH1.out 1).trans rfl
  have HB1 := Lib.hid b1
  have HL := Lib.hid h
  have HF := Lib.hid hf
  have EW1 := Lib.hid ew1
  have EGB := Lib.hid egb
  obtain ⟨E, eE⟩ : ∃ E, (putH mx ft l).1 = E := ⟨_, rfl⟩
  obtain ⟨L, eL⟩ : ∃ L, (putH mx ft l).2 = L := ⟨_, rfl⟩
  rw [eE, eL]
  have HE := Lib.hid eE
  have HLL := Lib.hid eL
  clear ew1 egb b1 h hf eE eL
  go_enter Try.func16, Try.ntmps16
  go_upto_region 1 with (fail)
  rw [← EW1.out, ← EGB.out]
  by_cases h1 : mx < 1
  · have eO : offI mx = false := decide_eq_false (by omega)
    have hE : E = 1 := by rw [← HE.out]; unfold putH; rw [eO]; rfl
    have hL : L = [] := by rw [← HLL.out]; unfold putH; rw [eO]; rfl
    have d1 : decide (mx < (1 : Int)) = true := decide_eq_true h1
    have EE := Lib.hid hE
    have EL := Lib.hid hL
    clear hE hL eO h1
    go_wp2_with (fail)
    go_ret2
    rw [EE.out, EL.out]
    exact ⟨_, rfl, Own.nil_ _ _ _, HB1.out⟩
  by_cases h3 : 3 < mx
  · have eO : offI mx = false := decide_eq_false (by omega)
    have hE : E = 1 := by rw [← HE.out]; unfold putH; rw [eO]; rfl
    have hL : L = [] := by rw [← HLL.out]; unfold putH; rw [eO]; rfl
    have d1 : decide (mx < (1 : Int)) = false := decide_eq_false h1
    have d3 : decide ((3 : Int) < mx) = true := decide_eq_true h3
    have EE := Lib.hid hE
    have EL := Lib.hid hL
    clear hE hL eO h1 h3
    go_wp2_with (fail)
    go_ret2
    rw [EE.out, EL.out]
    exact ⟨_, rfl, Own.nil_ _ _ _, HB1.out⟩
  have eO : offI mx = true := decide_eq_true (by omega)
  have hE : E = 0 := by rw [← HE.out]; unfold putH; rw [eO]; rfl
  have d1 : decide (mx < (1 : Int)) = false := decide_eq_false h1
  have d3 : decide ((3 : Int) < mx) = false := decide_eq_false h3
  obtain ⟨M, rfl⟩ : ∃ M : Nat, mx = (M : Int) := ⟨mx.toNat, by omega⟩
  have hL : L = encF (crF 0 [[lo M], numL ft 4, l]) := by rw [← HLL.out, ← numL_one]; unfold putH; rw [eO]; rfl
  have EE := Lib.hid hE
  have EL := Lib.hid hL
  have hM : M < 256 := by omega
  have hwM := u8w2 hM
  have HLM := Lib.hid (lo_bw hM)
  have VF : Hid (U64 ft) := Lib.hid (by have := HF.out; unfold U64; omega)
  have hwF := u32w HF.out
  have hgb : gb < w1.drew.heap.size := heap_lt HH1.out
  have HRB := Lib.hid (helI_rd HH1.out)
  clear hE hL h1 h3 eO
  go_upto_region 3 with (fail)
  refine wp_region_rw 28 [Rl.eq (.pointer (some ⟨gb, 0, none⟩)), Rl.eq (.pointer (some ⟨gb, 0, none⟩)), Rl.eq (.int .i64 (M : Int)), Rl.eq (.int .u8 (M : Int)), Rl.txt 1 [lo M], Rl.eq (.pointer (some ⟨gb, 0, none⟩)), Rl.eq (.pointer (some ⟨gb, 1, none⟩)), Rl.eq (.int .u32 (ft : Int)), Rl.eq (.int .u64 (ft : Int)), Rl.txt 4 (numL ft 4), Rl.eq (.pointer (some ⟨gb, 2, none⟩)), Rl.eq (.slice (some ⟨gb, 2, none⟩) 16 16), Rl.sls 3 [[lo M], numL ft 4, l], Rl.own w.heap.size (encF (crF 0 [[lo M], numL ft 4, l])), Rl.own w.heap.size (encF (crF 0 [[lo M], numL ft 4, l])), Rl.eq (.int .i64 0)] [14, 15, 16, 17, 18, 19, 20, 21, 22, 23, 24, 25, 26, 27, 2, 3] (by kernel_rfl) rfl (by kernel_rfl) (by kernel_rfl) ?_ ?_
  · repeat (first | exact AllFrom.nil_ | (refine AllFrom.cons_ (by rfl) ?_ ?_; rotate_left))
    · intro f w' g hF hD
      have h1 : f 1 = .pointer (some ⟨gb, 0, none⟩) := hF 1 (by kernel_rfl)
      rw [if_pos (wanted_none rfl)]
      clear hF hD
      exact gives_val (by simp only [execOp, evF, h1]; first | rfl | go_simp) ⟨Gr.refl _, rfl⟩
    · intro f w' g hF hD
      have h14 : f 14 = (.pointer (some ⟨gb, 0, none⟩)) := hD 0 14 (by kernel_rfl) rfl
      rw [if_pos (wanted_none rfl)]
      clear hF hD
      exact gives_val (by simp only [execOp, evF, h14]; first | rfl | go_simp) ⟨Gr.refl _, rfl⟩
    · intro f w' g hF hD
      have h15 : f 15 = (.pointer (some ⟨gb, 0, none⟩)) := hD 1 15 (by kernel_rfl) rfl
      rw [if_pos (wanted_none rfl)]
      clear hF hD
      have cl : w'.cell? ⟨gb, 0, none⟩ = some (.int .i64 (M : Int)) := (g.cell (p := ⟨gb, 0, none⟩) hgb).trans x0
      exact gives_val (by simp only [execOp, evF, h15]; go_simp) ⟨Gr.refl _, rfl⟩
    · intro f w' g hF hD
      have h16 : f 16 = (.int .i64 (M : Int)) := hD 2 16 (by kernel_rfl) rfl
      rw [if_pos (wanted_none rfl)]
      clear hF hD
      exact gives_val (by simp only [execOp, evF, h16]; first | rfl | go_simp) ⟨Gr.refl _, rfl⟩
    · intro f w' g hF hD
      have h17 : f 17 = (.int .u8 (M : Int)) := hD 3 17 (by kernel_rfl) rfl
      rw [if_pos (wanted_none rfl)]
      clear hF hD
      have r1 : Rd (w'.alloc (.cells #[.int .u8 (M : Int)] 5)) (some ⟨w'.heap.size, 0, none⟩) ([lo M].map bv) := by
        rw [HLM.out]; exact Rd.lit w' ([lo M].map bv) _
      exact gives_val (v := .slice (some ⟨w'.heap.size, 0, none⟩) 1 1) (by simp only [execOp, evF, h17]; first | rfl | go_simp) ⟨(Below.refl _ _).alloc (Nat.le_refl _) _, some ⟨w'.heap.size, 0, none⟩, 1, rfl, rfl, r1, Nat.le_refl _, by decide⟩
    · intro f w' g hF hD
      have h1 : f 1 = .pointer (some ⟨gb, 0, none⟩) := hF 1 (by kernel_rfl)
      rw [if_pos (wanted_none rfl)]
      clear hF hD
      exact gives_val (by simp only [execOp, evF, h1]; first | rfl | go_simp) ⟨Gr.refl _, rfl⟩
    · intro f w' g hF hD
      have h19 : f 19 = (.pointer (some ⟨gb, 0, none⟩)) := hD 5 19 (by kernel_rfl) rfl
      rw [if_pos (wanted_none rfl)]
      clear hF hD
      exact gives_val (by simp only [execOp, evF, h19]; first | rfl | go_simp) ⟨Gr.refl _, rfl⟩
    · intro f w' g hF hD
      have h20 : f 20 = (.pointer (some ⟨gb, 1, none⟩)) := hD 6 20 (by kernel_rfl) rfl
      rw [if_pos (wanted_none rfl)]
      clear hF hD
      have cl : w'.cell? ⟨gb, 1, none⟩ = some (.int .u32 (ft : Int)) := (g.cell (p := ⟨gb, 1, none⟩) hgb).trans x1
      exact gives_val (by simp only [execOp, evF, h20]; go_simp) ⟨Gr.refl _, rfl⟩
    · intro f w' g hF hD
      have h21 : f 21 = (.int .u32 (ft : Int)) := hD 7 21 (by kernel_rfl) rfl
      rw [if_pos (wanted_none rfl)]
      clear hF hD
      exact gives_val (by simp only [execOp, evF, h21]; first | rfl | go_simp) ⟨Gr.refl _, rfl⟩
    · intro f w' g hF hD
      have h22 : f 22 = (.int .u64 (ft : Int)) := hD 8 22 (by kernel_rfl) rfl
      rw [if_pos (wanted_none rfl)]
      clear hF hD
      refine gives_func rfl Try.func37 (by kernel_rfl) rfl (by simp only [List.map_toArray, List.map_cons, List.map_nil, evF, h22]) ((refNum_c ft 4 w' VF.out).mono ?_)
      rintro e w'' ⟨v, rfl, ho, hb⟩
      rw [nm4] at ho
      obtain ⟨A5, c5, rfl, hc5, hm5, r5, _⟩ := OwnB.form ho
      rw [numL_length] at hc5 ⊢
      exact ⟨_, rfl, hb, _, _, rfl, numL_length _ _, r5, hc5, hm5⟩
    · intro f w' g hF hD
      have h1 : f 1 = .pointer (some ⟨gb, 0, none⟩) := hF 1 (by kernel_rfl)
      rw [if_pos (wanted_none rfl)]
      clear hF hD
      exact gives_val (by simp only [execOp, evF, h1]; first | rfl | go_simp) ⟨Gr.refl _, rfl⟩
    · intro f w' g hF hD
      have h24 : f 24 = (.pointer (some ⟨gb, 2, none⟩)) := hD 10 24 (by kernel_rfl) rfl
      rw [if_pos (wanted_none rfl)]
      clear hF hD
      exact gives_val (by simp only [execOp, evF, h24]; first | rfl | go_simp) ⟨Gr.refl _, rfl⟩
    · intro f w' g hF hD
      have q18 := hD 4 18 (by kernel_rfl) rfl
      have q23 := hD 9 23 (by kernel_rfl) rfl
      have h25 : f 25 = (.slice (some ⟨gb, 2, none⟩) 16 16) := hD 11 25 (by kernel_rfl) rfl
      rw [if_pos (wanted_none rfl)]
      clear hF hD
      obtain ⟨A0, c0, h18, q0⟩ := q18
      obtain ⟨A1, c1, h23, q1⟩ := q23
      have kg : Below w1.heap.size w1 w' := (below_drewN (Below.refl _ _) 1).trans g
      have r3 := rds3 w' q0 q1 (A2 := some ⟨gb, 2, none⟩) (c2 := 16) ⟨HL.out, HRB.out.below kg, Nat.le_refl _, by decide⟩
      exact gives_val (v := .slice (some ⟨w'.heap.size, 0, none⟩) 3 3) (by simp only [execOp, evF, h25, h18, h23]; first | rfl | go_simp) ⟨(Below.refl _ _).alloc (Nat.le_refl _) _, some ⟨w'.heap.size, 0, none⟩, 3, rfl, r3⟩
    · intro f w' g hF hD
      have q26 := hD 12 26 (by kernel_rfl) rfl
      rw [if_pos (wanted_none rfl)]
      clear hF hD
      obtain ⟨A0, c0, h26, q0⟩ := q26
      have kg : Below w1.heap.size w1 w' := (below_drewN (Below.refl _ _) 1).trans g
      refine gives_func rfl Try.func44 (by kernel_rfl) rfl (by simp only [List.map_toArray, List.map_cons, List.map_nil, evF, h26]) ((critical_c A0 3 c0 [[lo M], numL ft 4, l] w' rfl q0 (by decide) ?_).mono ?_)
      · intro b hb; simp at hb; rcases hb with rfl | rfl | rfl; simp; (rw [numL_length]; decide); (rw [HL.out]; decide)
      rintro e w'' ⟨v, rfl, ho, hb⟩
      exact ⟨_, rfl, hb, Own.low ho (Nat.le_trans HB1.out.size kg.size)⟩
    · intro f w' g hF hD
      have q27 := hD 13 27 (by kernel_rfl) rfl
      rw [if_pos (wanted_none rfl)]
      clear hF hD
      exact gives_val (v := f 27) (by simp only [execOp, evF]; rfl) ⟨Gr.refl _, q27⟩
    · intro f w' g hF hD
      rw [if_pos (wanted_none rfl)]
      clear hF hD
      exact gives_val (by simp only [execOp, evF]; first | rfl | go_simp) ⟨Gr.refl _, rfl⟩
  intro f' w4 g hD
  have h2 : OwnB w4 w.heap.size (f' 2) (encF (crF 0 [[lo M], numL ft 4, l])) := hD 14 2 rfl
  have h3 : f' 3 = .int .i64 0 := hD 15 3 rfl
  have HO := Lib.hid h2
  have HB4 := Lib.hid (HB1.out.trans (((below_drewN (Below.refl _ _) 1).trans g).mono HB1.out.size))
  obtain ⟨v2, ev2⟩ : ∃ v2, v2 = f' 2 := ⟨_, rfl⟩
  rw [← ev2] at HO
  simp only [putAll, List.setIfInBounds_toArray, List.set_cons_zero, List.set_cons_succ, h3, ← ev2]
  clear h2 h3 hD g x0 x1 hwM hwF hgb hM d1 d3 ev2
  go_wp2_with (fail)
  go_ret2
  rw [EE.out, EL.out]
  exact ⟨_, rfl, HO.out, HB4.out⟩
end Go.Proofs.Ytcffinkkfdfcaaa

/- What the reference's May of a choice answers. Conditions: none. -/
namespace Go.Proofs.Ytcffinkkfdfcaaa
open Go Go.RowKit

theorem shr_bit (f q : Nat) : (((f : Int) / 2 ^ q).tmod 2 == 1) = f.testBit q := by
  rw [Nat.testBit_eq_decide_div_mod_eq]
  obtain ⟨x, hx⟩ : ∃ x : Nat, x = f / 2 ^ q := ⟨_, rfl⟩
  have e1 : (f : Int) / 2 ^ q = (x : Int) := by rw [hx]; simp
  rw [e1, ← hx, Int.tmod_eq_emod_of_nonneg (Int.natCast_nonneg x)]
  rw [Bool.eq_iff_iff, beq_iff_eq, decide_eq_true_iff]
  omega
set_option maxRecDepth 100000 in
set_option maxHeartbeats 4000000 in
theorem refMay14_c (v : Int) (f : Nat) (hf : f < 4294967296) (w : World) : Calls Try.prog 46 #[.agg #[.int .i64 v, .int .u32 (f : Int)]] w fun r w' => r = .returned (.bool (mayF v f)) ∧ Below w.heap.size w w' := by
  have kb : Below w.heap.size w (w.alloc (.cells #[.int .i64 v, .int .u32 (f : Int)] 46)) := (Below.refl _ _).alloc (Nat.le_refl _) _
  rcases Int.lt_or_le v 1 with h1 | h1
  · have e : mayF v f = false := decide_eq_false (by unfold mayPF; omega)
    rw [e]
    have d1 : decide (v < (1 : Int)) = true := decide_eq_true h1
    clear e h1
    go_enter Try.func46, Try.ntmps46
    go_wp2_with (fail)
    go_ret
    exact ⟨rfl, kb⟩
  rcases Int.lt_or_le 3 v with h3 | h3
  · have e : mayF v f = false := decide_eq_false (by unfold mayPF; omega)
    rw [e]
    have d1 : decide (v < (1 : Int)) = false := decide_eq_false (by omega)
    have d3 : decide ((3 : Int) < v) = true := decide_eq_true (by omega)
    clear e h1 h3
    go_enter Try.func46, Try.ntmps46
    go_wp2_with (fail)
    go_ret
    exact ⟨rfl, kb⟩
  obtain ⟨T, eT⟩ : ∃ T, mayF v f = T := ⟨_, rfl⟩
  rw [eT]
  have HB : Hid (T = true ↔ ∀ i, i < 32 → badBit v f i = false) := Lib.hid (by rw [← eT]; exact mayF_bits v f h1 h3)
  have d1 : decide (v < (1 : Int)) = false := decide_eq_false (by omega)
  have d3 : decide ((3 : Int) < v) = false := decide_eq_false (by omega)
  have KB := Lib.hid kb
  clear eT kb
  obtain ⟨W0, eW⟩ : ∃ W0, W0 = w.alloc (.cells #[.int .i64 v, .int .u32 (f : Int)] 46) := ⟨_, rfl⟩
  have c0 : W0.cell? ⟨w.heap.size, 0, none⟩ = some (.int .i64 v) := by rw [eW]; exact (heap_cell (heap_alloc_new w _) 0).trans rfl
  have c1 : W0.cell? ⟨w.heap.size, 1, none⟩ = some (.int .u32 (f : Int)) := by rw [eW]; exact (heap_cell (heap_alloc_new w _) 1).trans rfl
  have EW := Lib.hid eW
  clear eW
  go_enter Try.func46, Try.ntmps46
  go_wp2_with (fail)
  rw [← EW.out]
  clear d1 d3
  go_loopw [3] (fun i wr => ∃ q n : Nat, q ≤ 32 ∧ i = .int .i64 q ∧ Hid (∀ j, j < q → badBit v f j = false) ∧ wr = W0.drewN n) (fun i _ => 32 - (intOf i).toNat)
  case atStart => exact ⟨0, 0, by omega, rfl, Lib.hid (fun j hj => absurd hj (by omega)), rfl⟩
  case round =>
    obtain ⟨q, n, hq, rfl, HQ, hwr⟩ := hrel
    have k0 : wr.cell? ⟨w.heap.size, 0, none⟩ = some (.int .i64 v) := by rw [hwr]; exact c0
    have k1 : wr.cell? ⟨w.heap.size, 1, none⟩ = some (.int .u32 (f : Int)) := by rw [hwr]; exact c1
    have HW := Lib.hid hwr
    clear hwr
    by_cases hlt : q < 32
    · have hlt' : (q : Int) < 32 := by omega
      obtain ⟨s, es⟩ : ∃ s, sinceB q = s := ⟨_, rfl⟩
      have HS : Hid (∀ w : World, Calls Try.prog 68 #[.int .i64 (q : Int)] w fun r w' => r = .returned (.int .i64 (s : Int)) ∧ w' = w) := Lib.hid (fun w => by rw [← es]; exact since_c q w)
      have ES := Lib.hid es
      have hb := shr_bit f q
      clear es
      obtain ⟨B, eB⟩ : ∃ B, f.testBit q = B := ⟨_, rfl⟩
      rw [eB] at hb
      have EB := Lib.hid eB
      have HBB := Lib.hid hb
      clear eB hb
      go_upto_region 6 with (fail)
      refine wp_region_quiet_lit (by kernel_rfl) (by kernel_rfl) ?_
      iterate 7 (first | go_big_quiet_step (fail) | quiet_step (fail))
      rw [HBB.out]
      cases B with
      | false =>
        have HQ2 : Hid (∀ j, j < q + 1 → badBit v f j = false) := Lib.hid (fun j hj => by
          rcases Nat.lt_or_ge j q with h | h
          · exact HQ.out j h
          · obtain rfl : j = q := by omega
            unfold badBit; rw [EB.out]; rfl)
        repeat (any_goals (first | go_big_quiet_step (fail) | quiet_step (fail)))
        refine wpQuiet_nil ?_; intro _ hw'; obtain ⟨nq, hw''⟩ := hw'; subst hw''
        go_wp2_with (fail)
        go_roundw
        case rel => exact ⟨q + 1, n + nq, by omega, by go_num, HQ2, by rw [HW.out, World.drewN_drewN]⟩
        case measure => simp [intOf]; omega
      | true =>
        by_cases s0 : s = 0
        · have e0 : ((s : Int) == 0) = true := by rw [s0]; rfl
          have HTT : Hid (T = false) := Lib.hid (by
            cases T with
            | false => rfl
            | true =>
              exfalso
              have := HB.out.1 rfl q hlt
              unfold badBit at this
              rw [EB.out, ES.out, decide_eq_true s0] at this; cases this)
          clear s0
          repeat (any_goals (first | go_big_quiet_step ((go_at_call 68; exact Calls.quiet_of_same (HS.out _))) | quiet_step ((go_at_call 68; exact Calls.quiet_of_same (HS.out _)))))
          refine wpQuiet_nil ?_; intro _ hw'; obtain ⟨nq, hw''⟩ := hw'; subst hw''
          go_wp2_with (fail)
          go_ret
          rw [HTT.out]
          exact ⟨rfl, by first | (rw [HW.out]; exact below_drewN (below_drewN (by rw [EW.out]; exact KB.out) _) _) | (rw [HW.out]; exact below_drewN (by rw [EW.out]; exact KB.out) _)⟩
        · have e0 : ((s : Int) == 0) = false := by rw [beq_eq_false_iff_ne]; omega
          by_cases s1 : v < (s : Int)
          · have e1 : decide (v < (s : Int)) = true := decide_eq_true s1
            have HTT : Hid (T = false) := Lib.hid (by
              cases T with
              | false => rfl
              | true =>
                exfalso
                have := HB.out.1 rfl q hlt
                unfold badBit at this
                rw [EB.out, ES.out, decide_eq_true s1] at this; simp at this)
            clear s0 s1
            repeat (any_goals (first | go_big_quiet_step ((go_at_call 68; exact Calls.quiet_of_same (HS.out _))) | quiet_step ((go_at_call 68; exact Calls.quiet_of_same (HS.out _)))))
            refine wpQuiet_nil ?_; intro _ hw'; obtain ⟨nq, hw''⟩ := hw'; subst hw''
            go_wp2_with (fail)
            go_ret
            rw [HTT.out]
            exact ⟨rfl, by first | (rw [HW.out]; exact below_drewN (below_drewN (by rw [EW.out]; exact KB.out) _) _) | (rw [HW.out]; exact below_drewN (by rw [EW.out]; exact KB.out) _)⟩
          · have e1 : decide (v < (s : Int)) = false := decide_eq_false s1
            have HQ2 : Hid (∀ j, j < q + 1 → badBit v f j = false) := Lib.hid (fun j hj => by
              rcases Nat.lt_or_ge j q with h | h
              · exact HQ.out j h
              · obtain rfl : j = q := by omega
                unfold badBit; rw [EB.out, ES.out, decide_eq_false s0, decide_eq_false s1]; rfl)
            clear s0 s1
            repeat (any_goals (first | go_big_quiet_step ((go_at_call 68; exact Calls.quiet_of_same (HS.out _))) | quiet_step ((go_at_call 68; exact Calls.quiet_of_same (HS.out _)))))
            refine wpQuiet_nil ?_; intro _ hw'; obtain ⟨nq, hw''⟩ := hw'; subst hw''
            go_wp2_with (fail)
            go_roundw
            case rel => exact ⟨q + 1, n + nq, by omega, by go_num, HQ2, by rw [HW.out, World.drewN_drewN]⟩
            case measure => simp [intOf]; omega
    · obtain rfl : q = 32 := by omega
      have hT : T = true := HB.out.2 HQ.out
      have HTT := Lib.hid hT
      clear hT
      go_wp2_with (fail)
      go_ret
      rw [HTT.out]
      exact ⟨rfl, by first | (rw [HW.out]; exact below_drewN (below_drewN (by rw [EW.out]; exact KB.out) _) _) | (rw [HW.out]; exact below_drewN (by rw [EW.out]; exact KB.out) _)⟩
end Go.Proofs.Ytcffinkkfdfcaaa

/- What PutSelect lays. Conditions: features of their kind; arrays of sixteen and of thirty-two bytes. -/
namespace Go.Proofs.Ytcffinkkfdfcaaa
open Go Go.RowKit

def selI (v : Int) (f1 : Nat) (mx : Int) (f2 : Nat) (l1 l2 : List UInt8) : Array Value := (.int .i64 v :: .int .u32 (f1 : Int) :: .int .i64 mx :: .int .u32 (f2 : Int) :: (l1.map bv ++ l2.map bv)).toArray
def selL (v : Int) (f1 : Nat) (mx : Int) (f2 : Nat) (l1 l2 : List UInt8) : List (List UInt8) := [numL v.toNat 1, numL f1 4, numL mx.toNat 1, numL f2 4, l1, l2]
def putS (v : Int) (f1 : Nat) (mx : Int) (f2 : Nat) (l1 l2 : List UInt8) : Int × List UInt8 := if (mayF v f1 && offI mx) = true then (0, encF (crF 0 (selL v f1 mx f2 l1 l2))) else (1, [])
theorem mayF_in {v : Int} {f : Nat} (h : mayF v f = true) : 1 ≤ v ∧ v ≤ 3 := ⟨(of_decide_eq_true h).1, (of_decide_eq_true h).2.1⟩
theorem selI_rd1 {w : World} {g f1 f2 : Nat} {v mx : Int} {l1 l2 : List UInt8} {t : TypeId} (h : w.heap[g]? = some (.cells (selI v f1 mx f2 l1 l2) t (0, 0))) : Rd w (some ⟨g, 4, none⟩) (l1.map bv) := by
  refine .inr ⟨g, 4, rfl, heap_lt h, fun k hk => ?_⟩
  rw [heap_cell h, selI, List.getElem?_toArray, show 4 + k = k + 1 + 1 + 1 + 1 by omega, List.getElem?_cons_succ, List.getElem?_cons_succ, List.getElem?_cons_succ, List.getElem?_cons_succ, List.getElem?_append_left hk, List.getElem?_eq_getElem hk]
theorem selI_rd2 {w : World} {g f1 f2 : Nat} {v mx : Int} {l1 l2 : List UInt8} {t : TypeId} (hl : l1.length = 16) (h : w.heap[g]? = some (.cells (selI v f1 mx f2 l1 l2) t (0, 0))) : Rd w (some ⟨g, 20, none⟩) (l2.map bv) := by
  refine .inr ⟨g, 20, rfl, heap_lt h, fun k hk => ?_⟩
  rw [heap_cell h, selI, List.getElem?_toArray, show 20 + k = (k + 16) + 1 + 1 + 1 + 1 by omega, List.getElem?_cons_succ, List.getElem?_cons_succ, List.getElem?_cons_succ, List.getElem?_cons_succ, List.getElem?_append_right (by rw [List.length_map]; omega), List.length_map, hl, show k + 16 - 16 = k by omega, List.getElem?_eq_getElem hk]
theorem rds6 (w : World) {A0 A1 A2 A3 A4 A5 : Option Addr} {n0 n1 n2 n3 n4 n5 c0 c1 c2 c3 c4 c5 : Nat} {b0 b1 b2 b3 b4 b5 : List UInt8} (h0 : b0.length = n0 ∧ Rd w A0 (b0.map bv) ∧ n0 ≤ c0 ∧ c0 ≤ maxLen) (h1 : b1.length = n1 ∧ Rd w A1 (b1.map bv) ∧ n1 ≤ c1 ∧ c1 ≤ maxLen) (h2 : b2.length = n2 ∧ Rd w A2 (b2.map bv) ∧ n2 ≤ c2 ∧ c2 ≤ maxLen) (h3 : b3.length = n3 ∧ Rd w A3 (b3.map bv) ∧ n3 ≤ c3 ∧ c3 ≤ maxLen) (h4 : b4.length = n4 ∧ Rd w A4 (b4.map bv) ∧ n4 ≤ c4 ∧ c4 ≤ maxLen) (h5 : b5.length = n5 ∧ Rd w A5 (b5.map bv) ∧ n5 ≤ c5 ∧ c5 ≤ maxLen) :
    RdS (w.alloc (.cells #[.slice A0 n0 c0, .slice A1 n1 c1, .slice A2 n2 c2, .slice A3 n3 c3, .slice A4 n4 c4, .slice A5 n5 c5] 25)) (some ⟨w.heap.size, 0, none⟩) [b0, b1, b2, b3, b4, b5] :=
  RdS_lit w [(A0, n0, c0), (A1, n1, c1), (A2, n2, c2), (A3, n3, c3), (A4, n4, c4), (A5, n5, c5)] [b0, b1, b2, b3, b4, b5] _ rfl (fun x hx => by
    simp at hx
    rcases hx with rfl | rfl | rfl | rfl | rfl | rfl
    · exact h0
    · exact h1
    · exact h2
    · exact h3
    · exact h4
    · exact h5)
set_option maxRecDepth 100000 in
set_option maxHeartbeats 4000000 in
theorem PutSelect_c (v : Int) (f1 : Nat) (mx : Int) (f2 : Nat) (l1 l2 : List UInt8) (hf1 : f1 < 4294967296) (hf2 : f2 < 4294967296) (h1 : l1.length = 16) (h2 : l2.length = 32) (w : World) :
    Calls Try.prog 17 #[.agg (selI v f1 mx f2 l1 l2)] w fun r w' => ∃ x, r = .returned (.tuple #[x, .int .i64 (putS v f1 mx f2 l1 l2).1]) ∧ OwnB w' w.heap.size x (putS v f1 mx f2 l1 l2).2 ∧ Below w.heap.size w w' := by
  obtain ⟨w1, ew1⟩ : ∃ w1, w1 = w.alloc (.cells (selI v f1 mx f2 l1 l2) 49) := ⟨_, rfl⟩
  obtain ⟨gb, egb⟩ : ∃ gb, gb = w.heap.size := ⟨_, rfl⟩
  have b1 : Below w.heap.size w w1 := by rw [ew1]; exact (Below.refl _ _).alloc (Nat.le_refl _) _
  have HH1 : Hid (w1.heap[gb]? = some (.cells (selI v f1 mx f2 l1 l2) 49 (0, 0))) := Lib.hid (by rw [ew1, egb]; exact heap_alloc_new w _)
  have x0 : w1.cell? ⟨gb, 0, none⟩ = some (.int .i64 v) := (heap_cell HH1.out 0).trans rfl
  have x1 : w1.cell? ⟨gb, 1, none⟩ = some (.int .u32 (f1 : Int)) := (heap_cell HH1.out 1).trans rfl
  have HB1 := Lib.hid b1
  have HL1 := Lib.hid h1
  have HL2 := Lib.hid h2
  have HF1 := Lib.hid hf1
  have HF2 := Lib.hid hf2
  have EW1 := Lib.hid ew1
  have EGB := Lib.hid egb
  obtain ⟨E, eE⟩ : ∃ E, (putS v f1 mx f2 l1 l2).1 = E := ⟨_, rfl⟩
  obtain ⟨L, eL⟩ : ∃ L, (putS v f1 mx f2 l1 l2).2 = L := ⟨_, rfl⟩
  rw [eE, eL]
  have HE := Lib.hid eE
  have HLL := Lib.hid eL
  clear ew1 egb b1 h1 h2 hf1 hf2 eE eL
  go_enter Try.func17, Try.ntmps17
  go_upto_region 1 with (fail)
  rw [← EW1.out, ← EGB.out]
  go_wp2_with (fail)
  refine (featMay_c v f1 HF1.out w1).mono ?_
  rintro _ w2 ⟨rfl, hb2⟩
  obtain ⟨O1, eO1⟩ : ∃ O, mayF v f1 = O := ⟨_, rfl⟩
  rw [eO1]
  have HO1 := Lib.hid eO1
  have HB2 := Lib.hid (HB1.out.trans (hb2.mono HB1.out.size))
  have HH2 := Lib.hid ((hb2.block gb (heap_lt HH1.out)).trans HH1.out)
  clear hb2 eO1 x0 x1
  cases O1 with
  | false =>
    have hE : E = 1 := by rw [← HE.out]; unfold putS; rw [HO1.out]; rfl
    have hL : L = [] := by rw [← HLL.out]; unfold putS; rw [HO1.out]; rfl
    have EE := Lib.hid hE
    have EL := Lib.hid hL
    clear hE hL
    go_wp2_with (fail)
    go_ret2
    rw [EE.out, EL.out]
    exact ⟨_, rfl, Own.nil_ _ _ _, HB2.out⟩
  | true =>
  have z0 : w2.cell? ⟨gb, 0, none⟩ = some (.int .i64 v) := (heap_cell HH2.out 0).trans rfl
  have z1 : w2.cell? ⟨gb, 1, none⟩ = some (.int .u32 (f1 : Int)) := (heap_cell HH2.out 1).trans rfl
  have z2 : w2.cell? ⟨gb, 2, none⟩ = some (.int .i64 mx) := (heap_cell HH2.out 2).trans rfl
  have z3 : w2.cell? ⟨gb, 3, none⟩ = some (.int .u32 (f2 : Int)) := (heap_cell HH2.out 3).trans rfl
  go_wp2_with (fail)
  refine (offerMayI_c mx f2 w2).mono ?_
  rintro _ w3 ⟨rfl, hb3⟩
  obtain ⟨O, eO⟩ : ∃ O, offI mx = O := ⟨_, rfl⟩
  rw [eO]
  have HO := Lib.hid eO
  have HB3 := Lib.hid (HB2.out.trans (hb3.mono HB2.out.size))
  have HH3 := Lib.hid ((hb3.block gb (heap_lt HH2.out)).trans HH2.out)
  clear hb3 eO z0 z1 z2 z3
  cases O with
  | false =>
    have hE : E = 1 := by rw [← HE.out]; unfold putS; rw [HO1.out, HO.out]; rfl
    have hL : L = [] := by rw [← HLL.out]; unfold putS; rw [HO1.out, HO.out]; rfl
    have EE := Lib.hid hE
    have EL := Lib.hid hL
    clear hE hL
    go_wp2_with (fail)
    go_ret2
    rw [EE.out, EL.out]
    exact ⟨_, rfl, Own.nil_ _ _ _, HB3.out⟩
  | true =>
  clear HH1 HB1 HB2 HH2
  have z0 : w3.cell? ⟨gb, 0, none⟩ = some (.int .i64 v) := (heap_cell HH3.out 0).trans rfl
  have z1 : w3.cell? ⟨gb, 1, none⟩ = some (.int .u32 (f1 : Int)) := (heap_cell HH3.out 1).trans rfl
  have z2 : w3.cell? ⟨gb, 2, none⟩ = some (.int .i64 mx) := (heap_cell HH3.out 2).trans rfl
  have z3 : w3.cell? ⟨gb, 3, none⟩ = some (.int .u32 (f2 : Int)) := (heap_cell HH3.out 3).trans rfl
  have eO := HO.out
  obtain ⟨m1, m3⟩ : 1 ≤ mx ∧ mx ≤ 3 := of_decide_eq_true eO
  obtain ⟨hv1, hv3⟩ := mayF_in HO1.out
  obtain ⟨V, rfl⟩ : ∃ V : Nat, v = (V : Int) := ⟨v.toNat, by omega⟩
  obtain ⟨M, rfl⟩ : ∃ M : Nat, mx = (M : Int) := ⟨mx.toNat, by omega⟩
  have hE : E = 0 := by rw [← HE.out]; unfold putS; rw [HO1.out, eO]; rfl
  have hL : L = encF (crF 0 [numL V 1, numL f1 4, numL M 1, numL f2 4, l1, l2]) := by rw [← HLL.out]; unfold putS; rw [HO1.out, eO]; rfl
  have EE := Lib.hid hE
  have EL := Lib.hid hL
  have hV : V < 256 := by omega
  have hM : M < 256 := by omega
  have VF1 : Hid (U64 f1) := Lib.hid (by have := HF1.out; unfold U64; omega)
  have VF2 : Hid (U64 f2) := Lib.hid (by have := HF2.out; unfold U64; omega)
  have hwF1 := u32w HF1.out
  have hwF2 := u32w HF2.out
  have hwV := u64w (n := V) (by omega)
  have hwM := u64w (n := M) (by omega)
  have VV : Hid (U64 V) := Lib.hid (by unfold U64; omega)
  have VM : Hid (U64 M) := Lib.hid (by unfold U64; omega)
  have hgb : gb < w3.heap.size := heap_lt HH3.out
  have HR1 := Lib.hid (selI_rd1 HH3.out)
  have HR2 := Lib.hid (selI_rd2 HL1.out HH3.out)
  have hbs : ∀ b ∈ [numL V 1, numL f1 4, numL M 1, numL f2 4, l1, l2], b.length ≤ 4096 := by
    intro b hb
    simp at hb
    rcases hb with rfl | rfl | rfl | rfl | rfl | rfl
    · rw [numL_length]; decide
    · rw [numL_length]; decide
    · rw [numL_length]; decide
    · rw [numL_length]; decide
    · rw [HL1.out]; decide
    · rw [HL2.out]; decide
  have HBS := Lib.hid hbs
  clear hE hL hv1 hv3 eO hbs m1 m3 HO
  go_upto_region 3 with (fail)
  refine wp_region_rw 40 [Rl.eq (.pointer (some ⟨gb, 0, none⟩)), Rl.eq (.pointer (some ⟨gb, 0, none⟩)), Rl.eq (.int .i64 (V : Int)), Rl.eq (.int .u64 (V : Int)), Rl.txt 1 (numL V 1), Rl.eq (.pointer (some ⟨gb, 0, none⟩)), Rl.eq (.pointer (some ⟨gb, 1, none⟩)), Rl.eq (.int .u32 (f1 : Int)), Rl.eq (.int .u64 (f1 : Int)), Rl.txt 4 (numL f1 4), Rl.eq (.pointer (some ⟨gb, 2, none⟩)), Rl.eq (.pointer (some ⟨gb, 2, none⟩)), Rl.eq (.int .i64 (M : Int)), Rl.eq (.int .u64 (M : Int)), Rl.txt 1 (numL M 1), Rl.eq (.pointer (some ⟨gb, 2, none⟩)), Rl.eq (.pointer (some ⟨gb, 3, none⟩)), Rl.eq (.int .u32 (f2 : Int)), Rl.eq (.int .u64 (f2 : Int)), Rl.txt 4 (numL f2 4), Rl.eq (.pointer (some ⟨gb, 4, none⟩)), Rl.eq (.slice (some ⟨gb, 4, none⟩) 16 16), Rl.eq (.pointer (some ⟨gb, 20, none⟩)), Rl.eq (.slice (some ⟨gb, 20, none⟩) 32 32), Rl.sls 6 [numL V 1, numL f1 4, numL M 1, numL f2 4, l1, l2], Rl.own w.heap.size (encF (crF 0 [numL V 1, numL f1 4, numL M 1, numL f2 4, l1, l2])), Rl.own w.heap.size (encF (crF 0 [numL V 1, numL f1 4, numL M 1, numL f2 4, l1, l2])), Rl.eq (.int .i64 0)] [14, 15, 16, 17, 18, 19, 20, 21, 22, 23, 24, 25, 26, 27, 28, 29, 30, 31, 32, 33, 34, 35, 36, 37, 38, 39, 2, 3] (by kernel_rfl) rfl (by kernel_rfl) (by kernel_rfl) ?_ ?_
  · repeat (first | exact AllFrom.nil_ | (refine AllFrom.cons_ (by rfl) ?_ ?_; rotate_left))
    · intro f w' g hF hD
      have h1 : f 1 = .pointer (some ⟨gb, 0, none⟩) := hF 1 (by kernel_rfl)
      rw [if_pos (wanted_none rfl)]
      clear hF hD
      exact gives_val (by simp only [execOp, evF, h1]; first | rfl | go_simp) ⟨Gr.refl _, rfl⟩
    · intro f w' g hF hD
      have h14 : f 14 = (.pointer (some ⟨gb, 0, none⟩)) := hD 0 14 (by kernel_rfl) rfl
      rw [if_pos (wanted_none rfl)]
      clear hF hD
      exact gives_val (by simp only [execOp, evF, h14]; first | rfl | go_simp) ⟨Gr.refl _, rfl⟩
    · intro f w' g hF hD
      have h15 : f 15 = (.pointer (some ⟨gb, 0, none⟩)) := hD 1 15 (by kernel_rfl) rfl
      rw [if_pos (wanted_none rfl)]
      clear hF hD
      have cl : w'.cell? ⟨gb, 0, none⟩ = some (.int .i64 (V : Int)) := (g.cell (p := ⟨gb, 0, none⟩) hgb).trans z0
      exact gives_val (by simp only [execOp, evF, h15]; go_simp) ⟨Gr.refl _, rfl⟩
    · intro f w' g hF hD
      have h16 : f 16 = (.int .i64 (V : Int)) := hD 2 16 (by kernel_rfl) rfl
      rw [if_pos (wanted_none rfl)]
      clear hF hD
      exact gives_val (by simp only [execOp, evF, h16]; first | rfl | go_simp) ⟨Gr.refl _, rfl⟩
    · intro f w' g hF hD
      have h17 : f 17 = (.int .u64 (V : Int)) := hD 3 17 (by kernel_rfl) rfl
      rw [if_pos (wanted_none rfl)]
      clear hF hD
      refine gives_func rfl Try.func34 (by kernel_rfl) rfl (by simp only [List.map_toArray, List.map_cons, List.map_nil, evF, h17]) ((Num_c V 1 w' VV.out).mono ?_)
      rintro e w'' ⟨x, rfl, ho, hb⟩
      rw [nm1] at ho
      obtain ⟨A5, c5, rfl, hc5, hm5, r5, _⟩ := OwnB.form ho
      rw [numL_length] at hc5 ⊢
      exact ⟨_, rfl, hb, _, _, rfl, numL_length _ _, r5, hc5, hm5⟩
    · intro f w' g hF hD
      have h1 : f 1 = .pointer (some ⟨gb, 0, none⟩) := hF 1 (by kernel_rfl)
      rw [if_pos (wanted_none rfl)]
      clear hF hD
      exact gives_val (by simp only [execOp, evF, h1]; first | rfl | go_simp) ⟨Gr.refl _, rfl⟩
    · intro f w' g hF hD
      have h19 : f 19 = (.pointer (some ⟨gb, 0, none⟩)) := hD 5 19 (by kernel_rfl) rfl
      rw [if_pos (wanted_none rfl)]
      clear hF hD
      exact gives_val (by simp only [execOp, evF, h19]; first | rfl | go_simp) ⟨Gr.refl _, rfl⟩
    · intro f w' g hF hD
      have h20 : f 20 = (.pointer (some ⟨gb, 1, none⟩)) := hD 6 20 (by kernel_rfl) rfl
      rw [if_pos (wanted_none rfl)]
      clear hF hD
      have cl : w'.cell? ⟨gb, 1, none⟩ = some (.int .u32 (f1 : Int)) := (g.cell (p := ⟨gb, 1, none⟩) hgb).trans z1
      exact gives_val (by simp only [execOp, evF, h20]; go_simp) ⟨Gr.refl _, rfl⟩
    · intro f w' g hF hD
      have h21 : f 21 = (.int .u32 (f1 : Int)) := hD 7 21 (by kernel_rfl) rfl
      rw [if_pos (wanted_none rfl)]
      clear hF hD
      exact gives_val (by simp only [execOp, evF, h21]; first | rfl | go_simp) ⟨Gr.refl _, rfl⟩
    · intro f w' g hF hD
      have h22 : f 22 = (.int .u64 (f1 : Int)) := hD 8 22 (by kernel_rfl) rfl
      rw [if_pos (wanted_none rfl)]
      clear hF hD
      refine gives_func rfl Try.func34 (by kernel_rfl) rfl (by simp only [List.map_toArray, List.map_cons, List.map_nil, evF, h22]) ((Num_c f1 4 w' VF1.out).mono ?_)
      rintro e w'' ⟨x, rfl, ho, hb⟩
      rw [nm4] at ho
      obtain ⟨A5, c5, rfl, hc5, hm5, r5, _⟩ := OwnB.form ho
      rw [numL_length] at hc5 ⊢
      exact ⟨_, rfl, hb, _, _, rfl, numL_length _ _, r5, hc5, hm5⟩
    · intro f w' g hF hD
      have h1 : f 1 = .pointer (some ⟨gb, 0, none⟩) := hF 1 (by kernel_rfl)
      rw [if_pos (wanted_none rfl)]
      clear hF hD
      exact gives_val (by simp only [execOp, evF, h1]; first | rfl | go_simp) ⟨Gr.refl _, rfl⟩
    · intro f w' g hF hD
      have h24 : f 24 = (.pointer (some ⟨gb, 2, none⟩)) := hD 10 24 (by kernel_rfl) rfl
      rw [if_pos (wanted_none rfl)]
      clear hF hD
      exact gives_val (by simp only [execOp, evF, h24]; first | rfl | go_simp) ⟨Gr.refl _, rfl⟩
    · intro f w' g hF hD
      have h25 : f 25 = (.pointer (some ⟨gb, 2, none⟩)) := hD 11 25 (by kernel_rfl) rfl
      rw [if_pos (wanted_none rfl)]
      clear hF hD
      have cl : w'.cell? ⟨gb, 2, none⟩ = some (.int .i64 (M : Int)) := (g.cell (p := ⟨gb, 2, none⟩) hgb).trans z2
      exact gives_val (by simp only [execOp, evF, h25]; go_simp) ⟨Gr.refl _, rfl⟩
    · intro f w' g hF hD
      have h26 : f 26 = (.int .i64 (M : Int)) := hD 12 26 (by kernel_rfl) rfl
      rw [if_pos (wanted_none rfl)]
      clear hF hD
      exact gives_val (by simp only [execOp, evF, h26]; first | rfl | go_simp) ⟨Gr.refl _, rfl⟩
    · intro f w' g hF hD
      have h27 : f 27 = (.int .u64 (M : Int)) := hD 13 27 (by kernel_rfl) rfl
      rw [if_pos (wanted_none rfl)]
      clear hF hD
      refine gives_func rfl Try.func34 (by kernel_rfl) rfl (by simp only [List.map_toArray, List.map_cons, List.map_nil, evF, h27]) ((Num_c M 1 w' VM.out).mono ?_)
      rintro e w'' ⟨x, rfl, ho, hb⟩
      rw [nm1] at ho
      obtain ⟨A5, c5, rfl, hc5, hm5, r5, _⟩ := OwnB.form ho
      rw [numL_length] at hc5 ⊢
      exact ⟨_, rfl, hb, _, _, rfl, numL_length _ _, r5, hc5, hm5⟩
    · intro f w' g hF hD
      have h1 : f 1 = .pointer (some ⟨gb, 0, none⟩) := hF 1 (by kernel_rfl)
      rw [if_pos (wanted_none rfl)]
      clear hF hD
      exact gives_val (by simp only [execOp, evF, h1]; first | rfl | go_simp) ⟨Gr.refl _, rfl⟩
    · intro f w' g hF hD
      have h29 : f 29 = (.pointer (some ⟨gb, 2, none⟩)) := hD 15 29 (by kernel_rfl) rfl
      rw [if_pos (wanted_none rfl)]
      clear hF hD
      exact gives_val (by simp only [execOp, evF, h29]; first | rfl | go_simp) ⟨Gr.refl _, rfl⟩
    · intro f w' g hF hD
      have h30 : f 30 = (.pointer (some ⟨gb, 3, none⟩)) := hD 16 30 (by kernel_rfl) rfl
      rw [if_pos (wanted_none rfl)]
      clear hF hD
      have cl : w'.cell? ⟨gb, 3, none⟩ = some (.int .u32 (f2 : Int)) := (g.cell (p := ⟨gb, 3, none⟩) hgb).trans z3
      exact gives_val (by simp only [execOp, evF, h30]; go_simp) ⟨Gr.refl _, rfl⟩
    · intro f w' g hF hD
      have h31 : f 31 = (.int .u32 (f2 : Int)) := hD 17 31 (by kernel_rfl) rfl
      rw [if_pos (wanted_none rfl)]
      clear hF hD
      exact gives_val (by simp only [execOp, evF, h31]; first | rfl | go_simp) ⟨Gr.refl _, rfl⟩
    · intro f w' g hF hD
      have h32 : f 32 = (.int .u64 (f2 : Int)) := hD 18 32 (by kernel_rfl) rfl
      rw [if_pos (wanted_none rfl)]
      clear hF hD
      refine gives_func rfl Try.func34 (by kernel_rfl) rfl (by simp only [List.map_toArray, List.map_cons, List.map_nil, evF, h32]) ((Num_c f2 4 w' VF2.out).mono ?_)
      rintro e w'' ⟨x, rfl, ho, hb⟩
      rw [nm4] at ho
      obtain ⟨A5, c5, rfl, hc5, hm5, r5, _⟩ := OwnB.form ho
      rw [numL_length] at hc5 ⊢
      exact ⟨_, rfl, hb, _, _, rfl, numL_length _ _, r5, hc5, hm5⟩
    · intro f w' g hF hD
      have h1 : f 1 = .pointer (some ⟨gb, 0, none⟩) := hF 1 (by kernel_rfl)
      rw [if_pos (wanted_none rfl)]
      clear hF hD
      exact gives_val (by simp only [execOp, evF, h1]; first | rfl | go_simp) ⟨Gr.refl _, rfl⟩
    · intro f w' g hF hD
      have h34 : f 34 = (.pointer (some ⟨gb, 4, none⟩)) := hD 20 34 (by kernel_rfl) rfl
      rw [if_pos (wanted_none rfl)]
      clear hF hD
      exact gives_val (by simp only [execOp, evF, h34]; first | rfl | go_simp) ⟨Gr.refl _, rfl⟩
    · intro f w' g hF hD
      have h1 : f 1 = .pointer (some ⟨gb, 0, none⟩) := hF 1 (by kernel_rfl)
      rw [if_pos (wanted_none rfl)]
      clear hF hD
      exact gives_val (by simp only [execOp, evF, h1]; first | rfl | go_simp) ⟨Gr.refl _, rfl⟩
    · intro f w' g hF hD
      have h36 : f 36 = (.pointer (some ⟨gb, 20, none⟩)) := hD 22 36 (by kernel_rfl) rfl
      rw [if_pos (wanted_none rfl)]
      clear hF hD
      exact gives_val (by simp only [execOp, evF, h36]; first | rfl | go_simp) ⟨Gr.refl _, rfl⟩
    · intro f w' g hF hD
      have q18 := hD 4 18 (by kernel_rfl) rfl
      have q23 := hD 9 23 (by kernel_rfl) rfl
      have q28 := hD 14 28 (by kernel_rfl) rfl
      have q33 := hD 19 33 (by kernel_rfl) rfl
      have h35 : f 35 = (.slice (some ⟨gb, 4, none⟩) 16 16) := hD 21 35 (by kernel_rfl) rfl
      have h37 : f 37 = (.slice (some ⟨gb, 20, none⟩) 32 32) := hD 23 37 (by kernel_rfl) rfl
      rw [if_pos (wanted_none rfl)]
      clear hF hD
      obtain ⟨A0, c0, h18, q0⟩ := q18
      obtain ⟨A1, c1, h23, q1⟩ := q23
      obtain ⟨A2, c2, h28, q2⟩ := q28
      obtain ⟨A3, c3, h33, q3⟩ := q33
      have kg : Below w3.heap.size w3 w' := (below_drewN (Below.refl _ _) 1).trans g
      have r3 := rds6 w' q0 q1 q2 q3 (A4 := some ⟨gb, 4, none⟩) (c4 := 16) ⟨HL1.out, HR1.out.below kg, Nat.le_refl _, by decide⟩ (A5 := some ⟨gb, 20, none⟩) (c5 := 32) ⟨HL2.out, HR2.out.below kg, Nat.le_refl _, by decide⟩
      exact gives_val (v := .slice (some ⟨w'.heap.size, 0, none⟩) 6 6) (by simp only [execOp, evF, h35, h37, h18, h23, h28, h33]; first | rfl | go_simp) ⟨(Below.refl _ _).alloc (Nat.le_refl _) _, some ⟨w'.heap.size, 0, none⟩, 6, rfl, r3⟩
    · intro f w' g hF hD
      have q38 := hD 24 38 (by kernel_rfl) rfl
      rw [if_pos (wanted_none rfl)]
      clear hF hD
      obtain ⟨A0, c0, h38, q0⟩ := q38
      have kg : Below w3.heap.size w3 w' := (below_drewN (Below.refl _ _) 1).trans g
      refine gives_func rfl Try.func43 (by kernel_rfl) rfl (by simp only [List.map_toArray, List.map_cons, List.map_nil, evF, h38]) ((listB_c A0 6 c0 [numL V 1, numL f1 4, numL M 1, numL f2 4, l1, l2] w' rfl q0 (by decide) HBS.out).mono ?_)
      rintro e w'' ⟨x, rfl, ho, hb⟩
      exact ⟨_, rfl, hb, Own.low ho (Nat.le_trans HB3.out.size kg.size)⟩
    · intro f w' g hF hD
      have q39 := hD 25 39 (by kernel_rfl) rfl
      rw [if_pos (wanted_none rfl)]
      clear hF hD
      exact gives_val (v := f 39) (by simp only [execOp, evF]; rfl) ⟨Gr.refl _, q39⟩
    · intro f w' g hF hD
      rw [if_pos (wanted_none rfl)]
      clear hF hD
      exact gives_val (by simp only [execOp, evF]; first | rfl | go_simp) ⟨Gr.refl _, rfl⟩
  intro f' w4 g hD
  have h2 : OwnB w4 w.heap.size (f' 2) (encF (crF 0 [numL V 1, numL f1 4, numL M 1, numL f2 4, l1, l2])) := hD 26 2 rfl
  have h3 : f' 3 = .int .i64 0 := hD 27 3 rfl
  have HO := Lib.hid h2
  have HB4 := Lib.hid (HB3.out.trans (((below_drewN (Below.refl _ _) 1).trans g).mono HB3.out.size))
  obtain ⟨v2, ev2⟩ : ∃ v2, v2 = f' 2 := ⟨_, rfl⟩
  rw [← ev2] at HO
  simp only [putAll, List.setIfInBounds_toArray, List.set_cons_zero, List.set_cons_succ, h3, ← ev2]
  clear h2 h3 hD g z0 z1 z2 z3 hwF1 hwF2 hwV hwM hgb hM hV ev2
  go_wp2_with (fail)
  go_ret2
  rw [EE.out, EL.out]
  exact ⟨_, rfl, HO.out, HB4.out⟩
end Go.Proofs.Ytcffinkkfdfcaaa

/- How a law's arguments are opened: a Hello and a Select, by value. Conditions: none. -/
namespace Go.Proofs.Ytcffinkkfdfcaaa
open Go Go.RowKit Go.ChangeShapes Go.WideShapes

/-- A type of two fields: a number and features. -/
structure OfT (P : Program) (t : TypeId) (f0 f1 : Field) : Prop where
  hs : P.underlying t = some (.struct #[f0, f1])
  hC : P.cellsOf t = 2
  hone : Deep.oneCellFields P #[f0, f1] = true
  h0 : P.underlying f0.type = some (.int .i64)
  h1 : P.underlying f1.type = some (.int .u32)
/-- A type of n bytes. -/
structure ByT (P : Program) (t n e : TypeId) : Prop where
  ht : P.underlying t = some (.array n e)
  he : P.underlying e = some (.int .u8)
  h1 : P.cellsOf e = 1
  hC : P.cellsOf t = n
theorem open_two {H : Type} {enc : TypeId × Value → H} {P : Program} {W : World} {t fuel : Nat} {f0 f1 : Field} (T : OfT P t f0 f1) {cs : List Value} {x : DataW H × List MemPlace}
    (hf : DataW.trod enc P W 0 (fun _ => true) true fuel t cs = some x) : ∃ (a : Int) (n : Nat), cs = [.int .i64 a, .int .u32 (n : Int)] ∧ n < 4294967296 ∧ (Lit.int .i64 a).wf = true := by
  obtain ⟨ys, n', _, hy, hl4, hlen', hgs⟩ := DataW.trod_struct T.hs hf
  rw [T.hC] at hl4
  obtain ⟨o0, k0⟩ := Deep.hone_of T.hone 0 f0 rfl
  obtain ⟨o1, k1⟩ := Deep.hone_of T.hone 1 f1 rfl
  match cs, hl4, ys, hlen' with
  | [u0, u1], _, [y0, y1], _ =>
    have q0 := hgs 0 f0 rfl
    have q1 := hgs 1 f1 rfl
    rw [o0, k0] at q0
    rw [o1, k1] at q1
    obtain ⟨a0, e0, _, w0⟩ := DataW.trod_int T.h0 q0
    obtain ⟨a1, e1, _, w1⟩ := DataW.trod_int T.h1 q1
    obtain ⟨b1, rfl, h1⟩ := nat_u32 w1
    simp at e0 e1
    subst e0 e1
    exact ⟨a0, b1, rfl, h1, w0⟩
theorem open_arr {H : Type} {enc : TypeId × Value → H} {P : Program} {W : World} {t n e fuel : Nat} (T : ByT P t n e) {cs : List Value} {x : DataW H × List MemPlace} (hn : cs.length = n)
    (hf : DataW.trod enc P W 0 (fun _ => true) true fuel t cs = some x) : ∃ l : List UInt8, cs = l.map bv ∧ l.length = n := by
  have hall : ∀ u ∈ cs, ∃ b : UInt8, u = bv b := by
    cases fuel with
    | zero => simp [DataW.trod] at hf
    | succ m =>
      rw [DataW.trod_step] at hf
      unfold DataW.trodStep at hf
      simp only [T.ht] at hf
      rw [if_pos (by rw [T.hC]; simpa using hn)] at hf
      simp only [Option.map_eq_some_iff] at hf
      obtain ⟨ys, hy, _⟩ := hf
      intro u hu
      obtain ⟨i, hi, rfl⟩ := List.mem_iff_getElem.1 hu
      have hi' : i < n := by rw [← hn]; exact hi
      obtain ⟨y, hyi⟩ := mapM_mem _ _ _ hy i (List.mem_range.2 hi')
      obtain ⟨a, ea, _, wa⟩ := DataW.trod_int T.he hyi
      rw [T.h1, Nat.mul_one, List.drop_eq_getElem_cons hi, List.take_succ_cons, List.take_zero] at ea
      injection ea with ea _
      rw [ea]
      simp only [Lit.wf, IntKind.min, IntKind.max, IntKind.signed, IntKind.bits, Bool.and_eq_true, decide_eq_true_eq] at wa
      have w1 : (0 : Int) ≤ a := by simpa using wa.1
      have w2 : a ≤ 255 := by simpa using wa.2
      refine ⟨UInt8.ofNat a.toNat, ?_⟩
      unfold bv
      rw [UInt8.toNat_ofNat']
      congr 1
      omega
  obtain ⟨l, hl⟩ := list_bytes cs hall
  exact ⟨l, hl, by rw [← hn, hl, List.length_map]⟩
/-- The fields of a Hello's type. -/
structure HeT (P : Program) (t : TypeId) (f0 f1 g0 g1 : Field) (e : TypeId) : Prop where
  hs : P.underlying t = some (.struct #[f0, f1])
  hC : P.cellsOf t = 18
  o0 : f0.offset = 0
  o1 : f1.offset = 2
  T0 : OfT P f0.type g0 g1
  T1 : ByT P f1.type 16 e
/-- The fields of a Select's type. -/
structure SeT (P : Program) (t : TypeId) (f0 f1 f2 f3 g0 g1 h0 h1 : Field) (e1 e2 : TypeId) : Prop where
  hs : P.underlying t = some (.struct #[f0, f1, f2, f3])
  hC : P.cellsOf t = 52
  o0 : f0.offset = 0
  o1 : f1.offset = 2
  o2 : f2.offset = 4
  o3 : f3.offset = 20
  T0 : OfT P f0.type g0 g1
  T1 : OfT P f1.type h0 h1
  T2 : ByT P f2.type 16 e1
  T3 : ByT P f3.type 32 e2
theorem list_parts2 (cs : List Value) (h : cs.length = 18) : cs = cs.take 2 ++ (cs.drop 2).take 16 := by
  have e : (cs.drop 2).take 16 = cs.drop 2 := List.take_of_length_le (by rw [List.length_drop]; omega)
  rw [e, List.take_append_drop]
theorem list_parts4 (cs : List Value) (h : cs.length = 52) : cs = cs.take 2 ++ ((cs.drop 2).take 2 ++ ((cs.drop 4).take 16 ++ (cs.drop 20).take 32)) := by
  have e : (cs.drop 20).take 32 = cs.drop 20 := List.take_of_length_le (by rw [List.length_drop]; omega)
  rw [e, show cs.drop 20 = (cs.drop 4).drop 16 by rw [List.drop_drop], List.take_append_drop, show cs.drop 4 = (cs.drop 2).drop 2 by rw [List.drop_drop], List.take_append_drop, List.take_append_drop]
theorem opn_hel {H : Type} {enc : TypeId × Value → H} {P : Program} {W : World} {base t e : Nat} {f0 f1 g0 g1 : Field} (T : HeT P t f0 f1 g0 g1 e) {v : Value} {d : DataW H} {p : List MemPlace}
    (hv : Value.okWide P W .any base t v) (hj : DataW.Trod enc P W 0 (fun _ => true) true t v d p) : ∃ (a : Int) (f : Nat) (l : List UInt8), v = .agg (helI a f l) ∧ f < 4294967296 ∧ l.length = 16 := by
  obtain ⟨cs, rfl, hsz2⟩ := okWide_struct T.hs hv
  obtain ⟨fuel, hf⟩ := hj
  obtain ⟨ys, n, _, _, hl, hlen, hg⟩ := DataW.trod_struct T.hs hf
  rw [T.hC] at hl
  match ys, hlen with
  | [y0, y1], _ =>
    have q0 := hg 0 f0 rfl
    have q1 := hg 1 f1 rfl
    rw [T.o0, T.T0.hC] at q0
    rw [T.o1, T.T1.hC] at q1
    obtain ⟨a, f, e0, hf0, _⟩ := open_two T.T0 q0
    obtain ⟨l, e1, hl1⟩ := open_arr T.T1 (by rw [List.length_take, List.length_drop, hl]; decide) q1
    refine ⟨a, f, l, ?_, hf0, hl1⟩
    congr 1
    apply Array.ext'
    simp only [Value.cells] at hl e0 e1
    rw [list_parts2 cs.toList (by simpa using hl), show cs.toList.take 2 = _ from e0, e1]
    rfl
theorem opn_sel {H : Type} {enc : TypeId × Value → H} {P : Program} {W : World} {base t e1 e2 : Nat} {f0 f1 f2 f3 g0 g1 h0 h1 : Field} (T : SeT P t f0 f1 f2 f3 g0 g1 h0 h1 e1 e2) {v : Value} {d : DataW H} {p : List MemPlace}
    (hv : Value.okWide P W .any base t v) (hj : DataW.Trod enc P W 0 (fun _ => true) true t v d p) : ∃ (a : Int) (f : Nat) (b : Int) (k : Nat) (l m : List UInt8), v = .agg (selI a f b k l m) ∧ f < 4294967296 ∧ k < 4294967296 ∧ l.length = 16 ∧ m.length = 32 := by
  obtain ⟨cs, rfl, hsz2⟩ := okWide_struct T.hs hv
  obtain ⟨fuel, hf⟩ := hj
  obtain ⟨ys, n, _, _, hl, hlen, hg⟩ := DataW.trod_struct T.hs hf
  rw [T.hC] at hl
  match ys, hlen with
  | [y0, y1, y2, y3], _ =>
    have q0 := hg 0 f0 rfl
    have q1 := hg 1 f1 rfl
    have q2 := hg 2 f2 rfl
    have q3 := hg 3 f3 rfl
    rw [T.o0, T.T0.hC] at q0
    rw [T.o1, T.T1.hC] at q1
    rw [T.o2, T.T2.hC] at q2
    rw [T.o3, T.T3.hC] at q3
    obtain ⟨a, f, e0, hf0, _⟩ := open_two T.T0 q0
    obtain ⟨b, k, e1, hf1, _⟩ := open_two T.T1 q1
    obtain ⟨l, e2, hl1⟩ := open_arr T.T2 (by rw [List.length_take, List.length_drop, hl]; decide) q2
    obtain ⟨m, e3, hl2⟩ := open_arr T.T3 (by rw [List.length_take, List.length_drop, hl]; decide) q3
    refine ⟨a, f, b, k, l, m, ?_, hf0, hf1, hl1, hl2⟩
    congr 1
    apply Array.ext'
    simp only [Value.cells] at hl e0 e1 e2 e3
    rw [list_parts4 cs.toList (by simpa using hl), show cs.toList.take 2 = _ from e0, e1, e2, e3]
    rfl
end Go.Proofs.Ytcffinkkfdfcaaa

/- What the reference's GetSelect answers. Conditions: bytes that can be read. -/
namespace Go.Proofs.Ytcffinkkfdfcaaa
open Go Go.RowKit

theorem ref_sel_results (tmps : Array Value) (g : Nat) (t : TypeId) (cs : Array Value) (fr : Nat × Nat) (y : Int) (h2 : tmps.getD 2 undef = .pointer (some ⟨g, 0, none⟩)) (h3 : tmps.getD 3 undef = .int .i64 y) (w : World) (hg : w.heap[g]? = some (.cells cs t fr)) (hi : (Try.prog.info? 49).map (·.size) = some cs.size) :
    (results Try.f24 tmps).run Try.prog w = .ok (.tuple #[.agg cs, .int .i64 y]) w := by
  have h2' : tmps[2]?.getD undef = .pointer (some ⟨g, 0, none⟩) := by simpa using h2
  have h3' : tmps[3]?.getD undef = .int .i64 y := by simpa using h3
  simp [results, Try.results24, h2', h3', asAddr, run_loadVar_row w g t 49 cs fr _ hg Try.underlying49 rfl hi]
/-- A block of a Select's cells, made from block B on. -/
def Rl.sel (B v f1 mx f2 : Nat) (l m : List UInt8) : Rl := ⟨fun w x => ∃ g, x = .pointer (some ⟨g, 0, none⟩) ∧ B ≤ g ∧ w.heap[g]? = some (.cells (selC v f1 mx f2 l m).toArray 49 (0, 0)), fun ⟨g, h, hB, r⟩ hb => ⟨g, h, hB, (hb.block g (heap_lt r)).trans r⟩⟩
theorem RdS.at6 {w : World} {X : Option Addr} {b0 b1 b2 b3 b4 b5 : List UInt8} (h : RdS w X [b0, b1, b2, b3, b4, b5]) : ∃ b off, X = some ⟨b, off, none⟩ ∧ b < w.heap.size ∧
    (∃ A c, w.cell? ⟨b, off, none⟩ = some (.slice A b0.length c) ∧ Rd w A (b0.map bv)) ∧ (∃ A c, w.cell? ⟨b, off + 1, none⟩ = some (.slice A b1.length c) ∧ Rd w A (b1.map bv)) ∧ (∃ A c, w.cell? ⟨b, off + 2, none⟩ = some (.slice A b2.length c) ∧ Rd w A (b2.map bv)) ∧
    (∃ A c, w.cell? ⟨b, off + 3, none⟩ = some (.slice A b3.length c) ∧ Rd w A (b3.map bv)) ∧ (∃ A c, w.cell? ⟨b, off + 4, none⟩ = some (.slice A b4.length c) ∧ Rd w A (b4.map bv)) ∧ (∃ A c, w.cell? ⟨b, off + 5, none⟩ = some (.slice A b5.length c) ∧ Rd w A (b5.map bv)) := by
  obtain ⟨b, off, e, hb, hc⟩ := h.addr (by simp)
  refine ⟨b, off, e, hb, ?_, ?_, ?_, ?_, ?_, ?_⟩
  · obtain ⟨A, c, q1, q2, -⟩ := hc 0 (by simp); exact ⟨A, c, q1, q2⟩
  · obtain ⟨A, c, q1, q2, -⟩ := hc 1 (by simp); exact ⟨A, c, q1, q2⟩
  · obtain ⟨A, c, q1, q2, -⟩ := hc 2 (by simp); exact ⟨A, c, q1, q2⟩
  · obtain ⟨A, c, q1, q2, -⟩ := hc 3 (by simp); exact ⟨A, c, q1, q2⟩
  · obtain ⟨A, c, q1, q2, -⟩ := hc 4 (by simp); exact ⟨A, c, q1, q2⟩
  · obtain ⟨A, c, q1, q2, -⟩ := hc 5 (by simp); exact ⟨A, c, q1, q2⟩
/-- The number of a list of one byte, told by its cell. -/
theorem one_cell {w : World} {s : FS} {A : Option Addr} {M : Nat} (hM : oneN s = M) (r : Rd w A ((byB s 1).map bv)) : ∃ b o, A = some ⟨b, o, none⟩ ∧ b < w.heap.size ∧ w.cell? ⟨b, o, none⟩ = some (.int .u8 (M : Int)) ∧ M < 256 := by
  obtain ⟨x, ex⟩ : ∃ x, byB s 1 = [x] := by
    match q : byB s 1, byB_len s 1 with
    | [x], _ => exact ⟨x, rfl⟩
  rw [ex] at r
  obtain ⟨b, o, rfl, hlt, hc⟩ := r.addrB (by simp)
  refine ⟨b, o, rfl, hlt, ?_, by rw [← hM]; unfold oneN; exact UInt8.toNat_lt _⟩
  have := hc 0 (by simp)
  rw [← hM]; unfold oneN; rw [ex]
  exact this
theorem fourN_lt (s : FS) : fourN s < 4294967296 := by
  rw [fourN]; have := beN_lt (byB s 4); rw [byB_len] at this; exact this
set_option maxRecDepth 100000 in
set_option maxHeartbeats 4000000 in
theorem refGetSelect_c (bs : List UInt8) (A : Option Addr) (n c : Nat) (w : World) (hn : bs.length = n) (hr : Rd w A (bs.map bv)) (hc : n ≤ c) (hcm : c ≤ maxLen) (hl : n ≤ 140737488355328) :
    Calls Try.prog 24 #[.slice A n c] w fun r w' => r = .returned (.tuple #[(selR bs).val, .int .i64 (selE bs : Int)]) ∧ Below w.heap.size w w' := by
  have HN := Lib.hid hn
  have HC := Lib.hid hc
  have HCM := Lib.hid hcm
  obtain ⟨w1, ew1⟩ : ∃ w1, w1 = w.alloc (.cells #[.int .i64 0, .int .u32 0, .int .i64 0, .int .u32 0, .int .u8 0, .int .u8 0, .int .u8 0, .int .u8 0, .int .u8 0, .int .u8 0, .int .u8 0, .int .u8 0, .int .u8 0, .int .u8 0, .int .u8 0, .int .u8 0, .int .u8 0, .int .u8 0, .int .u8 0, .int .u8 0, .int .u8 0, .int .u8 0, .int .u8 0, .int .u8 0, .int .u8 0, .int .u8 0, .int .u8 0, .int .u8 0, .int .u8 0, .int .u8 0, .int .u8 0, .int .u8 0, .int .u8 0, .int .u8 0, .int .u8 0, .int .u8 0, .int .u8 0, .int .u8 0, .int .u8 0, .int .u8 0, .int .u8 0, .int .u8 0, .int .u8 0, .int .u8 0, .int .u8 0, .int .u8 0, .int .u8 0, .int .u8 0, .int .u8 0, .int .u8 0, .int .u8 0, .int .u8 0] 49) := ⟨_, rfl⟩
  obtain ⟨gr, egr⟩ : ∃ gr, gr = w.heap.size := ⟨_, rfl⟩
  have b1 : Below w.heap.size w w1 := by rw [ew1]; exact (Below.refl _ _).alloc (Nat.le_refl _) _
  have g1 : w1.heap[gr]? = some (.cells (selC 0 0 0 0 (zerB 16) (zerB 32)).toArray 49 (0, 0)) := by rw [ew1, egr, ← sel_zero]; exact heap_alloc_new _ _
  obtain ⟨w2, ew2⟩ : ∃ w2, w2 = w1.alloc (.cells #[.int .i64 1, .int .i64 4, .int .i64 1, .int .i64 4, .int .i64 16, .int .i64 32] 3) := ⟨_, rfl⟩
  obtain ⟨g2, eg2⟩ : ∃ g2, g2 = w1.heap.size := ⟨_, rfl⟩
  have b2 : Below w1.heap.size w1 w2 := by rw [ew2]; exact (Below.refl _ _).alloc (Nat.le_refl _) _
  have HZ : Hid (RdI w2 (some ⟨g2, 0, none⟩) (nI [1, 4, 1, 4, 16, 32])) := Lib.hid (.inr ⟨g2, 0, rfl, by rw [ew2, eg2]; simp, fun k hk => by
    have hh : w2.heap[g2]? = some (.cells #[.int .i64 1, .int .i64 4, .int .i64 1, .int .i64 4, .int .i64 16, .int .i64 32] 3 (0, 0)) := by rw [ew2, eg2]; exact heap_alloc_new _ _
    rw [Nat.zero_add, heap_cell hh]
    have : k = 0 ∨ k = 1 ∨ k = 2 ∨ k = 3 ∨ k = 4 ∨ k = 5 := by simp [nI] at hk; omega
    rcases this with rfl | rfl | rfl | rfl | rfl | rfl <;> rfl⟩)
  have HG2 : Hid (w2.heap[gr]? = some (.cells (selC 0 0 0 0 (zerB 16) (zerB 32)).toArray 49 (0, 0))) := Lib.hid ((b2.block gr (heap_lt g1)).trans g1)
  have HB2 := Lib.hid (b1.trans (b2.mono b1.size))
  have HR2 := Lib.hid ((hr.below b1).below b2)
  have EW1 := Lib.hid ew1
  have EW2 := Lib.hid ew2
  have EGR := Lib.hid egr
  have EG2 := Lib.hid eg2
  obtain ⟨E, eE⟩ : ∃ E, selE bs = E := ⟨_, rfl⟩
  obtain ⟨R, eR⟩ : ∃ R, selR bs = R := ⟨_, rfl⟩
  rw [eE, eR]
  have HE := Lib.hid eE
  have HRR := Lib.hid eR
  clear ew1 ew2 egr eg2 b1 b2 g1 hn hr hc hcm eE eR
  go_enter Try.func24, Try.ntmps24
  go_upto_region 1 with (fail)
  rw [← EW1.out, ← EGR.out]
  go_wp2_with (fail)
  rw [← EW2.out, ← EG2.out]
  refine (sizes_c bs A n c [1, 4, 1, 4, 16, 32] (some ⟨g2, 0, none⟩) 6 6 w2 HN.out HR2.out HC.out HCM.out hl HZ.out rfl (by decide) (by decide)).mono ?_
  rintro _ w3 ⟨v3, rfl, hX, hb3⟩
  have hE0 : szE bs [1, 4, 1, 4, 16, 32] = (selS7 bs).err := rfl
  obtain ⟨E0, eE0⟩ : ∃ E0, (selS7 bs).err = E0 := ⟨_, rfl⟩
  rw [hE0, eE0] at hX ⊢
  have HE0 := Lib.hid eE0
  have HG3 := Lib.hid ((hb3.block gr (heap_lt HG2.out)).trans HG2.out)
  have HB3 := Lib.hid (HB2.out.trans (hb3.mono HB2.out.size))
  have HXX := Lib.hid hX
  clear hE0 eE0 hX hb3
  by_cases h0 : E0 = 0
  · have d0 : ((E0 : Int) != 0) = false := by rw [h0]; rfl
    obtain ⟨X, cX, rfl, hX⟩ := HXX.out h0
    have hX' : RdS w3 X [byB (selS1 bs) 1, byB (selS2 bs) 4, byB (selS3 bs) 1, byB (selS4 bs) 4, byB (selS5 bs) 16, byB (selS6 bs) 32] := hX
    obtain ⟨bx, ox, rfl, hbx, ⟨A0, c0, x0, r0⟩, ⟨A1, c1, x1, r1⟩, ⟨A2, c2, x2, r2⟩, ⟨A3, c3, x3, r3⟩, ⟨A4, c4, x4, r4⟩, ⟨A5, c5, x5, r5⟩⟩ := hX'.at6
    rw [byB_len] at x0 x1 x2 x3 x4 x5
    obtain ⟨V, hV⟩ : ∃ M, oneN (selS1 bs) = M := ⟨_, rfl⟩
    obtain ⟨F1, hF1⟩ : ∃ F, fourN (selS2 bs) = F := ⟨_, rfl⟩
    obtain ⟨M, hM⟩ : ∃ M, oneN (selS3 bs) = M := ⟨_, rfl⟩
    obtain ⟨F2, hF2⟩ : ∃ F, fourN (selS4 bs) = F := ⟨_, rfl⟩
    obtain ⟨NC, hNC⟩ : ∃ NC, byB (selS5 bs) 16 = NC := ⟨_, rfl⟩
    obtain ⟨CF, hCF⟩ : ∃ NC, byB (selS6 bs) 32 = NC := ⟨_, rfl⟩
    rw [hNC] at r4
    rw [hCF] at r5
    obtain ⟨m1, hm1⟩ : ∃ b4, byB (selS2 bs) 4 = b4 := ⟨_, rfl⟩
    obtain ⟨m3, hm3⟩ : ∃ b4, byB (selS4 bs) 4 = b4 := ⟨_, rfl⟩
    rw [hm1] at r1
    rw [hm3] at r3
    have HBF1 := Lib.hid (show beN m1 = F1 by rw [← hm1]; exact hF1)
    have HBF2 := Lib.hid (show beN m3 = F2 by rw [← hm3]; exact hF2)
    have HL4 := Lib.hid (show m1.length = 4 by rw [← hm1]; exact byB_len _ _)
    have HL5 := Lib.hid (show m3.length = 4 by rw [← hm3]; exact byB_len _ _)
    have HLN := Lib.hid (show NC.length = 16 by rw [← hNC]; exact byB_len _ _)
    have HLC := Lib.hid (show CF.length = 32 by rw [← hCF]; exact byB_len _ _)
    obtain ⟨b0, o0, rfl, hlt0, y0, hV256⟩ := one_cell hV r0
    obtain ⟨b2, o2, rfl, hlt2, y2, hM256⟩ := one_cell hM r2
    have HU1 := Lib.hid (show F1 < 4294967296 by rw [← hF1]; exact fourN_lt _)
    have HU2 := Lib.hid (show F2 < 4294967296 by rw [← hF2]; exact fourN_lt _)
    have hwF1 := u32_u64w HU1.out
    have hwF2 := u32_u64w HU2.out
    have hwV := i64w hV256
    have hwM := i64w hM256
    have HR1 := Lib.hid r1
    have HR3 := Lib.hid r3
    have HR4 := Lib.hid r4
    have HR5 := Lib.hid r5
    have EV := Lib.hid hV
    have EF1 := Lib.hid hF1
    have EM := Lib.hid hM
    have EF2 := Lib.hid hF2
    have ENC := Lib.hid hNC
    have ECF := Lib.hid hCF
    have H0 := Lib.hid h0
    clear h0 hX hX' r0 r1 r2 r3 r4 r5 hm1 hm3 hV hF1 hM hF2 hNC hCF
    go_upto_region 4 with (fail)
    refine wp_region_rt 72 26 [Rl.eq (.slice (some ⟨bx, ox, none⟩) 6 cX), Rl.eq (.pointer (some ⟨bx, ox, none⟩)), Rl.eq (.slice (some ⟨b0, o0, none⟩) 1 c0), Rl.eq (.pointer (some ⟨b0, o0, none⟩)), Rl.eq (.int .u8 (V : Int)), Rl.eq (.int .i64 (V : Int)), Rl.eq (.slice (some ⟨bx, ox, none⟩) 6 cX), Rl.eq (.pointer (some ⟨bx, ox + 1, none⟩)), Rl.eq (.slice A1 4 c1), Rl.eq (.int .u64 (F1 : Int)), Rl.eq (.int .u32 (F1 : Int)), Rl.eq (.agg #[.int .i64 (V : Int), .int .u32 (F1 : Int)]), Rl.eq (.slice (some ⟨bx, ox, none⟩) 6 cX), Rl.eq (.pointer (some ⟨bx, ox + 2, none⟩)), Rl.eq (.slice (some ⟨b2, o2, none⟩) 1 c2), Rl.eq (.pointer (some ⟨b2, o2, none⟩)), Rl.eq (.int .u8 (M : Int)), Rl.eq (.int .i64 (M : Int)), Rl.eq (.slice (some ⟨bx, ox, none⟩) 6 cX), Rl.eq (.pointer (some ⟨bx, ox + 3, none⟩)), Rl.eq (.slice A3 4 c3), Rl.eq (.int .u64 (F2 : Int)), Rl.eq (.int .u32 (F2 : Int)), Rl.eq (.agg #[.int .i64 (M : Int), .int .u32 (F2 : Int)]), Rl.eq (.agg (selC V F1 M F2 (zerB 16) (zerB 32)).toArray), Rl.sel w3.heap.size 0 0 0 0 (zerB 16) (zerB 32)] [17, 18, 19, 20, 21, 22, 23, 24, 25, 26, 27, 28, 29, 30, 31, 32, 33, 34, 35, 36, 37, 38, 39, 40, 41, 6] (by kernel_rfl) rfl (by kernel_rfl) (by kernel_rfl) (by decide) (by kernel_rfl) (by kernel_rfl) ?_ ?_
    · simp only [List.take_succ_cons, List.take_zero]
      repeat (first | exact AllFrom.nil_ | (refine AllFrom.cons_ (by rfl) ?_ ?_; rotate_left))
      · intro f w' g hF hD
        have h4 : f 4 = .slice (some ⟨bx, ox, none⟩) 6 cX := hF 4 (by kernel_rfl)
        rw [if_pos (wanted_none rfl)]
        clear hF hD
        exact gives_val (by simp only [execOp, evF, h4]; first | rfl | go_simp) ⟨Gr.refl _, rfl⟩
      · intro f w' g hF hD
        have h17 : f 17 = (.slice (some ⟨bx, ox, none⟩) 6 cX) := hD 0 17 (by kernel_rfl) rfl
        rw [if_pos (wanted_none rfl)]
        clear hF hD
        exact gives_val (by simp only [execOp, evF, h17]; first | rfl | go_simp) ⟨Gr.refl _, rfl⟩
      · intro f w' g hF hD
        have h18 : f 18 = (.pointer (some ⟨bx, ox, none⟩)) := hD 1 18 (by kernel_rfl) rfl
        rw [if_pos (wanted_none rfl)]
        clear hF hD
        have cl : w'.cell? ⟨bx, ox, none⟩ = some (.slice (some ⟨b0, o0, none⟩) 1 c0) := (g.cell (p := ⟨bx, ox, none⟩) hbx).trans x0
        exact gives_val (by simp only [execOp, evF, h18]; go_simp) ⟨Gr.refl _, rfl⟩
      · intro f w' g hF hD
        have h19 : f 19 = (.slice (some ⟨b0, o0, none⟩) 1 c0) := hD 2 19 (by kernel_rfl) rfl
        rw [if_pos (wanted_none rfl)]
        clear hF hD
        exact gives_val (by simp only [execOp, evF, h19]; first | rfl | go_simp) ⟨Gr.refl _, rfl⟩
      · intro f w' g hF hD
        have h20 : f 20 = (.pointer (some ⟨b0, o0, none⟩)) := hD 3 20 (by kernel_rfl) rfl
        rw [if_pos (wanted_none rfl)]
        clear hF hD
        have cl : w'.cell? ⟨b0, o0, none⟩ = some (.int .u8 (V : Int)) := (g.cell (p := ⟨b0, o0, none⟩) hlt0).trans y0
        exact gives_val (by simp only [execOp, evF, h20]; go_simp) ⟨Gr.refl _, rfl⟩
      · intro f w' g hF hD
        have h21 : f 21 = (.int .u8 (V : Int)) := hD 4 21 (by kernel_rfl) rfl
        rw [if_pos (wanted_none rfl)]
        clear hF hD
        exact gives_val (by simp only [execOp, evF, h21]; first | rfl | go_simp) ⟨Gr.refl _, rfl⟩
      · intro f w' g hF hD
        have h4 : f 4 = .slice (some ⟨bx, ox, none⟩) 6 cX := hF 4 (by kernel_rfl)
        rw [if_pos (wanted_none rfl)]
        clear hF hD
        exact gives_val (by simp only [execOp, evF, h4]; first | rfl | go_simp) ⟨Gr.refl _, rfl⟩
      · intro f w' g hF hD
        have h23 : f 23 = (.slice (some ⟨bx, ox, none⟩) 6 cX) := hD 6 23 (by kernel_rfl) rfl
        rw [if_pos (wanted_none rfl)]
        clear hF hD
        exact gives_val (by simp only [execOp, evF, h23]; first | rfl | go_simp) ⟨Gr.refl _, rfl⟩
      · intro f w' g hF hD
        have h24 : f 24 = (.pointer (some ⟨bx, ox + 1, none⟩)) := hD 7 24 (by kernel_rfl) rfl
        rw [if_pos (wanted_none rfl)]
        clear hF hD
        have cl : w'.cell? ⟨bx, ox + 1, none⟩ = some (.slice A1 4 c1) := (g.cell (p := ⟨bx, ox + 1, none⟩) hbx).trans x1
        exact gives_val (by simp only [execOp, evF, h24]; go_simp) ⟨Gr.refl _, rfl⟩
      · intro f w' g hF hD
        have h25 : f 25 = (.slice A1 4 c1) := hD 8 25 (by kernel_rfl) rfl
        rw [if_pos (wanted_none rfl)]
        clear hF hD
        have kg : Below w3.heap.size w3 w' := (below_drewN (Below.refl _ _) 1).trans g
        refine gives_func rfl Try.func53 (by kernel_rfl) rfl (by simp only [List.map_toArray, List.map_cons, List.map_nil, evF, h25]) ((refNumber_c m1 A1 4 c1 w' HL4.out (HR1.out.below kg) (by decide)).mono ?_)
        rintro e w'' ⟨rfl, rfl⟩
        rw [HBF1.out]
        exact ⟨_, rfl, Gr.refl _, rfl⟩
      · intro f w' g hF hD
        have h26 : f 26 = (.int .u64 (F1 : Int)) := hD 9 26 (by kernel_rfl) rfl
        rw [if_pos (wanted_none rfl)]
        clear hF hD
        exact gives_val (by simp only [execOp, evF, h26]; first | rfl | go_simp) ⟨Gr.refl _, rfl⟩
      · intro f w' g hF hD
        have h22 : f 22 = (.int .i64 (V : Int)) := hD 5 22 (by kernel_rfl) rfl
        have h27 : f 27 = (.int .u32 (F1 : Int)) := hD 10 27 (by kernel_rfl) rfl
        rw [if_pos (wanted_none rfl)]
        clear hF hD
        exact gives_build 46 _ rfl #[.int .i64 (V : Int), .int .u32 (F1 : Int)] (by simp only [List.map_toArray, List.map_cons, List.map_nil, evF, h22, h27]; kernel_rfl) ⟨Gr.refl _, rfl⟩
      · intro f w' g hF hD
        have h4 : f 4 = .slice (some ⟨bx, ox, none⟩) 6 cX := hF 4 (by kernel_rfl)
        rw [if_pos (wanted_none rfl)]
        clear hF hD
        exact gives_val (by simp only [execOp, evF, h4]; first | rfl | go_simp) ⟨Gr.refl _, rfl⟩
      · intro f w' g hF hD
        have h29 : f 29 = (.slice (some ⟨bx, ox, none⟩) 6 cX) := hD 12 29 (by kernel_rfl) rfl
        rw [if_pos (wanted_none rfl)]
        clear hF hD
        exact gives_val (by simp only [execOp, evF, h29]; first | rfl | go_simp) ⟨Gr.refl _, rfl⟩
      · intro f w' g hF hD
        have h30 : f 30 = (.pointer (some ⟨bx, ox + 2, none⟩)) := hD 13 30 (by kernel_rfl) rfl
        rw [if_pos (wanted_none rfl)]
        clear hF hD
        have cl : w'.cell? ⟨bx, ox + 2, none⟩ = some (.slice (some ⟨b2, o2, none⟩) 1 c2) := (g.cell (p := ⟨bx, ox + 2, none⟩) hbx).trans x2
        exact gives_val (by simp only [execOp, evF, h30]; go_simp) ⟨Gr.refl _, rfl⟩
      · intro f w' g hF hD
        have h31 : f 31 = (.slice (some ⟨b2, o2, none⟩) 1 c2) := hD 14 31 (by kernel_rfl) rfl
        rw [if_pos (wanted_none rfl)]
        clear hF hD
        exact gives_val (by simp only [execOp, evF, h31]; first | rfl | go_simp) ⟨Gr.refl _, rfl⟩
      · intro f w' g hF hD
        have h32 : f 32 = (.pointer (some ⟨b2, o2, none⟩)) := hD 15 32 (by kernel_rfl) rfl
        rw [if_pos (wanted_none rfl)]
        clear hF hD
        have cl : w'.cell? ⟨b2, o2, none⟩ = some (.int .u8 (M : Int)) := (g.cell (p := ⟨b2, o2, none⟩) hlt2).trans y2
        exact gives_val (by simp only [execOp, evF, h32]; go_simp) ⟨Gr.refl _, rfl⟩
      · intro f w' g hF hD
        have h33 : f 33 = (.int .u8 (M : Int)) := hD 16 33 (by kernel_rfl) rfl
        rw [if_pos (wanted_none rfl)]
        clear hF hD
        exact gives_val (by simp only [execOp, evF, h33]; first | rfl | go_simp) ⟨Gr.refl _, rfl⟩
      · intro f w' g hF hD
        have h4 : f 4 = .slice (some ⟨bx, ox, none⟩) 6 cX := hF 4 (by kernel_rfl)
        rw [if_pos (wanted_none rfl)]
        clear hF hD
        exact gives_val (by simp only [execOp, evF, h4]; first | rfl | go_simp) ⟨Gr.refl _, rfl⟩
      · intro f w' g hF hD
        have h35 : f 35 = (.slice (some ⟨bx, ox, none⟩) 6 cX) := hD 18 35 (by kernel_rfl) rfl
        rw [if_pos (wanted_none rfl)]
        clear hF hD
        exact gives_val (by simp only [execOp, evF, h35]; first | rfl | go_simp) ⟨Gr.refl _, rfl⟩
      · intro f w' g hF hD
        have h36 : f 36 = (.pointer (some ⟨bx, ox + 3, none⟩)) := hD 19 36 (by kernel_rfl) rfl
        rw [if_pos (wanted_none rfl)]
        clear hF hD
        have cl : w'.cell? ⟨bx, ox + 3, none⟩ = some (.slice A3 4 c3) := (g.cell (p := ⟨bx, ox + 3, none⟩) hbx).trans x3
        exact gives_val (by simp only [execOp, evF, h36]; go_simp) ⟨Gr.refl _, rfl⟩
      · intro f w' g hF hD
        have h37 : f 37 = (.slice A3 4 c3) := hD 20 37 (by kernel_rfl) rfl
        rw [if_pos (wanted_none rfl)]
        clear hF hD
        have kg : Below w3.heap.size w3 w' := (below_drewN (Below.refl _ _) 1).trans g
        refine gives_func rfl Try.func53 (by kernel_rfl) rfl (by simp only [List.map_toArray, List.map_cons, List.map_nil, evF, h37]) ((refNumber_c m3 A3 4 c3 w' HL5.out (HR3.out.below kg) (by decide)).mono ?_)
        rintro e w'' ⟨rfl, rfl⟩
        rw [HBF2.out]
        exact ⟨_, rfl, Gr.refl _, rfl⟩
      · intro f w' g hF hD
        have h38 : f 38 = (.int .u64 (F2 : Int)) := hD 21 38 (by kernel_rfl) rfl
        rw [if_pos (wanted_none rfl)]
        clear hF hD
        exact gives_val (by simp only [execOp, evF, h38]; first | rfl | go_simp) ⟨Gr.refl _, rfl⟩
      · intro f w' g hF hD
        have h34 : f 34 = (.int .i64 (M : Int)) := hD 17 34 (by kernel_rfl) rfl
        have h39 : f 39 = (.int .u32 (F2 : Int)) := hD 22 39 (by kernel_rfl) rfl
        rw [if_pos (wanted_none rfl)]
        clear hF hD
        exact gives_build 41 _ rfl #[.int .i64 (M : Int), .int .u32 (F2 : Int)] (by simp only [List.map_toArray, List.map_cons, List.map_nil, evF, h34, h39]; kernel_rfl) ⟨Gr.refl _, rfl⟩
      · intro f w' g hF hD
        have h28 : f 28 = (.agg #[.int .i64 (V : Int), .int .u32 (F1 : Int)]) := hD 11 28 (by kernel_rfl) rfl
        have h40 : f 40 = (.agg #[.int .i64 (M : Int), .int .u32 (F2 : Int)]) := hD 23 40 (by kernel_rfl) rfl
        rw [if_pos (wanted_none rfl)]
        clear hF hD
        exact gives_build 49 _ rfl (selC V F1 M F2 (zerB 16) (zerB 32)).toArray (by simp only [List.map_toArray, List.map_cons, List.map_nil, evF, h28, h40]; kernel_rfl) ⟨Gr.refl _, rfl⟩
      · intro f w' g hF hD
        rw [if_pos (wanted_none rfl)]
        clear hF hD
        have kg : Below w3.heap.size w3 w' := (below_drewN (Below.refl _ _) 1).trans g
        exact gives_val (by simp only [execOp, evF]; first | rfl | go_simp) ⟨(Below.refl _ _).alloc (Nat.le_refl _) _, w'.heap.size, rfl, kg.size, heap_alloc_new _ _⟩
    intro f' w4 g hD
    have h41 : f' 41 = .agg (selC V F1 M F2 (zerB 16) (zerB 32)).toArray := hD 24 41 (by decide) rfl
    obtain ⟨g6, h6, hB6, hg6⟩ : ∃ g, f' 6 = .pointer (some ⟨g, 0, none⟩) ∧ w3.heap.size ≤ g ∧ w4.heap[g]? = some (.cells (selC 0 0 0 0 (zerB 16) (zerB 32)).toArray 49 (0, 0)) := hD 25 6 (by decide) rfl
    simp only [List.drop_succ_cons, List.drop_zero, putAll, List.setIfInBounds_toArray, List.set_cons_zero, List.set_cons_succ, h41, h6]
    refine wpList_store_row rfl 49 (.tmp 6) (.tmp 41) rfl g6 (selC V F1 M F2 (zerB 16) (zerB 32)).toArray rfl rfl 49 _ hg6 (info_sel.trans rfl) rfl (sel_one _ _ _ _ _ _) ?_
    obtain ⟨w5, ew5⟩ : ∃ w5, w5 = w4.setRow g6 (selC V F1 M F2 (zerB 16) (zerB 32)).toArray := ⟨_, rfl⟩
    rw [← ew5]
    have hg5 : w5.heap[g6]? = some (.cells (selC V F1 M F2 (zerB 16) (zerB 32)).toArray 49 (0, 0)) := by rw [ew5]; exact setRow_heap _ _ _ _ _ _ hg6
    have k5 : Keeps (fun j => j = g6) w4 w5 := by rw [ew5]; exact (Zg.row hg6).1
    have kg : Below w3.heap.size w3 w4 := (below_drewN (Below.refl _ _) 1).trans g
    have k35 : Below w3.heap.size w3 w5 := keepsP_b kg k5 hB6 (Nat.le_refl _)
    have hgr3 : gr < w3.heap.size := heap_lt HG3.out
    have HG5 := Lib.hid ((k35.block gr hgr3).trans HG3.out)
    have HB5 := Lib.hid (HB3.out.trans (k35.mono HB3.out.size))
    have HR4' := Lib.hid (HR4.out.below k35)
    have HR5' := Lib.hid (HR5.out.below k35)
    have z4 : w5.cell? ⟨bx, ox + 4, none⟩ = some (.slice A4 16 c4) := (k35.cell (p := ⟨bx, _, none⟩) hbx).trans x4
    have Z5c : Hid (w5.cell? ⟨bx, ox + 5, none⟩ = some (.slice A5 32 c5)) := Lib.hid ((k35.cell (p := ⟨bx, _, none⟩) hbx).trans x5)
    have HGS : Hid (gr < g6 ∧ bx < g6 ∧ w.heap.size ≤ g6) := Lib.hid (by have := HB3.out.size; omega)
    have HH5 := Lib.hid hg5
    have HLT6 : Hid (∀ {v : Value} {a b : World} {i : Nat}, a.cell? ⟨bx, i, none⟩ = some v → Below g6 a b → b.cell? ⟨bx, i, none⟩ = some v) := Lib.hid (fun h hb => keepB1 HGS.out.2.1 h hb)
    have HRR5 : Hid (∀ {a b : World}, Below w3.heap.size w3 a → True) := Lib.hid (fun _ => trivial)
    have HKW : Hid (Below w3.heap.size w3 w5) := Lib.hid k35
    have HB36 := Lib.hid hB6
    have hbg := HGS.out.2.1
    clear ew5 hg5 k5 kg k35 hgr3 hD g h41 h6 hg6 x0 x1 x2 x3 x4 x5 y0 y2 hwF1 hwF2 hwV hwM hlt0 hlt2 hbx hB6 HRR5
    have HS0 : Hid (w5.drew.cell? ⟨bx, ox + 4, none⟩ = some (.slice A4 16 c4)) := Lib.hid z4
    have HNM : Hid ((NC.map bv).length = Nat.min 16 16) := Lib.hid (by rw [List.length_map, HLN.out]; rfl)
    have HFT : Hid (4 + (NC.map bv).length ≤ (selC V F1 M F2 (zerB 16) (zerB 32)).length) := Lib.hid (by rw [HNM.out]; simp [selC, zerB, HLN.out])
    have HSP : Hid (splice (selC V F1 M F2 (zerB 16) (zerB 32)) 4 (NC.map bv) = selC V F1 M F2 NC (zerB 32)) := Lib.hid (sel_splice1 _ _ _ _ _ _ _ HLN.out (by simp [zerB]))
    go_upto_region 5 with (fail)
    go_region_held3 (fun w' => w'.cell? ⟨bx, ox + 4, none⟩ = some (.slice A4 16 c4)) (first | (with_reducible exact HS0.out) | (with_reducible assumption) | exact keepB1 hbg (by with_reducible assumption) (by with_reducible assumption)) (first
      | (refine step_copy_splice rfl (.tmp 43) (.tmp 46) 25 25 rfl 5 Try.underlying25 (by kernel_rfl) _ _ 16 16 16 c4 rfl rfl g6 4 (selC V F1 M F2 (zerB 16) (zerB 32)) 49 HH5.out (NC.map bv) HNM.out (fun hp => ⟨rfl, copy_src HR4'.out hp⟩) HFT.out (bv_one _) g6 w5.drew (Below.refl _ _) (Nat.le_refl _) ?_; rw [HSP.out]; intro w6 hg6 hb6; have HBC := Lib.hid ((below_drewN (Below.refl g6 w5) 1).trans hb6)))
    clear HNM HFT HSP HS0
    have HG6 := Lib.hid ((HBC.out.block gr HGS.out.1).trans HG5.out)
    have HB6 := Lib.hid (HB5.out.trans (HBC.out.mono HGS.out.2.2))
    have HH6 := Lib.hid hg6.out
    have HR5n := Lib.hid (HR5.out.below (HKW.out.trans (HBC.out.mono HB36.out)))
    have z5 : w6.cell? ⟨bx, ox + 5, none⟩ = some (.slice A5 32 c5) := HLT6.out Z5c.out HBC.out
    clear hg6 hb6 HBC HG5 HB5 HH5 z4 Z5c
    have HS0 : Hid (w6.drew.cell? ⟨bx, ox + 5, none⟩ = some (.slice A5 32 c5)) := Lib.hid z5
    have HNM : Hid ((CF.map bv).length = Nat.min 32 32) := Lib.hid (by rw [List.length_map, HLC.out]; rfl)
    have HFT : Hid (20 + (CF.map bv).length ≤ (selC V F1 M F2 NC (zerB 32)).length) := Lib.hid (by rw [HNM.out]; simp [selC, zerB, HLN.out])
    have HSP : Hid (splice (selC V F1 M F2 NC (zerB 32)) 20 (CF.map bv) = selC V F1 M F2 NC CF) := Lib.hid (sel_splice2 _ _ _ _ _ _ _ HLN.out HLC.out (by simp [zerB]))
    go_upto_region 6 with (fail)
    go_region_held3 (fun w' => w'.cell? ⟨bx, ox + 5, none⟩ = some (.slice A5 32 c5)) (first | (with_reducible exact HS0.out) | (with_reducible assumption) | exact keepB1 hbg (by with_reducible assumption) (by with_reducible assumption)) (first
      | (refine step_copy_splice rfl (.tmp 49) (.tmp 52) 25 25 rfl 5 Try.underlying25 (by kernel_rfl) _ _ 32 32 32 c5 rfl rfl g6 20 (selC V F1 M F2 NC (zerB 32)) 49 HH6.out (CF.map bv) HNM.out (fun hp => ⟨rfl, copy_src HR5n.out hp⟩) HFT.out (bv_one _) g6 w6.drew (Below.refl _ _) (Nat.le_refl _) ?_; rw [HSP.out]; intro w7 hg6 hb6; have HBC := Lib.hid ((below_drewN (Below.refl g6 w6) 1).trans hb6)))
    clear HNM HFT HSP HS0
    have HG7 := Lib.hid ((HBC.out.block gr HGS.out.1).trans HG6.out)
    have HB7 := Lib.hid (HB6.out.trans (HBC.out.mono HGS.out.2.2))
    have HH7 := Lib.hid hg6.out
    clear hg6 hb6 HBC HG6 HB6 HH6 z5 hbg
    have HI : Hid ((Try.prog.info? 49).map (·.size) = some (selC V F1 M F2 NC CF).toArray.size) := Lib.hid (info_sel.trans (sel_size HLN.out HLC.out))
    have HSZ2 : Hid ((selC 0 0 0 0 (zerB 16) (zerB 32)).toArray.size = (selC V F1 M F2 NC CF).toArray.size) := Lib.hid (by simp [selC, zerB, HLN.out, HLC.out])
    have a0 : w7.cell? ⟨g6, 0, none⟩ = some (.int .i64 (V : Int)) := (heap_cell HH7.out 0).trans rfl
    have a1 : w7.cell? ⟨g6, 1, none⟩ = some (.int .u32 (F1 : Int)) := (heap_cell HH7.out 1).trans rfl
    go_wp2_with (fail)
    refine (refMay14_c (V : Int) F1 HU1.out w7).mono ?_
    rintro _ w8 ⟨rfl, hb⟩
    have HG8 := Lib.hid ((hb.block gr (heap_lt HG7.out)).trans HG7.out)
    have HH8 := Lib.hid ((hb.block g6 (heap_lt HH7.out)).trans HH7.out)
    have HB8 := Lib.hid (HB7.out.trans (hb.mono HB7.out.size))
    obtain ⟨O1, hO⟩ : ∃ O, mayF (V : Int) F1 = O := ⟨_, rfl⟩
    rw [hO]
    have HO1 := Lib.hid hO
    clear hO hb a0 a1 HG7 HH7 HB7
    have hE : ∀ b, selB bs = b → E = if b = true then 0 else 3 := by
      intro b hb
      rw [← HE.out]; unfold selE selS8; rw [hb]
      cases b with
      | true => rw [if_pos rfl]; show (badS (selS7 bs) false).err = 0; simp [badS]; exact HE0.out.trans H0.out
      | false => rw [if_neg (by decide)]; show (badS (selS7 bs) true).err = 3; simp [badS, HE0.out.trans H0.out]
    have HEB := Lib.hid hE
    clear hE
    have a2 : w8.cell? ⟨g6, 2, none⟩ = some (.int .i64 (M : Int)) := (heap_cell HH8.out 2).trans rfl
    cases O1 with
    | false =>
      have hb : selB bs = false := by unfold selB; rw [EV.out, EF1.out, HO1.out, EM.out]; rfl
      have hE' : E = 3 := by rw [HEB.out _ hb, if_neg (by decide)]
      have eR : R = selZ := by rw [← HRR.out]; unfold selR; rw [if_neg (by rw [HE.out, hE']; decide)]
      have ER := Lib.hid eR
      have EE := Lib.hid hE'
      clear eR hE' hb a2
      go_upto_region 8 with (fail)
      go_wp2_with (first
        | (refine wpList_buildTo rfl 49 #[] rfl _ rfl (selC 0 0 0 0 (zerB 16) (zerB 32)).toArray (by kernel_rfl) ?_)
        | (refine wpList_store_row rfl 49 (.tmp 2) (.tmp 70) rfl gr (selC 0 0 0 0 (zerB 16) (zerB 32)).toArray rfl rfl 49 _ HG8.out (info_sel.trans rfl) rfl (sel_one _ _ _ _ _ _) ?_))
      have HBF := Lib.hid (below_setRow (g := gr) HB8.out (Nat.le_of_eq EGR.out.symm) (selC 0 0 0 0 (zerB 16) (zerB 32)).toArray)
      refine bodyPost_ret (v := .tuple #[.agg (selC 0 0 0 0 (zerB 16) (zerB 32)).toArray, .int .i64 3]) (ref_sel_results _ gr 49 _ (0, 0) 3 rfl rfl _ (setRow_heap w8 gr _ _ _ _ HG8.out) (info_sel.trans rfl)) rfl ?_
      rw [ER.out, EE.out]
      exact ⟨rfl, HBF.out⟩
    | true =>
      by_cases m1 : (M : Int) < 1
      · have d1 : decide ((M : Int) < 1) = true := decide_eq_true m1
        have hO' : offB M = false := decide_eq_false (by omega)
        have hb : selB bs = false := by unfold selB; rw [EV.out, EF1.out, HO1.out, EM.out]; rw [hO']; rfl
        have hE' : E = 3 := by rw [HEB.out _ hb, if_neg (by decide)]
        have eR : R = selZ := by rw [← HRR.out]; unfold selR; rw [if_neg (by rw [HE.out, hE']; decide)]
        have ER := Lib.hid eR
        have EE := Lib.hid hE'
        clear eR hE' hb hO' m1
        go_upto_region 8 with (fail)
        go_wp2_with (first
          | (refine wpList_buildTo rfl 49 #[] rfl _ rfl (selC 0 0 0 0 (zerB 16) (zerB 32)).toArray (by kernel_rfl) ?_)
          | (refine wpList_store_row rfl 49 (.tmp 2) (.tmp 70) rfl gr (selC 0 0 0 0 (zerB 16) (zerB 32)).toArray rfl rfl 49 _ HG8.out (info_sel.trans rfl) rfl (sel_one _ _ _ _ _ _) ?_))
        have HBF := Lib.hid (below_setRow (g := gr) HB8.out (Nat.le_of_eq EGR.out.symm) (selC 0 0 0 0 (zerB 16) (zerB 32)).toArray)
        refine bodyPost_ret (v := .tuple #[.agg (selC 0 0 0 0 (zerB 16) (zerB 32)).toArray, .int .i64 3]) (ref_sel_results _ gr 49 _ (0, 0) 3 rfl rfl _ (setRow_heap w8 gr _ _ _ _ HG8.out) (info_sel.trans rfl)) rfl ?_
        rw [ER.out, EE.out]
        exact ⟨rfl, HBF.out⟩
      by_cases m3 : (3 : Int) < (M : Int)
      · have d1 : decide ((M : Int) < 1) = false := decide_eq_false m1
        have d3 : decide ((3 : Int) < (M : Int)) = true := decide_eq_true m3
        have hO' : offB M = false := decide_eq_false (by omega)
        have hb : selB bs = false := by unfold selB; rw [EV.out, EF1.out, HO1.out, EM.out]; rw [hO']; rfl
        have hE' : E = 3 := by rw [HEB.out _ hb, if_neg (by decide)]
        have eR : R = selZ := by rw [← HRR.out]; unfold selR; rw [if_neg (by rw [HE.out, hE']; decide)]
        have ER := Lib.hid eR
        have EE := Lib.hid hE'
        clear eR hE' hb hO' m1 m3
        go_upto_region 8 with (fail)
        go_wp2_with (first
          | (refine wpList_buildTo rfl 49 #[] rfl _ rfl (selC 0 0 0 0 (zerB 16) (zerB 32)).toArray (by kernel_rfl) ?_)
          | (refine wpList_store_row rfl 49 (.tmp 2) (.tmp 70) rfl gr (selC 0 0 0 0 (zerB 16) (zerB 32)).toArray rfl rfl 49 _ HG8.out (info_sel.trans rfl) rfl (sel_one _ _ _ _ _ _) ?_))
        have HBF := Lib.hid (below_setRow (g := gr) HB8.out (Nat.le_of_eq EGR.out.symm) (selC 0 0 0 0 (zerB 16) (zerB 32)).toArray)
        refine bodyPost_ret (v := .tuple #[.agg (selC 0 0 0 0 (zerB 16) (zerB 32)).toArray, .int .i64 3]) (ref_sel_results _ gr 49 _ (0, 0) 3 rfl rfl _ (setRow_heap w8 gr _ _ _ _ HG8.out) (info_sel.trans rfl)) rfl ?_
        rw [ER.out, EE.out]
        exact ⟨rfl, HBF.out⟩
      have d1 : decide ((M : Int) < 1) = false := decide_eq_false m1
      have d3 : decide ((3 : Int) < (M : Int)) = false := decide_eq_false m3
      have hO' : offB M = true := decide_eq_true (by omega)
      have hb : selB bs = true := by unfold selB; rw [EV.out, EF1.out, HO1.out, EM.out, hO']; rfl
      have hE' : E = 0 := by rw [HEB.out _ hb, if_pos rfl]
      have eR : R = ⟨V, F1, M, F2, NC, CF⟩ := by rw [← HRR.out]; unfold selR; rw [if_pos (HE.out.trans hE'), EV.out, EF1.out, EM.out, EF2.out, ENC.out, ECF.out]
      have ER := Lib.hid eR
      have EE := Lib.hid hE'
      clear eR hE' hb hO' m1 m3
      go_wp2_with (first
        | (refine wpList_load_row rfl 49 (.tmp 6) rfl g6 rfl 49 _ (0, 0) _ HH8.out Try.underlying49 rfl HI.out ?_)
        | (refine wpList_store_row rfl 49 (.tmp 2) (.tmp 71) rfl gr (selC V F1 M F2 NC CF).toArray rfl rfl 49 _ HG8.out HI.out HSZ2.out (sel_one _ _ _ _ _ _) ?_))
      have HBF := Lib.hid (below_setRow (g := gr) HB8.out (Nat.le_of_eq EGR.out.symm) (selC V F1 M F2 NC CF).toArray)
      refine bodyPost_ret (v := .tuple #[.agg (selC V F1 M F2 NC CF).toArray, .int .i64 0]) (ref_sel_results _ gr 49 _ (0, 0) 0 rfl rfl _ (setRow_heap w8 gr _ _ _ _ HG8.out) HI.out) rfl ?_
      rw [ER.out, EE.out]
      exact ⟨rfl, HBF.out⟩
  · have d0 : ((E0 : Int) != 0) = true := by rw [bne_iff_ne]; omega
    have hE : E = E0 := by rw [← HE.out]; unfold selE selS8; rw [badS_sticks (by rw [HE0.out]; exact h0), HE0.out]
    have eR : R = selZ := by rw [← HRR.out]; unfold selR; rw [if_neg (by rw [HE.out, hE]; exact h0)]
    have ER := Lib.hid eR
    have EE := Lib.hid hE
    clear hE eR h0
    go_upto_region 3 with (fail)
    go_wp2_with (first
      | (refine wpList_buildTo rfl 49 #[] rfl _ rfl (selC 0 0 0 0 (zerB 16) (zerB 32)).toArray (by kernel_rfl) ?_)
      | (refine wpList_store_row rfl 49 (.tmp 2) (.tmp 15) rfl gr (selC 0 0 0 0 (zerB 16) (zerB 32)).toArray rfl rfl 49 _ HG3.out (info_sel.trans rfl) rfl (sel_one _ _ _ _ _ _) ?_))
    have HBF := Lib.hid (below_setRow (g := gr) HB3.out (Nat.le_of_eq EGR.out.symm) (selC 0 0 0 0 (zerB 16) (zerB 32)).toArray)
    refine bodyPost_ret (v := .tuple #[.agg (selC 0 0 0 0 (zerB 16) (zerB 32)).toArray, .int .i64 (E0 : Int)]) (ref_sel_results _ gr 49 _ (0, 0) (E0 : Int) rfl rfl _ (setRow_heap w3 gr _ _ _ _ HG3.out) (info_sel.trans rfl)) rfl ?_
    rw [ER.out, EE.out]
    exact ⟨rfl, HBF.out⟩
end Go.Proofs.Ytcffinkkfdfcaaa
