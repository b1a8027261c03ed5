/- Parts one behind the other: What the reference's whole answers: the rune whose bytes these are; What the reference's whole and Valid answer of any bytes. Conditions: as told at each. -/
import Derived.Test.YtipofokinjkclaaDoorPC9

set_option linter.unusedVariables false
set_option linter.unusedSimpArgs false
/- What the reference's whole answers: the rune whose bytes these are. Conditions: bytes that can be read. -/
namespace Go.Proofs.YtipofokinjkclaaDoor
open Go Go.RowKit Go.Lib

def whR (bs : List UInt8) : Int := (wholeO bs).getD 0
theorem whole_yes {bs : List UInt8} (h1 : mayR (numW bs) = true) (h2 : encodeRune (numW bs) = bs) : wholeO bs = some (numW bs) := by
  rw [wholeO, h1, decide_eq_true h2]; rfl
theorem whole_no1 {bs : List UInt8} (h1 : mayR (numW bs) = false) : wholeO bs = none := by
  rw [wholeO, h1]; rfl
theorem whole_no2 {bs : List UInt8} (h2 : encodeRune (numW bs) ≠ bs) : wholeO bs = none := by
  rw [wholeO, decide_eq_false h2, Bool.and_false]; rfl
/-- The first k of two lists are the same. -/
theorem take_next {a b : List UInt8} {k : Nat} (ha : k < a.length) (hb : k < b.length) (h : a.take k = b.take k) (e : a[k] = b[k]) : a.take (k + 1) = b.take (k + 1) := by
  rw [List.take_succ_eq_append_getElem ha, List.take_succ_eq_append_getElem hb, h, e]
theorem not_same {a b : List UInt8} {k : Nat} (ha : k < a.length) (hb : k < b.length) (e : a[k] ≠ b[k]) : a ≠ b := by
  rintro rfl; exact e rfl
def WhPost (bs : List UInt8) (w : World) (e : Ending) (w' : World) : Prop := e = .returned (.tuple #[.int .i32 (whR bs), .bool (wholeO bs).isSome]) ∧ Below w.heap.size w w'
theorem whPost_no {bs : List UInt8} {w w' : World} (h : wholeO bs = none) (hb : Below w.heap.size w w') : WhPost bs w (.returned (.tuple #[.int .i32 0, .bool false])) w' := by
  refine ⟨?_, hb⟩
  rw [whR, h]; rfl
theorem whPost_yes {bs : List UInt8} {w w' : World} {N : Int} (h : wholeO bs = some N) (hb : Below w.heap.size w w') : WhPost bs w (.returned (.tuple #[.int .i32 N, .bool true])) w' := by
  refine ⟨?_, hb⟩
  rw [whR, h]; rfl
set_option maxRecDepth 100000 in
set_option maxHeartbeats 16000000 in
theorem whole1_c (a0 : UInt8) (A : Option Addr) (c : Nat) (bs : List UInt8) (w : World) (hbs : bs = [a0]) (hr : Rd w A (bs.map bv)) :
    Calls Tryd.prog 98 #[.slice A 1 c] w (WhPost bs w) := by
  have hlen : bs.length = 1 := by rw [hbs]; rfl
  obtain ⟨b, off, rfl, hb, hc⟩ := hr.addrB (by omega)
  have c0 : w.cell? ⟨b, off, none⟩ = some (.int .u8 ((a0.toNat : Nat) : Int)) := by have := hc 0 (by omega); rw [Nat.add_zero] at this; rw [this]; simp only [hbs, bv]; rfl
  have u0 := a0.toNat_lt
  have HR := Lib.hid hr
  have HLEN := Lib.hid hlen
  obtain ⟨N, eN⟩ : ∃ N, ((a0.toNat : Nat) : Int) = N := ⟨_, rfl⟩
  have ENW : Hid (numW bs = N) := Lib.hid (by rw [hbs, ← eN]; rfl)
  have hN : -100000000 ≤ N ∧ N ≤ 100000000 := by omega
  obtain ⟨hN1, hN2⟩ := hN
  have EN := Lib.hid eN
  clear hbs hr hc hlen eN
  go_enter Tryd.func98, Tryd.ntmps98
  go_upto_region 12 with (fail)
  rw [EN.out]
  clear c0 u0
  rcases Int.lt_or_le N 0 with q0 | q0
  · have hno : wholeO bs = none := whole_no1 (by rw [ENW.out]; cases h : mayR N; rfl; simp only [mayR, inR, Bool.or_eq_true, Bool.and_eq_true, decide_eq_true_eq] at h; omega)
    have HNO := Lib.hid hno
    have d1 : decide (N < 0) = true := decide_eq_true q0
    clear hno q0
    go_wp2_with (fail)
    go_ret2
    exact whPost_no HNO.out (Below.refl w.heap.size w)
  have d1 : decide (N < 0) = false := decide_eq_false (by omega)
  rcases Int.lt_or_le 1114111 N with q1 | q1
  · have hno : wholeO bs = none := whole_no1 (by rw [ENW.out]; cases h : mayR N; rfl; simp only [mayR, inR, Bool.or_eq_true, Bool.and_eq_true, decide_eq_true_eq] at h; omega)
    have HNO := Lib.hid hno
    have d2 : decide (1114111 < N) = true := decide_eq_true q1
    clear hno q0 q1
    go_wp2_with (fail)
    go_ret2
    exact whPost_no HNO.out (Below.refl w.heap.size w)
  have d2 : decide (1114111 < N) = false := decide_eq_false (by omega)
  obtain ⟨MM, eM⟩ : ∃ MM, mayR N = MM := ⟨_, rfl⟩
  have EMM := Lib.hid eM
  obtain ⟨E, eE⟩ : ∃ E, encodeRune (if MM then N else 65533) = E := ⟨_, rfl⟩
  have hen : ∀ w, Calls Tryd.prog 134 #[.int .i32 N] w fun e w' => ∃ v, e = .returned v ∧ OwnB w' w.heap.size v E ∧ Below w.heap.size w w' := fun w => by have := refEncode_c N w; rw [eM, eE] at this; exact this
  have HEN := Lib.hid hen
  have EE := Lib.hid eE
  clear hen eE eM
  cases MM
  · have hno : wholeO bs = none := whole_no1 (by rw [ENW.out]; exact EMM.out)
    have HNO := Lib.hid hno
    clear hno
    go_wp2_with (first | (go_at_call 134; (with_reducible refine (HEN.out _).mono ?_); rintro _ w1 ⟨v1, rfl, ho1, hb1⟩; obtain ⟨A1, k1, rfl, p1, p2, p3, -⟩ := ho1.form; have H1 := Lib.hid p3; have HB1 : Hid (Below w.heap.size w w1) := Lib.hid ((Below.refl w.heap.size w).trans hb1); clear ho1 hb1 p1 p2 p3) | (go_at_call 101; refine (refMayR_c _ _).mono ?_; rintro _ wq ⟨rfl, hq⟩; rw [EMM.out, hq]; clear hq wq))
    go_ret2
    exact whPost_no HNO.out HB1.out
  have EE2 : Hid (encodeRune (numW bs) = E) := Lib.hid (by rw [ENW.out]; exact EE.out)
  obtain ⟨q, eq⟩ : ∃ q, E.length = q := ⟨_, rfl⟩
  have EQ := Lib.hid eq
  by_cases hq : q = 1
  rotate_left
  · have hno : wholeO bs = none := whole_no2 (by rw [EE2.out]; intro h; apply hq; rw [← eq, h, HLEN.out])
    have HNO := Lib.hid hno
    have d3 : ((q : Int) != 1) = true := by rw [bne_iff_ne]; omega
    have d4 : (q != 1) = true := by rw [bne_iff_ne]; omega
    clear hno hq
    go_wp2_with (first | (go_at_call 134; (with_reducible refine (HEN.out _).mono ?_); rintro _ w1 ⟨v1, rfl, ho1, hb1⟩; obtain ⟨A1, k1, rfl, p1, p2, p3, -⟩ := ho1.form; have H1 := Lib.hid p3; rw [EQ.out]; have HB1 : Hid (Below w.heap.size w w1) := Lib.hid ((Below.refl w.heap.size w).trans hb1); clear ho1 hb1 p1 p2 p3) | (go_at_call 101; refine (refMayR_c _ _).mono ?_; rintro _ wq ⟨rfl, hq⟩; rw [EMM.out, hq]; clear hq wq))
    go_ret2
    exact whPost_no HNO.out HB1.out
  subst hq
  clear eq
  go_wp2_with (first | (go_at_call 134; (with_reducible refine (HEN.out _).mono ?_); rintro _ w1 ⟨v1, rfl, ho1, hb1⟩; obtain ⟨A1, k1, rfl, p1, p2, p3, -⟩ := ho1.form; have H1 := Lib.hid p3; rw [EQ.out]; have HB1 : Hid (Below w.heap.size w w1) := Lib.hid ((Below.refl w.heap.size w).trans hb1); clear ho1 hb1 p1 p2 p3) | (go_at_call 101; refine (refMayR_c _ _).mono ?_; rintro _ wq ⟨rfl, hq⟩; rw [EMM.out, hq]; clear hq wq))
  obtain ⟨W1, hW1⟩ : ∃ W1, W1 = w1 := ⟨_, rfl⟩
  subst hW1
  go_loopw [100] (fun i wr => ∃ k : Nat, k ≤ 1 ∧ i = .int .i64 k ∧ Hid (E.take k = bs.take k) ∧ Hid (Below W1.heap.size W1 wr)) (fun i _ => 1 - (intOf i).toNat)
  case atStart => exact ⟨0, Nat.zero_le _, rfl, Lib.hid rfl, Lib.hid (Below.refl _ _)⟩
  case round =>
    obtain ⟨k, hk, rfl, HG, HBW⟩ := hrel
    rcases Nat.lt_or_ge k 1 with hlt | hge
    · have hlt' : (k : Int) < 1 := by omega
      have hkE : k < E.length := by rw [EQ.out]; exact hlt
      have hkB : k < bs.length := by rw [HLEN.out]; exact hlt
      obtain ⟨g1, o1, rfl, hg1, hc1⟩ := H1.out.addrB (by omega)
      have e1 := (HBW.out.cell (p := ⟨g1, _, none⟩) hg1).trans (hc1 k hkE)
      obtain ⟨g2, o2, eA2, hg2, hc2⟩ := HR.out.addrB (by omega)
      injection eA2 with eA2
      injection eA2 with eA2 eA3
      subst eA2 eA3
      have e2 := ((HB1.out.trans (HBW.out.mono HB1.out.size)).cell (p := ⟨b, _, none⟩) hg2).trans (hc2 k hkB)
      obtain ⟨x, ex⟩ : ∃ x, E[k] = x := ⟨_, rfl⟩
      obtain ⟨y, ey⟩ : ∃ y, bs[k] = y := ⟨_, rfl⟩
      rw [ex] at e1
      rw [ey] at e2
      unfold bv at e1 e2
      have EX := Lib.hid ex
      have EY := Lib.hid ey
      clear ex ey hc1 hc2
      by_cases hxy : x = y
      · have HG2 : Hid (E.take (k + 1) = bs.take (k + 1)) := Lib.hid (take_next hkE hkB HG.out (by rw [EX.out, EY.out, hxy]))
        have n1 : (((x.toNat : Nat) : Int) != ((y.toNat : Nat) : Int)) = false := by rw [hxy, bne, beq_self_eq_true]; rfl
        have n2 : (x.toNat != y.toNat) = false := by rw [hxy, bne, beq_self_eq_true]; rfl
        clear hxy
        go_wp2_with (fail)
        go_quiet (fail)
        go_wp2_with (fail)
        go_roundw
        case rel => exact ⟨k + 1, by omega, by go_num, HG2, Lib.hid (below_drewN HBW.out _)⟩
        case measure => simp [intOf]; omega
      · have hno : wholeO bs = none := whole_no2 (by rw [EE2.out]; exact not_same hkE hkB (by rw [EX.out, EY.out]; exact hxy))
        have hxn : x.toNat ≠ y.toNat := fun h => hxy (UInt8.toNat_inj.1 h)
        have n1 : (((x.toNat : Nat) : Int) != ((y.toNat : Nat) : Int)) = true := by rw [bne_iff_ne]; omega
        have n2 : (x.toNat != y.toNat) = true := by rw [bne_iff_ne]; exact hxn
        have HNO := Lib.hid hno
        clear hno hxy hxn
        go_wp2_with (fail)
        go_quiet (fail)
        go_wp2_with (fail)
        go_ret2
        exact whPost_no HNO.out (below_drewN (HB1.out.trans (HBW.out.mono HB1.out.size)) _)
    · have hk4 : k = 1 := by omega
      have hyes : wholeO bs = some N := by
        have h := HG.out
        rw [List.take_of_length_le (by rw [EQ.out]; omega), List.take_of_length_le (by rw [HLEN.out]; omega)] at h
        have := whole_yes (bs := bs) (by rw [ENW.out]; exact EMM.out) (by rw [EE2.out]; exact h)
        rw [ENW.out] at this; exact this
      have HY := Lib.hid hyes
      have hge' : ¬ ((k : Int) < 1) := by omega
      clear hyes
      go_wp2_with (fail)
      go_ret2
      exact whPost_yes HY.out (HB1.out.trans (HBW.out.mono HB1.out.size))
set_option maxRecDepth 100000 in
set_option maxHeartbeats 16000000 in
theorem whole2_c (a0 a1 : UInt8) (A : Option Addr) (c : Nat) (bs : List UInt8) (w : World) (hbs : bs = [a0, a1]) (hr : Rd w A (bs.map bv)) :
    Calls Tryd.prog 98 #[.slice A 2 c] w (WhPost bs w) := by
  have hlen : bs.length = 2 := by rw [hbs]; rfl
  obtain ⟨b, off, rfl, hb, hc⟩ := hr.addrB (by omega)
  have c0 : w.cell? ⟨b, off, none⟩ = some (.int .u8 ((a0.toNat : Nat) : Int)) := by have := hc 0 (by omega); rw [Nat.add_zero] at this; rw [this]; simp only [hbs, bv]; rfl
  have c1 : w.cell? ⟨b, off + 1, none⟩ = some (.int .u8 ((a1.toNat : Nat) : Int)) := by have := hc 1 (by omega); rw [this]; simp only [hbs, bv]; rfl
  have u0 := a0.toNat_lt
  have u1 := a1.toNat_lt
  have HR := Lib.hid hr
  have HLEN := Lib.hid hlen
  obtain ⟨N, eN⟩ : ∃ N, (((a0.toNat : Nat) : Int) - 192) * 64 + ((a1.toNat : Nat) : Int) - 128 = N := ⟨_, rfl⟩
  have ENW : Hid (numW bs = N) := Lib.hid (by rw [hbs, ← eN]; rfl)
  have hN : -100000000 ≤ N ∧ N ≤ 100000000 := by omega
  obtain ⟨hN1, hN2⟩ := hN
  have EN := Lib.hid eN
  clear hbs hr hc hlen eN
  go_enter Tryd.func98, Tryd.ntmps98
  go_wp2_with (fail)
  go_quiet (fail)
  go_upto_region 12 with (fail)
  rw [EN.out]
  clear c0 c1 u0 u1
  rcases Int.lt_or_le N 0 with q0 | q0
  · have hno : wholeO bs = none := whole_no1 (by rw [ENW.out]; cases h : mayR N; rfl; simp only [mayR, inR, Bool.or_eq_true, Bool.and_eq_true, decide_eq_true_eq] at h; omega)
    have HNO := Lib.hid hno
    have d1 : decide (N < 0) = true := decide_eq_true q0
    clear hno q0
    go_wp2_with (fail)
    go_ret2
    exact whPost_no HNO.out (below_drewN (Below.refl w.heap.size w) _)
  have d1 : decide (N < 0) = false := decide_eq_false (by omega)
  rcases Int.lt_or_le 1114111 N with q1 | q1
  · have hno : wholeO bs = none := whole_no1 (by rw [ENW.out]; cases h : mayR N; rfl; simp only [mayR, inR, Bool.or_eq_true, Bool.and_eq_true, decide_eq_true_eq] at h; omega)
    have HNO := Lib.hid hno
    have d2 : decide (1114111 < N) = true := decide_eq_true q1
    clear hno q0 q1
    go_wp2_with (fail)
    go_ret2
    exact whPost_no HNO.out (below_drewN (Below.refl w.heap.size w) _)
  have d2 : decide (1114111 < N) = false := decide_eq_false (by omega)
  obtain ⟨MM, eM⟩ : ∃ MM, mayR N = MM := ⟨_, rfl⟩
  have EMM := Lib.hid eM
  obtain ⟨E, eE⟩ : ∃ E, encodeRune (if MM then N else 65533) = E := ⟨_, rfl⟩
  have hen : ∀ w, Calls Tryd.prog 134 #[.int .i32 N] w fun e w' => ∃ v, e = .returned v ∧ OwnB w' w.heap.size v E ∧ Below w.heap.size w w' := fun w => by have := refEncode_c N w; rw [eM, eE] at this; exact this
  have HEN := Lib.hid hen
  have EE := Lib.hid eE
  clear hen eE eM
  cases MM
  · have hno : wholeO bs = none := whole_no1 (by rw [ENW.out]; exact EMM.out)
    have HNO := Lib.hid hno
    clear hno
    go_wp2_with (first | (go_at_call 134; (with_reducible refine (HEN.out _).mono ?_); rintro _ w1 ⟨v1, rfl, ho1, hb1⟩; obtain ⟨A1, k1, rfl, p1, p2, p3, -⟩ := ho1.form; have H1 := Lib.hid p3; have HB1 : Hid (Below w.heap.size w w1) := Lib.hid ((below_drewN (Below.refl w.heap.size w) _).trans hb1); clear ho1 hb1 p1 p2 p3) | (go_at_call 101; refine (refMayR_c _ _).mono ?_; rintro _ wq ⟨rfl, hq⟩; rw [EMM.out, hq]; clear hq wq))
    go_ret2
    exact whPost_no HNO.out HB1.out
  have EE2 : Hid (encodeRune (numW bs) = E) := Lib.hid (by rw [ENW.out]; exact EE.out)
  obtain ⟨q, eq⟩ : ∃ q, E.length = q := ⟨_, rfl⟩
  have EQ := Lib.hid eq
  by_cases hq : q = 2
  rotate_left
  · have hno : wholeO bs = none := whole_no2 (by rw [EE2.out]; intro h; apply hq; rw [← eq, h, HLEN.out])
    have HNO := Lib.hid hno
    have d3 : ((q : Int) != 2) = true := by rw [bne_iff_ne]; omega
    have d4 : (q != 2) = true := by rw [bne_iff_ne]; omega
    clear hno hq
    go_wp2_with (first | (go_at_call 134; (with_reducible refine (HEN.out _).mono ?_); rintro _ w1 ⟨v1, rfl, ho1, hb1⟩; obtain ⟨A1, k1, rfl, p1, p2, p3, -⟩ := ho1.form; have H1 := Lib.hid p3; rw [EQ.out]; have HB1 : Hid (Below w.heap.size w w1) := Lib.hid ((below_drewN (Below.refl w.heap.size w) _).trans hb1); clear ho1 hb1 p1 p2 p3) | (go_at_call 101; refine (refMayR_c _ _).mono ?_; rintro _ wq ⟨rfl, hq⟩; rw [EMM.out, hq]; clear hq wq))
    go_ret2
    exact whPost_no HNO.out HB1.out
  subst hq
  clear eq
  go_wp2_with (first | (go_at_call 134; (with_reducible refine (HEN.out _).mono ?_); rintro _ w1 ⟨v1, rfl, ho1, hb1⟩; obtain ⟨A1, k1, rfl, p1, p2, p3, -⟩ := ho1.form; have H1 := Lib.hid p3; rw [EQ.out]; have HB1 : Hid (Below w.heap.size w w1) := Lib.hid ((below_drewN (Below.refl w.heap.size w) _).trans hb1); clear ho1 hb1 p1 p2 p3) | (go_at_call 101; refine (refMayR_c _ _).mono ?_; rintro _ wq ⟨rfl, hq⟩; rw [EMM.out, hq]; clear hq wq))
  obtain ⟨W1, hW1⟩ : ∃ W1, W1 = w1 := ⟨_, rfl⟩
  subst hW1
  go_loopw [100] (fun i wr => ∃ k : Nat, k ≤ 2 ∧ i = .int .i64 k ∧ Hid (E.take k = bs.take k) ∧ Hid (Below W1.heap.size W1 wr)) (fun i _ => 2 - (intOf i).toNat)
  case atStart => exact ⟨0, Nat.zero_le _, rfl, Lib.hid rfl, Lib.hid (Below.refl _ _)⟩
  case round =>
    obtain ⟨k, hk, rfl, HG, HBW⟩ := hrel
    rcases Nat.lt_or_ge k 2 with hlt | hge
    · have hlt' : (k : Int) < 2 := by omega
      have hkE : k < E.length := by rw [EQ.out]; exact hlt
      have hkB : k < bs.length := by rw [HLEN.out]; exact hlt
      obtain ⟨g1, o1, rfl, hg1, hc1⟩ := H1.out.addrB (by omega)
      have e1 := (HBW.out.cell (p := ⟨g1, _, none⟩) hg1).trans (hc1 k hkE)
      obtain ⟨g2, o2, eA2, hg2, hc2⟩ := HR.out.addrB (by omega)
      injection eA2 with eA2
      injection eA2 with eA2 eA3
      subst eA2 eA3
      have e2 := ((HB1.out.trans (HBW.out.mono HB1.out.size)).cell (p := ⟨b, _, none⟩) hg2).trans (hc2 k hkB)
      obtain ⟨x, ex⟩ : ∃ x, E[k] = x := ⟨_, rfl⟩
      obtain ⟨y, ey⟩ : ∃ y, bs[k] = y := ⟨_, rfl⟩
      rw [ex] at e1
      rw [ey] at e2
      unfold bv at e1 e2
      have EX := Lib.hid ex
      have EY := Lib.hid ey
      clear ex ey hc1 hc2
      by_cases hxy : x = y
      · have HG2 : Hid (E.take (k + 1) = bs.take (k + 1)) := Lib.hid (take_next hkE hkB HG.out (by rw [EX.out, EY.out, hxy]))
        have n1 : (((x.toNat : Nat) : Int) != ((y.toNat : Nat) : Int)) = false := by rw [hxy, bne, beq_self_eq_true]; rfl
        have n2 : (x.toNat != y.toNat) = false := by rw [hxy, bne, beq_self_eq_true]; rfl
        clear hxy
        go_wp2_with (fail)
        go_quiet (fail)
        go_wp2_with (fail)
        go_roundw
        case rel => exact ⟨k + 1, by omega, by go_num, HG2, Lib.hid (below_drewN HBW.out _)⟩
        case measure => simp [intOf]; omega
      · have hno : wholeO bs = none := whole_no2 (by rw [EE2.out]; exact not_same hkE hkB (by rw [EX.out, EY.out]; exact hxy))
        have hxn : x.toNat ≠ y.toNat := fun h => hxy (UInt8.toNat_inj.1 h)
        have n1 : (((x.toNat : Nat) : Int) != ((y.toNat : Nat) : Int)) = true := by rw [bne_iff_ne]; omega
        have n2 : (x.toNat != y.toNat) = true := by rw [bne_iff_ne]; exact hxn
        have HNO := Lib.hid hno
        clear hno hxy hxn
        go_wp2_with (fail)
        go_quiet (fail)
        go_wp2_with (fail)
        go_ret2
        exact whPost_no HNO.out (below_drewN (HB1.out.trans (HBW.out.mono HB1.out.size)) _)
    · have hk4 : k = 2 := by omega
      have hyes : wholeO bs = some N := by
        have h := HG.out
        rw [List.take_of_length_le (by rw [EQ.out]; omega), List.take_of_length_le (by rw [HLEN.out]; omega)] at h
        have := whole_yes (bs := bs) (by rw [ENW.out]; exact EMM.out) (by rw [EE2.out]; exact h)
        rw [ENW.out] at this; exact this
      have HY := Lib.hid hyes
      have hge' : ¬ ((k : Int) < 2) := by omega
      clear hyes
      go_wp2_with (fail)
      go_ret2
      exact whPost_yes HY.out (HB1.out.trans (HBW.out.mono HB1.out.size))
set_option maxRecDepth 100000 in
set_option maxHeartbeats 16000000 in
theorem whole3_c (a0 a1 a2 : UInt8) (A : Option Addr) (c : Nat) (bs : List UInt8) (w : World) (hbs : bs = [a0, a1, a2]) (hr : Rd w A (bs.map bv)) :
    Calls Tryd.prog 98 #[.slice A 3 c] w (WhPost bs w) := by
  have hlen : bs.length = 3 := by rw [hbs]; rfl
  obtain ⟨b, off, rfl, hb, hc⟩ := hr.addrB (by omega)
  have c0 : w.cell? ⟨b, off, none⟩ = some (.int .u8 ((a0.toNat : Nat) : Int)) := by have := hc 0 (by omega); rw [Nat.add_zero] at this; rw [this]; simp only [hbs, bv]; rfl
  have c1 : w.cell? ⟨b, off + 1, none⟩ = some (.int .u8 ((a1.toNat : Nat) : Int)) := by have := hc 1 (by omega); rw [this]; simp only [hbs, bv]; rfl
  have c2 : w.cell? ⟨b, off + 2, none⟩ = some (.int .u8 ((a2.toNat : Nat) : Int)) := by have := hc 2 (by omega); rw [this]; simp only [hbs, bv]; rfl
  have u0 := a0.toNat_lt
  have u1 := a1.toNat_lt
  have u2 := a2.toNat_lt
  have HR := Lib.hid hr
  have HLEN := Lib.hid hlen
  obtain ⟨N, eN⟩ : ∃ N, (((a0.toNat : Nat) : Int) - 224) * 4096 + (((a1.toNat : Nat) : Int) - 128) * 64 + ((a2.toNat : Nat) : Int) - 128 = N := ⟨_, rfl⟩
  have ENW : Hid (numW bs = N) := Lib.hid (by rw [hbs, ← eN]; rfl)
  have hN : -100000000 ≤ N ∧ N ≤ 100000000 := by omega
  obtain ⟨hN1, hN2⟩ := hN
  have EN := Lib.hid eN
  clear hbs hr hc hlen eN
  go_enter Tryd.func98, Tryd.ntmps98
  go_wp2_with (fail)
  go_quiet (fail)
  go_upto_region 12 with (fail)
  rw [EN.out]
  clear c0 c1 c2 u0 u1 u2
  rcases Int.lt_or_le N 0 with q0 | q0
  · have hno : wholeO bs = none := whole_no1 (by rw [ENW.out]; cases h : mayR N; rfl; simp only [mayR, inR, Bool.or_eq_true, Bool.and_eq_true, decide_eq_true_eq] at h; omega)
    have HNO := Lib.hid hno
    have d1 : decide (N < 0) = true := decide_eq_true q0
    clear hno q0
    go_wp2_with (fail)
    go_ret2
    exact whPost_no HNO.out (below_drewN (Below.refl w.heap.size w) _)
  have d1 : decide (N < 0) = false := decide_eq_false (by omega)
  rcases Int.lt_or_le 1114111 N with q1 | q1
  · have hno : wholeO bs = none := whole_no1 (by rw [ENW.out]; cases h : mayR N; rfl; simp only [mayR, inR, Bool.or_eq_true, Bool.and_eq_true, decide_eq_true_eq] at h; omega)
    have HNO := Lib.hid hno
    have d2 : decide (1114111 < N) = true := decide_eq_true q1
    clear hno q0 q1
    go_wp2_with (fail)
    go_ret2
    exact whPost_no HNO.out (below_drewN (Below.refl w.heap.size w) _)
  have d2 : decide (1114111 < N) = false := decide_eq_false (by omega)
  obtain ⟨MM, eM⟩ : ∃ MM, mayR N = MM := ⟨_, rfl⟩
  have EMM := Lib.hid eM
  obtain ⟨E, eE⟩ : ∃ E, encodeRune (if MM then N else 65533) = E := ⟨_, rfl⟩
  have hen : ∀ w, Calls Tryd.prog 134 #[.int .i32 N] w fun e w' => ∃ v, e = .returned v ∧ OwnB w' w.heap.size v E ∧ Below w.heap.size w w' := fun w => by have := refEncode_c N w; rw [eM, eE] at this; exact this
  have HEN := Lib.hid hen
  have EE := Lib.hid eE
  clear hen eE eM
  cases MM
  · have hno : wholeO bs = none := whole_no1 (by rw [ENW.out]; exact EMM.out)
    have HNO := Lib.hid hno
    clear hno
    go_wp2_with (first | (go_at_call 134; (with_reducible refine (HEN.out _).mono ?_); rintro _ w1 ⟨v1, rfl, ho1, hb1⟩; obtain ⟨A1, k1, rfl, p1, p2, p3, -⟩ := ho1.form; have H1 := Lib.hid p3; have HB1 : Hid (Below w.heap.size w w1) := Lib.hid ((below_drewN (Below.refl w.heap.size w) _).trans hb1); clear ho1 hb1 p1 p2 p3) | (go_at_call 101; refine (refMayR_c _ _).mono ?_; rintro _ wq ⟨rfl, hq⟩; rw [EMM.out, hq]; clear hq wq))
    go_ret2
    exact whPost_no HNO.out HB1.out
  have EE2 : Hid (encodeRune (numW bs) = E) := Lib.hid (by rw [ENW.out]; exact EE.out)
  obtain ⟨q, eq⟩ : ∃ q, E.length = q := ⟨_, rfl⟩
  have EQ := Lib.hid eq
  by_cases hq : q = 3
  rotate_left
  · have hno : wholeO bs = none := whole_no2 (by rw [EE2.out]; intro h; apply hq; rw [← eq, h, HLEN.out])
    have HNO := Lib.hid hno
    have d3 : ((q : Int) != 3) = true := by rw [bne_iff_ne]; omega
    have d4 : (q != 3) = true := by rw [bne_iff_ne]; omega
    clear hno hq
    go_wp2_with (first | (go_at_call 134; (with_reducible refine (HEN.out _).mono ?_); rintro _ w1 ⟨v1, rfl, ho1, hb1⟩; obtain ⟨A1, k1, rfl, p1, p2, p3, -⟩ := ho1.form; have H1 := Lib.hid p3; rw [EQ.out]; have HB1 : Hid (Below w.heap.size w w1) := Lib.hid ((below_drewN (Below.refl w.heap.size w) _).trans hb1); clear ho1 hb1 p1 p2 p3) | (go_at_call 101; refine (refMayR_c _ _).mono ?_; rintro _ wq ⟨rfl, hq⟩; rw [EMM.out, hq]; clear hq wq))
    go_ret2
    exact whPost_no HNO.out HB1.out
  subst hq
  clear eq
  go_wp2_with (first | (go_at_call 134; (with_reducible refine (HEN.out _).mono ?_); rintro _ w1 ⟨v1, rfl, ho1, hb1⟩; obtain ⟨A1, k1, rfl, p1, p2, p3, -⟩ := ho1.form; have H1 := Lib.hid p3; rw [EQ.out]; have HB1 : Hid (Below w.heap.size w w1) := Lib.hid ((below_drewN (Below.refl w.heap.size w) _).trans hb1); clear ho1 hb1 p1 p2 p3) | (go_at_call 101; refine (refMayR_c _ _).mono ?_; rintro _ wq ⟨rfl, hq⟩; rw [EMM.out, hq]; clear hq wq))
  obtain ⟨W1, hW1⟩ : ∃ W1, W1 = w1 := ⟨_, rfl⟩
  subst hW1
  go_loopw [100] (fun i wr => ∃ k : Nat, k ≤ 3 ∧ i = .int .i64 k ∧ Hid (E.take k = bs.take k) ∧ Hid (Below W1.heap.size W1 wr)) (fun i _ => 3 - (intOf i).toNat)
  case atStart => exact ⟨0, Nat.zero_le _, rfl, Lib.hid rfl, Lib.hid (Below.refl _ _)⟩
  case round =>
    obtain ⟨k, hk, rfl, HG, HBW⟩ := hrel
    rcases Nat.lt_or_ge k 3 with hlt | hge
    · have hlt' : (k : Int) < 3 := by omega
      have hkE : k < E.length := by rw [EQ.out]; exact hlt
      have hkB : k < bs.length := by rw [HLEN.out]; exact hlt
      obtain ⟨g1, o1, rfl, hg1, hc1⟩ := H1.out.addrB (by omega)
      have e1 := (HBW.out.cell (p := ⟨g1, _, none⟩) hg1).trans (hc1 k hkE)
      obtain ⟨g2, o2, eA2, hg2, hc2⟩ := HR.out.addrB (by omega)
      injection eA2 with eA2
      injection eA2 with eA2 eA3
      subst eA2 eA3
      have e2 := ((HB1.out.trans (HBW.out.mono HB1.out.size)).cell (p := ⟨b, _, none⟩) hg2).trans (hc2 k hkB)
      obtain ⟨x, ex⟩ : ∃ x, E[k] = x := ⟨_, rfl⟩
      obtain ⟨y, ey⟩ : ∃ y, bs[k] = y := ⟨_, rfl⟩
      rw [ex] at e1
      rw [ey] at e2
      unfold bv at e1 e2
      have EX := Lib.hid ex
      have EY := Lib.hid ey
      clear ex ey hc1 hc2
      by_cases hxy : x = y
      · have HG2 : Hid (E.take (k + 1) = bs.take (k + 1)) := Lib.hid (take_next hkE hkB HG.out (by rw [EX.out, EY.out, hxy]))
        have n1 : (((x.toNat : Nat) : Int) != ((y.toNat : Nat) : Int)) = false := by rw [hxy, bne, beq_self_eq_true]; rfl
        have n2 : (x.toNat != y.toNat) = false := by rw [hxy, bne, beq_self_eq_true]; rfl
        clear hxy
        go_wp2_with (fail)
        go_quiet (fail)
        go_wp2_with (fail)
        go_roundw
        case rel => exact ⟨k + 1, by omega, by go_num, HG2, Lib.hid (below_drewN HBW.out _)⟩
        case measure => simp [intOf]; omega
      · have hno : wholeO bs = none := whole_no2 (by rw [EE2.out]; exact not_same hkE hkB (by rw [EX.out, EY.out]; exact hxy))
        have hxn : x.toNat ≠ y.toNat := fun h => hxy (UInt8.toNat_inj.1 h)
        have n1 : (((x.toNat : Nat) : Int) != ((y.toNat : Nat) : Int)) = true := by rw [bne_iff_ne]; omega
        have n2 : (x.toNat != y.toNat) = true := by rw [bne_iff_ne]; exact hxn
        have HNO := Lib.hid hno
        clear hno hxy hxn
        go_wp2_with (fail)
        go_quiet (fail)
        go_wp2_with (fail)
        go_ret2
        exact whPost_no HNO.out (below_drewN (HB1.out.trans (HBW.out.mono HB1.out.size)) _)
    · have hk4 : k = 3 := by omega
      have hyes : wholeO bs = some N := by
        have h := HG.out
        rw [List.take_of_length_le (by rw [EQ.out]; omega), List.take_of_length_le (by rw [HLEN.out]; omega)] at h
        have := whole_yes (bs := bs) (by rw [ENW.out]; exact EMM.out) (by rw [EE2.out]; exact h)
        rw [ENW.out] at this; exact this
      have HY := Lib.hid hyes
      have hge' : ¬ ((k : Int) < 3) := by omega
      clear hyes
      go_wp2_with (fail)
      go_ret2
      exact whPost_yes HY.out (HB1.out.trans (HBW.out.mono HB1.out.size))
set_option maxRecDepth 100000 in
set_option maxHeartbeats 16000000 in
theorem whole4_c (a0 a1 a2 a3 : UInt8) (A : Option Addr) (c : Nat) (bs : List UInt8) (w : World) (hbs : bs = [a0, a1, a2, a3]) (hr : Rd w A (bs.map bv)) :
    Calls Tryd.prog 98 #[.slice A 4 c] w (WhPost bs w) := by
  have hlen : bs.length = 4 := by rw [hbs]; rfl
  obtain ⟨b, off, rfl, hb, hc⟩ := hr.addrB (by omega)
  have c0 : w.cell? ⟨b, off, none⟩ = some (.int .u8 ((a0.toNat : Nat) : Int)) := by have := hc 0 (by omega); rw [Nat.add_zero] at this; rw [this]; simp only [hbs, bv]; rfl
  have c1 : w.cell? ⟨b, off + 1, none⟩ = some (.int .u8 ((a1.toNat : Nat) : Int)) := by have := hc 1 (by omega); rw [this]; simp only [hbs, bv]; rfl
  have c2 : w.cell? ⟨b, off + 2, none⟩ = some (.int .u8 ((a2.toNat : Nat) : Int)) := by have := hc 2 (by omega); rw [this]; simp only [hbs, bv]; rfl
  have c3 : w.cell? ⟨b, off + 3, none⟩ = some (.int .u8 ((a3.toNat : Nat) : Int)) := by have := hc 3 (by omega); rw [this]; simp only [hbs, bv]; rfl
  have u0 := a0.toNat_lt
  have u1 := a1.toNat_lt
  have u2 := a2.toNat_lt
  have u3 := a3.toNat_lt
  have HR := Lib.hid hr
  have HLEN := Lib.hid hlen
  obtain ⟨N, eN⟩ : ∃ N, (((a0.toNat : Nat) : Int) - 240) * 262144 + (((a1.toNat : Nat) : Int) - 128) * 4096 + (((a2.toNat : Nat) : Int) - 128) * 64 + ((a3.toNat : Nat) : Int) - 128 = N := ⟨_, rfl⟩
  have ENW : Hid (numW bs = N) := Lib.hid (by rw [hbs, ← eN]; rfl)
  have hN : -100000000 ≤ N ∧ N ≤ 100000000 := by omega
  obtain ⟨hN1, hN2⟩ := hN
  have EN := Lib.hid eN
  clear hbs hr hc hlen eN
  go_enter Tryd.func98, Tryd.ntmps98
  go_wp2_with (fail)
  go_quiet (fail)
  go_upto_region 12 with (fail)
  rw [EN.out]
  clear c0 c1 c2 c3 u0 u1 u2 u3
  rcases Int.lt_or_le N 0 with q0 | q0
  · have hno : wholeO bs = none := whole_no1 (by rw [ENW.out]; cases h : mayR N; rfl; simp only [mayR, inR, Bool.or_eq_true, Bool.and_eq_true, decide_eq_true_eq] at h; omega)
    have HNO := Lib.hid hno
    have d1 : decide (N < 0) = true := decide_eq_true q0
    clear hno q0
    go_wp2_with (fail)
    go_ret2
    exact whPost_no HNO.out (below_drewN (Below.refl w.heap.size w) _)
  have d1 : decide (N < 0) = false := decide_eq_false (by omega)
  rcases Int.lt_or_le 1114111 N with q1 | q1
  · have hno : wholeO bs = none := whole_no1 (by rw [ENW.out]; cases h : mayR N; rfl; simp only [mayR, inR, Bool.or_eq_true, Bool.and_eq_true, decide_eq_true_eq] at h; omega)
    have HNO := Lib.hid hno
    have d2 : decide (1114111 < N) = true := decide_eq_true q1
    clear hno q0 q1
    go_wp2_with (fail)
    go_ret2
    exact whPost_no HNO.out (below_drewN (Below.refl w.heap.size w) _)
  have d2 : decide (1114111 < N) = false := decide_eq_false (by omega)
  obtain ⟨MM, eM⟩ : ∃ MM, mayR N = MM := ⟨_, rfl⟩
  have EMM := Lib.hid eM
  obtain ⟨E, eE⟩ : ∃ E, encodeRune (if MM then N else 65533) = E := ⟨_, rfl⟩
  have hen : ∀ w, Calls Tryd.prog 134 #[.int .i32 N] w fun e w' => ∃ v, e = .returned v ∧ OwnB w' w.heap.size v E ∧ Below w.heap.size w w' := fun w => by have := refEncode_c N w; rw [eM, eE] at this; exact this
  have HEN := Lib.hid hen
  have EE := Lib.hid eE
  clear hen eE eM
  cases MM
  · have hno : wholeO bs = none := whole_no1 (by rw [ENW.out]; exact EMM.out)
    have HNO := Lib.hid hno
    clear hno
    go_wp2_with (first | (go_at_call 134; (with_reducible refine (HEN.out _).mono ?_); rintro _ w1 ⟨v1, rfl, ho1, hb1⟩; obtain ⟨A1, k1, rfl, p1, p2, p3, -⟩ := ho1.form; have H1 := Lib.hid p3; have HB1 : Hid (Below w.heap.size w w1) := Lib.hid ((below_drewN (Below.refl w.heap.size w) _).trans hb1); clear ho1 hb1 p1 p2 p3) | (go_at_call 101; refine (refMayR_c _ _).mono ?_; rintro _ wq ⟨rfl, hq⟩; rw [EMM.out, hq]; clear hq wq))
    go_ret2
    exact whPost_no HNO.out HB1.out
  have EE2 : Hid (encodeRune (numW bs) = E) := Lib.hid (by rw [ENW.out]; exact EE.out)
  obtain ⟨q, eq⟩ : ∃ q, E.length = q := ⟨_, rfl⟩
  have EQ := Lib.hid eq
  by_cases hq : q = 4
  rotate_left
  · have hno : wholeO bs = none := whole_no2 (by rw [EE2.out]; intro h; apply hq; rw [← eq, h, HLEN.out])
    have HNO := Lib.hid hno
    have d3 : ((q : Int) != 4) = true := by rw [bne_iff_ne]; omega
    have d4 : (q != 4) = true := by rw [bne_iff_ne]; omega
    clear hno hq
    go_wp2_with (first | (go_at_call 134; (with_reducible refine (HEN.out _).mono ?_); rintro _ w1 ⟨v1, rfl, ho1, hb1⟩; obtain ⟨A1, k1, rfl, p1, p2, p3, -⟩ := ho1.form; have H1 := Lib.hid p3; rw [EQ.out]; have HB1 : Hid (Below w.heap.size w w1) := Lib.hid ((below_drewN (Below.refl w.heap.size w) _).trans hb1); clear ho1 hb1 p1 p2 p3) | (go_at_call 101; refine (refMayR_c _ _).mono ?_; rintro _ wq ⟨rfl, hq⟩; rw [EMM.out, hq]; clear hq wq))
    go_ret2
    exact whPost_no HNO.out HB1.out
  subst hq
  clear eq
  go_wp2_with (first | (go_at_call 134; (with_reducible refine (HEN.out _).mono ?_); rintro _ w1 ⟨v1, rfl, ho1, hb1⟩; obtain ⟨A1, k1, rfl, p1, p2, p3, -⟩ := ho1.form; have H1 := Lib.hid p3; rw [EQ.out]; have HB1 : Hid (Below w.heap.size w w1) := Lib.hid ((below_drewN (Below.refl w.heap.size w) _).trans hb1); clear ho1 hb1 p1 p2 p3) | (go_at_call 101; refine (refMayR_c _ _).mono ?_; rintro _ wq ⟨rfl, hq⟩; rw [EMM.out, hq]; clear hq wq))
  obtain ⟨W1, hW1⟩ : ∃ W1, W1 = w1 := ⟨_, rfl⟩
  subst hW1
  go_loopw [100] (fun i wr => ∃ k : Nat, k ≤ 4 ∧ i = .int .i64 k ∧ Hid (E.take k = bs.take k) ∧ Hid (Below W1.heap.size W1 wr)) (fun i _ => 4 - (intOf i).toNat)
  case atStart => exact ⟨0, Nat.zero_le _, rfl, Lib.hid rfl, Lib.hid (Below.refl _ _)⟩
  case round =>
    obtain ⟨k, hk, rfl, HG, HBW⟩ := hrel
    rcases Nat.lt_or_ge k 4 with hlt | hge
    · have hlt' : (k : Int) < 4 := by omega
      have hkE : k < E.length := by rw [EQ.out]; exact hlt
      have hkB : k < bs.length := by rw [HLEN.out]; exact hlt
      obtain ⟨g1, o1, rfl, hg1, hc1⟩ := H1.out.addrB (by omega)
      have e1 := (HBW.out.cell (p := ⟨g1, _, none⟩) hg1).trans (hc1 k hkE)
      obtain ⟨g2, o2, eA2, hg2, hc2⟩ := HR.out.addrB (by omega)
      injection eA2 with eA2
      injection eA2 with eA2 eA3
      subst eA2 eA3
      have e2 := ((HB1.out.trans (HBW.out.mono HB1.out.size)).cell (p := ⟨b, _, none⟩) hg2).trans (hc2 k hkB)
      obtain ⟨x, ex⟩ : ∃ x, E[k] = x := ⟨_, rfl⟩
      obtain ⟨y, ey⟩ : ∃ y, bs[k] = y := ⟨_, rfl⟩
      rw [ex] at e1
      rw [ey] at e2
      unfold bv at e1 e2
      have EX := Lib.hid ex
      have EY := Lib.hid ey
      clear ex ey hc1 hc2
      by_cases hxy : x = y
      · have HG2 : Hid (E.take (k + 1) = bs.take (k + 1)) := Lib.hid (take_next hkE hkB HG.out (by rw [EX.out, EY.out, hxy]))
        have n1 : (((x.toNat : Nat) : Int) != ((y.toNat : Nat) : Int)) = false := by rw [hxy, bne, beq_self_eq_true]; rfl
        have n2 : (x.toNat != y.toNat) = false := by rw [hxy, bne, beq_self_eq_true]; rfl
        clear hxy
        go_wp2_with (fail)
        go_quiet (fail)
        go_wp2_with (fail)
        go_roundw
        case rel => exact ⟨k + 1, by omega, by go_num, HG2, Lib.hid (below_drewN HBW.out _)⟩
        case measure => simp [intOf]; omega
      · have hno : wholeO bs = none := whole_no2 (by rw [EE2.out]; exact not_same hkE hkB (by rw [EX.out, EY.out]; exact hxy))
        have hxn : x.toNat ≠ y.toNat := fun h => hxy (UInt8.toNat_inj.1 h)
        have n1 : (((x.toNat : Nat) : Int) != ((y.toNat : Nat) : Int)) = true := by rw [bne_iff_ne]; omega
        have n2 : (x.toNat != y.toNat) = true := by rw [bne_iff_ne]; exact hxn
        have HNO := Lib.hid hno
        clear hno hxy hxn
        go_wp2_with (fail)
        go_quiet (fail)
        go_wp2_with (fail)
        go_ret2
        exact whPost_no HNO.out (below_drewN (HB1.out.trans (HBW.out.mono HB1.out.size)) _)
    · have hk4 : k = 4 := by omega
      have hyes : wholeO bs = some N := by
        have h := HG.out
        rw [List.take_of_length_le (by rw [EQ.out]; omega), List.take_of_length_le (by rw [HLEN.out]; omega)] at h
        have := whole_yes (bs := bs) (by rw [ENW.out]; exact EMM.out) (by rw [EE2.out]; exact h)
        rw [ENW.out] at this; exact this
      have HY := Lib.hid hyes
      have hge' : ¬ ((k : Int) < 4) := by omega
      clear hyes
      go_wp2_with (fail)
      go_ret2
      exact whPost_yes HY.out (HB1.out.trans (HBW.out.mono HB1.out.size))
end Go.Proofs.YtipofokinjkclaaDoor

/- What the reference's whole and Valid answer of any bytes. Conditions: bytes that can be read. -/
namespace Go.Proofs.YtipofokinjkclaaDoor
open Go Go.RowKit Go.Lib

theorem numW_other {bs : List UInt8} (h : bs.length = 0 ∨ 5 ≤ bs.length) : numW bs = -1 := by
  match bs, h with
  | [], _ => rfl
  | [_], h => simp at h
  | [_, _], h => simp at h
  | [_, _, _], h => simp at h
  | [_, _, _, _], h => simp at h
  | _ :: _ :: _ :: _ :: _ :: _, _ => rfl
set_option maxRecDepth 100000 in
set_option maxHeartbeats 4000000 in
theorem refWhole_c (A : Option Addr) (n c : Nat) (bs : List UInt8) (w : World) (hn : bs.length = n) (hr : Rd w A (bs.map bv)) :
    Calls Tryd.prog 98 #[.slice A n c] w (WhPost bs w) := by
  match bs, hn, hr with
  | [], hn, hr => 
    obtain rfl : n = 0 := by simpa using hn.symm
    have hno : wholeO [] = none := whole_no1 rfl
    have HNO := Lib.hid hno
    clear hno hr hn
    go_enter Tryd.func98, Tryd.ntmps98
    go_wp2_with (fail)
    go_ret2
    exact whPost_no HNO.out (Below.refl _ _)
  | [a0], hn, hr =>
    obtain rfl : n = 1 := by simpa using hn.symm
    exact whole1_c a0 A c _ w rfl hr
  | [a0, a1], hn, hr =>
    obtain rfl : n = 2 := by simpa using hn.symm
    exact whole2_c a0 a1 A c _ w rfl hr
  | [a0, a1, a2], hn, hr =>
    obtain rfl : n = 3 := by simpa using hn.symm
    exact whole3_c a0 a1 a2 A c _ w rfl hr
  | [a0, a1, a2, a3], hn, hr =>
    obtain rfl : n = 4 := by simpa using hn.symm
    exact whole4_c a0 a1 a2 a3 A c _ w rfl hr
  | a :: b :: d :: e :: f :: r, hn, hr =>
    have h5 : 5 ≤ n := by rw [← hn]; simp
    have hno : wholeO (a :: b :: d :: e :: f :: r) = none := whole_no1 rfl
    have HNO := Lib.hid hno
    have d1 : ((n : Int) == 1) = false := by rw [beq_eq_false_iff_ne]; omega
    have d2 : ((n : Int) == 2) = false := by rw [beq_eq_false_iff_ne]; omega
    have d3 : ((n : Int) == 3) = false := by rw [beq_eq_false_iff_ne]; omega
    have d4 : ((n : Int) == 4) = false := by rw [beq_eq_false_iff_ne]; omega
    clear hno hr hn
    go_enter Tryd.func98, Tryd.ntmps98
    go_wp2_with (fail)
    go_ret2
    exact whPost_no HNO.out (Below.refl _ _)
/-- 's[lo:hi]' of bytes. -/
theorem wpList_cutB2 (w w0 : World) {ops : Array Oper} {rest : List Oper} {o : Oper} {a : Act} {Q : Exit → Act → World → Prop} (hgd : o.guard = none) (x y z : Operand) (ho : o.op = .slice 29 x (some y) (some z) none)
    (A : Option Addr) (n c : Nat) (hx : a.eval x = .slice A n c) (bs : List UInt8) (hn : bs.length = n) (hr : Rd w0 A (bs.map bv)) (hnc : n ≤ c) (V W : Int) (hy : a.eval y = .int .i64 V) (hz : a.eval z = .int .i64 W) (l h : Nat) (hV : V = (l : Int)) (hW : W = (h : Int)) (hlh : l ≤ h) (hh : h ≤ n)
    (H : ∀ A', Rd w0 A' (((bs.drop l).take (h - l)).map bv) → wpList Tryd.prog ops Q rest (a.put o.dst (.slice A' (h - l) (c - l))) w) : wpList Tryd.prog ops Q (o :: rest) a w := by
  subst hV hW
  refine wpList_plain hgd fun K hK => ?_
  have h1 : (l : Int) ≤ (h : Int) := by omega
  have h2 : (h : Int) ≤ (c : Int) := by omega
  have hc := (hr.cut (k := l) (n := n) (c := c) (by rw [List.length_map]; exact hn) (by omega) hnc).take (h - l)
  rw [← List.map_drop, ← List.map_take] at hc
  unfold Oper.wp execOp
  simp only [ho, Option.map_some, Option.map_none, hx, hy, hz]
  go_simp
  exact hK _ _ (H _ hc)
set_option maxRecDepth 100000 in
set_option maxHeartbeats 16000000 in
theorem refValid_c (A : Option Addr) (n c : Nat) (bs : List UInt8) (w : World) (hn : bs.length = n) (hr : Rd w A (bs.map bv)) (hnc : n ≤ c) (hl : n ≤ 1000000) :
    Calls Tryd.prog 61 #[.slice A n c] w fun e w' => e = .returned (.bool (utfV bs)) ∧ Below w.heap.size w w' := by
  obtain ⟨R, eR⟩ : ∃ R, utfV bs = R := ⟨_, rfl⟩
  rw [eR]
  have ER := Lib.hid eR
  have HN := Lib.hid hn
  have HRD := Lib.hid hr
  clear eR hn hr
  go_enter Tryd.func61, Tryd.ntmps61
  go_wp2_with (fail)
  go_loopw [3] (fun i wr => ∃ pos : Nat, pos ≤ n ∧ i = .int .i64 pos ∧ Hid (R = utfV (bs.drop pos)) ∧ Hid (Below w.heap.size w wr)) (fun i _ => n - (intOf i).toNat)
  case atStart => exact ⟨0, Nat.zero_le _, rfl, Lib.hid ER.out.symm, Lib.hid (Below.refl _ _)⟩
  case round =>
    obtain ⟨pos, hp, rfl, HG, HB⟩ := hrel
    rcases Nat.lt_or_ge pos n with hlt | hge
    · have hlt' : (pos : Int) < (n : Int) := by omega
      obtain ⟨l, el⟩ : ∃ l, l = bs.drop pos := ⟨_, rfl⟩
      have hll : l.length = n - pos := by rw [el, List.length_drop, HN.out]
      have hne : l ≠ [] := by intro e; rw [e] at hll; simp at hll; omega
      obtain ⟨wd, ewd⟩ : ∃ wd, (if badD l = false then (decodeL l).2 else 0) = wd := ⟨_, rfl⟩
      have hw4 : wd ≤ 4 ∧ wd ≤ n - pos := by
        rw [← ewd]
        split
        · rename_i hb
          have h1 := decodeL_le l hne
          have h2 := whole_take l hne (decodeL l).2 h1
          rw [if_pos ⟨hb, rfl⟩] at h2
          have h3 := (whole_len h2).2
          rw [List.length_take, hll] at h3
          rw [hll] at h1
          omega
        · omega
      have hwh : ∀ k, k ≤ n - pos → 1 ≤ k → (wholeO (l.take k)).isSome = decide (wd = k) := by
        intro k hk h1
        rw [whole_take l hne k (by rw [hll]; exact hk)]
        by_cases hb : badD l = false
        · rw [← ewd, if_pos hb]
          by_cases hk2 : (decodeL l).2 = k
          · rw [if_pos ⟨hb, hk2⟩, decide_eq_true hk2]; rfl
          · rw [if_neg (fun q => hk2 q.2), decide_eq_false hk2]; rfl
        · rw [← ewd, if_neg hb, if_neg (fun q => hb q.1), decide_eq_false (by omega)]; rfl
      have hst : R = (decide (wd ≠ 0) && utfV (bs.drop (pos + wd))) := by
        rw [HG.out, ← el, utfV_step l hne]
        cases hb : badD l
        · have hw1 := decodeL_width l
          have : wd = (decodeL l).2 := by rw [← ewd, if_pos hb]
          rw [decide_eq_true (by omega), this, el, List.drop_drop]
          rfl
        · have : wd = 0 := by rw [← ewd, if_neg (by rw [hb]; exact Bool.noConfusion)]
          rw [decide_eq_false (by omega)]; rfl
      have HST := Lib.hid hst
      have HWH := Lib.hid hwh
      have HLL := Lib.hid hll
      have EL := Lib.hid el
      obtain ⟨hw4a, hw4b⟩ := hw4
      clear hst hwh hll el hne ewd
      obtain ⟨W1, hW1⟩ : ∃ W1, W1 = wr := ⟨_, rfl⟩
      subst hW1
      go_wp2_with (fail)
      go_loopw [4, 5] (fun nv kv wr => ∃ k q : Nat, 1 ≤ k ∧ k ≤ 5 ∧ k ≤ n - pos + 1 ∧ kv = .int .i64 k ∧ nv = .int .i64 q ∧ Hid (q = if wd < k then wd else 0) ∧ q ≤ 4 ∧ Hid (Below w.heap.size w wr)) (fun _ kv _ => 5 - (intOf kv).toNat)
      case atStart => exact ⟨1, 0, by omega, by omega, by omega, rfl, rfl, Lib.hid (by split <;> omega), by omega, HB⟩
      case round =>
        obtain ⟨k, q, hk1, hk5, hkn, rfl, rfl, HQ, hq4, HBW⟩ := hrel
        rcases Nat.lt_or_ge 4 k with g4 | g4
        · have hqw : q = wd := by rw [HQ.out, if_pos (by omega)]
          have d1 : decide ((k : Int) ≤ 4) = false := decide_eq_false (by omega)
          have HQW := Lib.hid hqw
          clear hqw
          rcases Nat.eq_zero_or_pos q with hz | hz
          · have hRf : Hid (R = false) := Lib.hid (by rw [HST.out, ← HQW.out, hz]; rfl)
            have d2 : ((q : Int) == 0) = true := by rw [hz]; rfl
            clear hz
            go_wp2_with (fail)
            go_ret
            exact ⟨by rw [hRf.out] <;> rfl, HBW.out⟩
          · have HG2 : Hid (R = utfV (bs.drop (pos + q))) := Lib.hid (by rw [HST.out, ← HQW.out, decide_eq_true (by omega)]; rfl)
            have d2 : ((q : Int) == 0) = false := by rw [beq_eq_false_iff_ne]; omega
            have hqn : pos + q ≤ n := by have := HQW.out; omega
            go_wp2_with (fail)
            go_roundw
            case rel => exact ⟨pos + q, hqn, by go_num, HG2, HBW⟩
            case measure => simp [intOf]; omega
        · rcases Nat.lt_or_ge (n - pos) k with gn | gn
          · have hqw : q = wd := by rw [HQ.out, if_pos (by omega)]
            have d1 : decide ((k : Int) ≤ 4) = true := decide_eq_true (by omega)
            have d3 : decide ((k : Int) ≤ (n : Int) - (pos : Int)) = false := decide_eq_false (by omega)
            have HQW := Lib.hid hqw
            clear hqw
            rcases Nat.eq_zero_or_pos q with hz | hz
            · have hRf : Hid (R = false) := Lib.hid (by rw [HST.out, ← HQW.out, hz]; rfl)
              have d2 : ((q : Int) == 0) = true := by rw [hz]; rfl
              clear hz
              go_wp2_with (fail)
              go_ret
              exact ⟨by rw [hRf.out] <;> rfl, HBW.out⟩
            · have HG2 : Hid (R = utfV (bs.drop (pos + q))) := Lib.hid (by rw [HST.out, ← HQW.out, decide_eq_true (by omega)]; rfl)
              have d2 : ((q : Int) == 0) = false := by rw [beq_eq_false_iff_ne]; omega
              have hqn : pos + q ≤ n := by have := HQW.out; omega
              go_wp2_with (fail)
              go_roundw
              case rel => exact ⟨pos + q, hqn, by go_num, HG2, HBW⟩
              case measure => simp [intOf]; omega
          · have d1 : decide ((k : Int) ≤ 4) = true := decide_eq_true (by omega)
            have d3 : decide ((k : Int) ≤ (n : Int) - (pos : Int)) = true := decide_eq_true (by omega)
            have hsub : Hid ((bs.drop pos).take (pos + k - pos) = l.take k) := Lib.hid (by rw [EL.out]; congr 1; omega)
            have HKK : Hid (pos + k - pos = k) := Lib.hid (by omega)
            have HLK : Hid ((l.take k).length = k) := Lib.hid (by rw [List.length_take, HLL.out]; omega)
            have hkk := HWH.out k gn hk1
            by_cases hwk : wd = k
            · rw [decide_eq_true hwk] at hkk
              have HKW := Lib.hid hkk
              have HQ2 : Hid (k = if wd < k + 1 then wd else 0) := Lib.hid (by rw [if_pos (by omega)]; exact hwk.symm)
              clear hkk hwk
              go_wp2_with (first
                | (refine wpList_cutB2 _ _ rfl (.tmp 25) (.tmp 26) (.tmp 29) rfl A n c rfl bs HN.out (HRD.out.below HBW.out) hnc _ _ rfl rfl pos (pos + k) rfl (by push_cast; rfl) (Nat.le_add_right _ _) (by omega) ?_; intro A1 hA1; rw [hsub.out] at hA1; rw [HKK.out]; have HA1 := Lib.hid hA1; clear hA1)
                | (go_at_call 98; refine (refWhole_c A1 k _ (l.take k) _ HLK.out HA1.out).mono ?_; rintro _ w2 ⟨rfl, hb2⟩; rw [HKW.out]; have HB2 := Lib.hid (HBW.out.trans (hb2.mono HBW.out.size)); clear hb2))
              go_roundw
              case rel => exact ⟨k + 1, k, by omega, by omega, by omega, by go_num, rfl, HQ2, by omega, HB2⟩
              case measure => simp [intOf]; omega
            · rw [decide_eq_false hwk] at hkk
              have HKW := Lib.hid hkk
              have HQ2 : Hid (q = if wd < k + 1 then wd else 0) := Lib.hid (by rw [HQ.out]; by_cases h : wd < k; rw [if_pos h, if_pos (by omega)]; rw [if_neg h, if_neg (by omega)])
              clear hkk hwk
              go_wp2_with (first
                | (refine wpList_cutB2 _ _ rfl (.tmp 25) (.tmp 26) (.tmp 29) rfl A n c rfl bs HN.out (HRD.out.below HBW.out) hnc _ _ rfl rfl pos (pos + k) rfl (by push_cast; rfl) (Nat.le_add_right _ _) (by omega) ?_; intro A1 hA1; rw [hsub.out] at hA1; rw [HKK.out]; have HA1 := Lib.hid hA1; clear hA1)
                | (go_at_call 98; refine (refWhole_c A1 k _ (l.take k) _ HLK.out HA1.out).mono ?_; rintro _ w2 ⟨rfl, hb2⟩; rw [HKW.out]; have HB2 := Lib.hid (HBW.out.trans (hb2.mono HBW.out.size)); clear hb2))
              go_roundw
              case rel => exact ⟨k + 1, q, by omega, by omega, by omega, by go_num, rfl, HQ2, by omega, HB2⟩
              case measure => simp [intOf]; omega
    · obtain rfl : n = pos := by omega
      have hge' : ¬ ((n : Int) < (n : Int)) := by omega
      have hRt : Hid (R = true) := Lib.hid (by rw [HG.out, List.drop_of_length_le (by rw [HN.out]; omega)]; rfl)
      go_wp2_with (fail)
      go_ret
      exact ⟨by rw [hRt.out] <;> rfl, HB.out⟩
end Go.Proofs.YtipofokinjkclaaDoor
