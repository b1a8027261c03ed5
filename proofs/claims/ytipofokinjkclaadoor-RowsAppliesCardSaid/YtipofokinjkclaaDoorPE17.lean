/- Parts one behind the other: What read does: the rows that stand there are put into a screen; What the reference's diff (16) answers: the diff by rows; Regions whose appends of bytes stand in a chain beside operations that float: the bytes that come are known; what each operation yields stays true as they come; An append of a text in such a chain; one byte laid. Conditions: as told at each. -/
import Derived.Test.YtipofokinjkclaaDoorPE16
import Derived.Test.YtipofokinjkclaaDoorPE8
import Derived.Deep.DeepCutAuto
import Derived.Test.YtipofokinjkclaaDoorPE15
import Derived.Test.YtipofokinjkclaaDoorPE4
import Derived.Test.YtipofokinjkclaaDoorPE1
import Derived.Laws.Append
import Derived.Test.YtipofokinjkclaaDoorPE11
import Derived.Lib.AppendStr

set_option linter.unusedVariables false
set_option linter.unusedSimpArgs false
/- What read does: the rows that stand there are put into a screen. Conditions: the reader and the screen's cells lie in blocks of their own; the tables lie where they were laid. -/
namespace Go.Proofs.YtipofokinjkclaaDoor
open Go Go.RowKit Go.Lib

def readF (C R : Nat) (s : RS) (cs : List CeD) : Nat × List CeD := if s.err = 0 then readP C R s.rest cs else (s.err, cs)
/-- What is still to be read: the rest of a row, and the rows behind it. -/
def tailR (C R j y n p : Nat) (s : RS) (cs : List CeD) : Nat × List CeD :=
  if s.err = 0 then (if (cellsP n p s.rest cs).1 = 0 then rowsP C R j (y : Int) (cellsP n p s.rest cs).2.1 (cellsP n p s.rest cs).2.2 else ((cellsP n p s.rest cs).1, (cellsP n p s.rest cs).2.2)) else (s.err, cs)
theorem tail_zero (C R j y p : Nat) (s : RS) (cs : List CeD) (h : s.err = 0) : tailR C R j y 0 p s cs = rowsP C R j (y : Int) s.rest cs := by
  rw [tailR, if_pos h]; rfl
theorem four_err {s : RS} (h : s.err ≠ 0) : fourR s = s := by
  unfold fourR
  rw [num_err h]
  simp only []
  rw [num_err h]
  simp only []
  rw [num_err h]
  simp only []
  rw [num_err h]
theorem tail_err (C R j y n p : Nat) (s : RS) (cs : List CeD) (h : (fourR s).err ≠ 0) : tailR C R j y (n + 1) p s cs = ((fourR s).err, cs) := by
  by_cases h0 : s.err = 0
  · have hl : s.rest.length < 9 := by
      rcases Nat.lt_or_ge s.rest.length 9 with h1 | h1
      · exact h1
      · exact absurd (four_ok h0 h1).1 h
    rw [tailR, if_pos h0, four_short h0 hl, cellsP, if_pos hl]
    rfl
  · rw [four_err h0, tailR, if_neg h0]
theorem tail_step (C R j y n p : Nat) (s : RS) (cs : List CeD) (h : (fourR s).err = 0) : tailR C R j y (n + 1) p s cs = if badAt16 (fourC s) then (3, cs) else tailR C R j y n (p + 1) (fourR s) (cs.set p (fourC s)) := by
  have h0 : s.err = 0 := by
    by_cases h0 : s.err = 0
    · exact h0
    · rw [four_err h0] at h; exact h
  have hl : 9 ≤ s.rest.length := by
    rcases Nat.lt_or_ge s.rest.length 9 with h1 | h1
    · rw [four_short h0 h1] at h; cases h
    · exact h1
  obtain ⟨_, h2, h3⟩ := four_ok h0 hl
  have e : cellsP (n + 1) p s.rest cs = if badAt16 (cellAt s.rest) then (3, s.rest, cs) else cellsP n (p + 1) (s.rest.drop 9) (cs.set p (cellAt s.rest)) := by rw [cellsP, if_neg (by omega)]
  unfold tailR
  rw [if_pos h0, if_pos h, h2, h3, e]
  cases hb : badAt16 (cellAt s.rest) <;> rfl
/-- A row's number read: three cases. -/
theorem row_cases (C R k : Nat) (la : Int) (s : RS) (cs : List CeD) (h : s.err = 0) (hR : 1 ≤ R) : ∃ y0 s1, numR s 1 = (y0, s1) ∧ y0 < 256 ∧ s1.gA = s.gA ∧ s1.b = s.b ∧
    ((s1.err ≠ 0 ∧ y0 < R ∧ rowsP C R (k + 1) la s.rest cs = tailR C R k y0 C (y0 * C) s1 cs) ∨
     (s1.err = 0 ∧ (R ≤ y0 ∨ (y0 : Int) ≤ la) ∧ rowsP C R (k + 1) la s.rest cs = (3, cs)) ∨
     (s1.err = 0 ∧ y0 < R ∧ la < (y0 : Int) ∧ rowsP C R (k + 1) la s.rest cs = tailR C R k y0 C (y0 * C) s1 cs)) := by
  cases hr : s.rest with
  | nil =>
    refine ⟨0, { s with err := 2 }, num1_nil h hr, by decide, rfl, rfl, .inl ⟨by simp, hR, ?_⟩⟩
    rw [rowsP, tailR, if_neg (by simp)]
  | cons y l =>
    obtain ⟨s1, e1, e2, e3, e4, e5⟩ := num1_cons h hr
    refine ⟨y.toNat, s1, e1, UInt8.toNat_lt y, e4, e5, .inr ?_⟩
    by_cases hc : R ≤ y.toNat ∨ (y.toNat : Int) ≤ la
    · exact .inl ⟨e2, hc, by rw [rowsP, if_pos hc]⟩
    · refine .inr ⟨e2, by omega, by omega, ?_⟩
      rw [rowsP, if_neg hc, tailR, if_pos e2, e3]
/-- The first number read: two cases. -/
theorem read_cases (C R : Nat) (s : RS) (cs : List CeD) : ∃ K s1, numR s 1 = (K, s1) ∧ K < 256 ∧ s1.gA = s.gA ∧ s1.b = s.b ∧
    ((s1.err ≠ 0 ∧ K = 0 ∧ readF C R s cs = (s1.err, cs)) ∨ (s1.err = 0 ∧ readF C R s cs = rowsP C R K (-1) s1.rest cs)) := by
  by_cases h : s.err = 0
  · cases hr : s.rest with
    | nil =>
      refine ⟨0, { s with err := 2 }, num1_nil h hr, by decide, rfl, rfl, .inl ⟨by simp, rfl, ?_⟩⟩
      rw [readF, if_pos h, hr, readP]
    | cons y l =>
      obtain ⟨s1, e1, e2, e3, e4, e5⟩ := num1_cons h hr
      refine ⟨y.toNat, s1, e1, UInt8.toNat_lt y, e4, e5, .inr ⟨e2, ?_⟩⟩
      rw [readF, if_pos h, hr, readP, e3]
  · exact ⟨0, s, num_err h, by decide, rfl, rfl, .inl ⟨h, rfl, by rw [readF, if_neg h]⟩⟩
theorem end_rows {s : RS} (h : s.err = 0) (hl : s.at_ ≤ s.b.length) : endR s = (if s.rest.length = 0 then 0 else 6) := by
  unfold endR
  rw [rest_len, h]
  split
  · rw [if_neg (by omega)]
  · rw [if_pos (by omega)]
theorem end_err {s : RS} (h : s.err ≠ 0) : endR s = s.err := by unfold endR; rw [if_neg (by omega)]
theorem info_ce6 : (Tryd.prog.info? 47).map (·.size) = some 6 := by kernel_rfl

set_option maxRecDepth 100000 in
set_option maxHeartbeats 16000000 in
theorem read_c (r : Nat) (st : RS) (s : ScD) (g n c : Nat) (L : Option Addr) (m cm : Nat) (C R B : Nat) (w : World) (hr : Rdr w r st) (ho : OwnC w B (.slice (some ⟨g, 0, none⟩) n c) s.cells) (hrg : r ≠ g) (hga : ∀ a, st.gA = some a → a.block ≠ g)
    (hB : 1 < B ∧ B ≤ w.heap.size ∧ B ≤ r) (hN : n = C * R) (hCR : 1 ≤ C ∧ C ≤ 80 ∧ 1 ≤ R ∧ R ≤ 24) (hc : s.cols = (C : Int)) (hrr : s.rows = (R : Int)) (hU : TabU w) :
    Calls Tryd.prog 81 #[.pointer (some ⟨r, 0, none⟩), .agg (scC s (some ⟨g, 0, none⟩) n c L m cm)] w fun e w' => e = .returned (.int .i64 ((readF C R st s.cells).1 : Int)) ∧ OwnC w' B (.slice (some ⟨g, 0, none⟩) n c) (readF C R st s.cells).2 ∧ Stays (fun k => k = r ∨ k = g) w w' := by
  obtain ⟨X, eX⟩ : ∃ X, X = scC s (some ⟨g, 0, none⟩) n c L m cm := ⟨_, rfl⟩
  rw [← eX]
  obtain ⟨W0, eW0⟩ : ∃ W0, W0 = w.alloc (.cells X 25) := ⟨_, rfl⟩
  obtain ⟨p, ep⟩ : ∃ p, p = w.heap.size := ⟨_, rfl⟩
  have hb0 : Below w.heap.size w W0 := by rw [eW0]; exact (Below.refl _ _).alloc (Nat.le_refl _) _
  have HP0 : Hid (ScB W0 p s (some ⟨g, 0, none⟩) n c L m cm) := Lib.hid (by rw [eW0, ep, eX]; exact heap_alloc_new _ _)
  have HRG : Hid (r ≠ g ∧ (∀ a, st.gA = some a → a.block ≠ g)) := Lib.hid ⟨hrg, hga⟩
  have HPN : Hid (p ≠ r ∧ p ≠ g) := Lib.hid ⟨by rw [ep]; exact Nat.ne_of_gt hr.lt, by rw [ep]; exact Nat.ne_of_gt (ho.lt g rfl).2⟩
  have HS0 : Hid (Stays (fun k => k = r ∨ k = g) w W0) := Lib.hid (Stays.of_below hb0 _)
  have HR0 := Lib.hid (hr.below hb0)
  have HO0 := Lib.hid (OwnC.below ho hb0)
  have HU := Lib.hid hU
  have HBB : Hid (1 < B ∧ B ≤ w.heap.size ∧ B ≤ r ∧ B ≤ g) := Lib.hid ⟨hB.1, hB.2.1, hB.2.2, (ho.lt g rfl).1⟩
  have HN := Lib.hid hN
  have HLN : Hid (s.cells.length = n) := Lib.hid ho.len.1.symm
  have EW0 := Lib.hid eW0
  have EP := Lib.hid ep
  obtain ⟨hC1, hC2, hR1, hR2⟩ := hCR
  have hn2 : n ≤ 1920 := by rw [hN]; exact Nat.mul_le_mul hC2 hR2
  have HC := Lib.hid hc
  have HRR := Lib.hid hrr
  obtain ⟨Z, eZ⟩ : ∃ Z, readF C R st s.cells = Z := ⟨_, rfl⟩
  rw [eZ]
  have EZ := Lib.hid eZ
  clear eX eW0 ep hb0 hr ho hrg hga hB hN hc hrr hU eZ
  go_enter Tryd.func81, Tryd.ntmps81
  go_upto_region 1 with (fail)
  rw [← EW0.out, ← EP.out]
  obtain ⟨K, st1, hnum, hK, hg1, _, hcase⟩ := read_cases C R st s.cells
  have HNUM := Lib.hid hnum
  have HG1 := Lib.hid hg1
  rw [EZ.out] at hcase
  rcases hcase with ⟨q1, q2, q3⟩ | ⟨q1, q2⟩
  · have HE1 := Lib.hid q1
    have HZ := Lib.hid q3
    subst q2
    clear hnum hg1 q1 q3 hK
    go_wp2_with (fail)
    refine (Rnum_c r st 1 W0 HR0.out (by decide)).mono ?_
    rintro _ w1 ⟨rfl, hr1, hg⟩
    rw [HNUM.out] at hr1 ⊢
    have HR1 := Lib.hid hr1
    have HS1 := Lib.hid (HS0.out.trans (Stays.of_grown hg _ (.inl rfl)))
    have HO1 := Lib.hid (OwnC.grown HO0.out hg HRG.out.1)
    clear hr1 hg
    go_wp2_with (first
      | (go_at_call 78; (refine (Rnum_c r st 1 W0 HR0.out (by decide)).mono ?_); rintro _ w1 ⟨rfl, hr1, hg⟩; rw [HNUM.out] at hr1 ⊢; have HR1 := Lib.hid hr1; have HS1 := Lib.hid (HS0.out.trans (Stays.of_grown hg _ (.inl rfl))); have HO1 := Lib.hid (OwnC.grown HO0.out hg HRG.out.1); clear hr1 hg))
    go_loopw [12] (fun i wr => i = .int .i64 0 ∧ Hid (wr = w1)) (fun _ _ => 0)
    case atStart => exact ⟨rfl, Lib.hid rfl⟩
    case round =>
      obtain ⟨rfl, hwr⟩ := hrel
      obtain rfl := hwr.out.symm
      clear hwr
      go_wp2_with (first
        | (go_at_call 121; (refine (Rend_c r st1 w1 HR1.out).mono ?_); rintro _ w2 ⟨rfl, q, rfl⟩; rw [end_err HE1.out]))
      go_ret
      exact ⟨by rw [HZ.out] <;> rfl, by rw [HZ.out]; exact HO1.out, HS1.out.drewN q⟩
  · have HE1 := Lib.hid q1
    have HZ0 := Lib.hid q2
    clear hnum hg1 q1 q2
    go_wp2_with (first
      | (go_at_call 78; (refine (Rnum_c r st 1 W0 HR0.out (by decide)).mono ?_); rintro _ w1 ⟨rfl, hr1, hg⟩; rw [HNUM.out] at hr1 ⊢; have HR1 := Lib.hid hr1; have HS1 := Lib.hid (HS0.out.trans (Stays.of_grown hg _ (.inl rfl))); have HO1 := Lib.hid (OwnC.grown HO0.out hg HRG.out.1); have HP1 := Lib.hid (ScB.grown HP0.out hg HPN.out.1); clear hr1 hg))
    go_loopw [5, 12] (fun last i wr => ∃ (k : Nat) (la : Int) (sk : RS) (cs : List CeD), k ≤ K ∧ i = .int .i64 (k : Int) ∧ last = .int .i64 la ∧ (-1 ≤ la ∧ la < 256) ∧ Hid (rowsP C R (K - k) la sk.rest cs = Z) ∧ Hid (sk.err = 0 ∧ sk.gA = st.gA) ∧ Hid (Rdr wr r sk) ∧ Hid (OwnC wr B (.slice (some ⟨g, 0, none⟩) n c) cs) ∧ Hid (cs.length = n) ∧ Hid (ScB wr p s (some ⟨g, 0, none⟩) n c L m cm) ∧ Hid (Stays (fun k => k = r ∨ k = g) w wr)) (fun _ i _ => K - (intOf i).toNat)
    case atStart => exact ⟨0, -1, st1, s.cells, Nat.zero_le _, rfl, rfl, ⟨by omega, by omega⟩, Lib.hid HZ0.out.symm, Lib.hid ⟨HE1.out, HG1.out⟩, HR1, HO1, HLN, HP1, HS1⟩
    case round =>
      obtain ⟨k, la, sk, cs, hk, rfl, rfl, ⟨hla0, hla1⟩, HZ, HSK, HRK, HOK, HLK, HPK, HSS⟩ := hrel
      by_cases hlt : k < K
      · have x1 : wr.cell? ⟨p, 1, none⟩ = some (.int .i64 (R : Int)) := by rw [← HRR.out]; exact HPK.out.nine.2.1
        obtain ⟨y0, s1, hn1, hy0, hga1, _, hcs⟩ := row_cases C R (K - (k + 1)) la sk cs HSK.out.1 hR1
        rw [show K - (k + 1) + 1 = K - k by omega, HZ.out] at hcs
        have HN1 := Lib.hid hn1
        have HGA1 := Lib.hid (hga1.trans HSK.out.2)
        have HCS := Lib.hid hcs
        have HLT := Lib.hid hlt
        have HK2 := Lib.hid hk
        clear hn1 hga1 hcs
        go_upto_region 5 with (first
          | (go_at_call 78; (refine (Rnum_c r sk 1 wr HRK.out (by decide)).mono ?_); rintro _ w2 ⟨rfl, hr1, hg⟩; rw [HN1.out] at hr1 ⊢; have HR2 := Lib.hid hr1; have HS2 := Lib.hid (HSS.out.trans (Stays.of_grown hg _ (.inl rfl))); have HO2 := Lib.hid (OwnC.grown HOK.out hg HRG.out.1); have HP2 := Lib.hid (ScB.grown HPK.out hg HPN.out.1); clear hr1 hg))
        clear x1 hlt hk
        have x1 : w2.cell? ⟨p, 1, none⟩ = some (.int .i64 (R : Int)) := by rw [← HRR.out]; exact HP2.out.nine.2.1
        go_cut [30] (fun s30 wx => Hid (wx = w2) ∧ ((s30 = .bool true ∧ Hid ((3, cs) = Z)) ∨ (s30 = .bool false ∧ Hid (y0 < R ∧ tailR C R (K - (k + 1)) y0 C (y0 * C) s1 cs = Z))))
        case first =>
          rcases HCS.out with ⟨c1, c2, c3⟩ | ⟨c1, c2, c3⟩ | ⟨c1, c2, c3, c4⟩
          · have HC3 := Lib.hid c3
            have HC2 := Lib.hid c2
            have z0 : (((s1.err : Nat) : Int) == 0) = false := by rw [beq_eq_false_iff_ne]; omega
            clear c1 c2 c3
            go_wp2_with (first | (go_at_call 79; (refine (Rerr_c r s1 w2 HR2.out).mono ?_); rintro _ _ ⟨rfl, rfl⟩))
            go_meet
            exact ⟨Lib.hid rfl, .inr ⟨rfl, Lib.hid ⟨HC2.out, HC3.out.symm⟩⟩⟩
          · have HC3 := Lib.hid c3
            have z0 : (((s1.err : Nat) : Int) == 0) = true := by rw [beq_iff_eq]; omega
            rcases Nat.lt_or_ge y0 R with h1 | h1
            · have d1 : decide (R ≤ y0) = false := decide_eq_false (by omega)
              have d2 : decide ((R : Int) ≤ (y0 : Int)) = false := decide_eq_false (by omega)
              have d3 : decide ((y0 : Int) ≤ la) = true := decide_eq_true (by omega)
              clear c1 c2 c3 h1
              go_wp2_with (first | (go_at_call 79; (refine (Rerr_c r s1 w2 HR2.out).mono ?_); rintro _ _ ⟨rfl, rfl⟩))
              go_meet
              exact ⟨Lib.hid rfl, .inl ⟨rfl, Lib.hid HC3.out.symm⟩⟩
            · have d1 : decide (R ≤ y0) = true := decide_eq_true (by omega)
              have d2 : decide ((R : Int) ≤ (y0 : Int)) = true := decide_eq_true (by omega)
              obtain ⟨b3, d3⟩ : ∃ b, decide ((y0 : Int) ≤ la) = b := ⟨_, rfl⟩
              clear c1 c2 c3 h1
              cases b3 <;>
              · go_wp2_with (first | (go_at_call 79; (refine (Rerr_c r s1 w2 HR2.out).mono ?_); rintro _ _ ⟨rfl, rfl⟩))
                go_meet
                exact ⟨Lib.hid rfl, .inl ⟨rfl, Lib.hid HC3.out.symm⟩⟩
          · have HC4 := Lib.hid c4
            have HC2 := Lib.hid c2
            have z0 : (((s1.err : Nat) : Int) == 0) = true := by rw [beq_iff_eq]; omega
            have d1 : decide (R ≤ y0) = false := decide_eq_false (by omega)
            have d2 : decide ((R : Int) ≤ (y0 : Int)) = false := decide_eq_false (by omega)
            have d3 : decide ((y0 : Int) ≤ la) = false := decide_eq_false (by omega)
            clear c1 c2 c3 c4
            go_wp2_with (first | (go_at_call 79; (refine (Rerr_c r s1 w2 HR2.out).mono ?_); rintro _ _ ⟨rfl, rfl⟩))
            go_meet
            exact ⟨Lib.hid rfl, .inr ⟨rfl, Lib.hid ⟨HC2.out, HC4.out.symm⟩⟩⟩
        case rest =>
        obtain ⟨hwx, hs30⟩ := hcut
        obtain rfl := hwx.out.symm
        clear hwx x1
        rcases hs30 with ⟨rfl, hz⟩ | ⟨rfl, hz⟩
        · go_wp2_with (fail)
          go_ret
          exact ⟨by rw [← hz.out] <;> rfl, by rw [← hz.out]; exact HO2.out, HS2.out⟩
        · have hy : y0 < R := hz.out.1
          have x0 : w2.cell? ⟨p, 0, none⟩ = some (.int .i64 (C : Int)) := by rw [← HC.out]; exact HP2.out.nine.1
          go_wp2_with (fail)
          clear x0
          go_loopw [34] (fun x wr => ∃ (i : Nat) (s2 : RS) (c2 : List CeD), i ≤ C ∧ x = .int .i64 (i : Int) ∧ Hid (tailR C R (K - (k + 1)) y0 (C - i) (y0 * C + i) s2 c2 = Z) ∧ Hid ((s2.err = 0 ∨ i < C) ∧ s2.gA = st.gA) ∧ Hid (Rdr wr r s2) ∧ Hid (OwnC wr B (.slice (some ⟨g, 0, none⟩) n c) c2) ∧ Hid (c2.length = n) ∧ Hid (ScB wr p s (some ⟨g, 0, none⟩) n c L m cm) ∧ Hid (Stays (fun k => k = r ∨ k = g) w wr)) (fun x _ => C - (intOf x).toNat)
          case atStart => exact ⟨0, s1, cs, Nat.zero_le _, rfl, Lib.hid (by rw [Nat.sub_zero, Nat.add_zero]; exact hz.out.2), Lib.hid ⟨.inr hC1, HGA1.out⟩, HR2, HO2, HLK, HP2, HS2⟩
          case round =>
            obtain ⟨i, s2, c2, hi, rfl, HT, HS2q, HRq, HOq, HLq, HPq, HSq⟩ := hrel
            by_cases hic : i < C
            · obtain ⟨v1, sa, ea⟩ : ∃ v s', numR s2 4 = (v, s') := ⟨_, _, rfl⟩
              obtain ⟨v2, sb, eb⟩ : ∃ v s', numR sa 2 = (v, s') := ⟨_, _, rfl⟩
              obtain ⟨v3, sc, ec⟩ : ∃ v s', numR sb 2 = (v, s') := ⟨_, _, rfl⟩
              obtain ⟨v4, sd, ed⟩ : ∃ v s', numR sc 1 = (v, s') := ⟨_, _, rfl⟩
              obtain ⟨R1, eR1⟩ : ∃ R1, IntKind.i32.wrap (v1 : Int) = R1 := ⟨_, rfl⟩
              have HFR : Hid (fourR s2 = sd) := Lib.hid (by unfold fourR; rw [ea]; simp only []; rw [eb]; simp only []; rw [ec]; simp only []; rw [ed])
              have HFC : Hid (fourC s2 = ⟨R1, 0, (v2 : Int), (v3 : Int), (v4 : Int), 0⟩) := Lib.hid (by unfold fourC; rw [ea]; simp only []; rw [eb]; simp only []; rw [ec]; simp only []; rw [ed]; simp only []; rw [eR1])
              have HGD : Hid (sd.gA = st.gA) := Lib.hid (by rw [← HFR.out, (four_gA s2).1]; exact HS2q.out.2)
              have b2 : v2 < 65536 := by have h := num_lt sa 2; rw [eb] at h; exact Nat.lt_of_lt_of_le h (by decide)
              have b3 : v3 < 65536 := by have h := num_lt sb 2; rw [ec] at h; exact Nat.lt_of_lt_of_le h (by decide)
              have b4 : v4 < 256 := by have h := num_lt sc 1; rw [ed] at h; exact Nat.lt_of_lt_of_le h (by decide)
              have w2' : IntKind.u32.wrap (v2 : Int) = (v2 : Int) := IntWalk.u32_in _ ⟨by omega, by omega⟩
              have w3' : IntKind.u32.wrap (v3 : Int) = (v3 : Int) := IntWalk.u32_in _ ⟨by omega, by omega⟩
              have w4' : IntKind.u8.wrap (v4 : Int) = (v4 : Int) := IntWalk.u8_in _ ⟨by omega, by omega⟩
              have EA := Lib.hid ea
              have EB := Lib.hid eb
              have EC := Lib.hid ec
              have ED := Lib.hid ed
              clear ea eb ec ed
              go_upto_region 12 with (first
                | (go_at_call 78; (with_reducible refine (Rnum_c r s2 4 wr HRq.out (by decide)).mono ?_); rintro _ wa ⟨rfl, hr1, hg⟩; rw [EA.out] at hr1 ⊢; have HRa := Lib.hid hr1; have HSa := Lib.hid (HSq.out.trans (Stays.of_grown hg _ (.inl rfl))); have HOa := Lib.hid (OwnC.grown HOq.out hg HRG.out.1); have HPa := Lib.hid (ScB.grown HPq.out hg HPN.out.1); clear hr1 hg)
                | (go_at_call 78; (with_reducible refine (Rnum_c r sa 2 wa HRa.out (by decide)).mono ?_); rintro _ wb ⟨rfl, hr1, hg⟩; rw [EB.out] at hr1 ⊢; have HRb := Lib.hid hr1; have HSb := Lib.hid (HSa.out.trans (Stays.of_grown hg _ (.inl rfl))); have HOb := Lib.hid (OwnC.grown HOa.out hg HRG.out.1); have HPb := Lib.hid (ScB.grown HPa.out hg HPN.out.1); clear hr1 hg)
                | (go_at_call 78; (with_reducible refine (Rnum_c r sb 2 wb HRb.out (by decide)).mono ?_); rintro _ wc ⟨rfl, hr1, hg⟩; rw [EC.out] at hr1 ⊢; have HRc := Lib.hid hr1; have HSc := Lib.hid (HSb.out.trans (Stays.of_grown hg _ (.inl rfl))); have HOc := Lib.hid (OwnC.grown HOb.out hg HRG.out.1); have HPc := Lib.hid (ScB.grown HPb.out hg HPN.out.1); clear hr1 hg)
                | (go_at_call 78; (with_reducible refine (Rnum_c r sc 1 wc HRc.out (by decide)).mono ?_); rintro _ wd ⟨rfl, hr1, hg⟩; rw [ED.out] at hr1 ⊢; have HRd := Lib.hid hr1; have HSd := Lib.hid (HSc.out.trans (Stays.of_grown hg _ (.inl rfl))); have HOd := Lib.hid (OwnC.grown HOc.out hg HRG.out.1); have HPd := Lib.hid (ScB.grown HPc.out hg HPN.out.1); clear hr1 hg))
              clear HRq HSq HOq HPq HRa HSa HOa HPa HRb HSb HOb HPb HRc HSc HOc HPc
              obtain ⟨D, eD⟩ : ∃ D : CeD, D = ⟨R1, 0, (v2 : Int), (v3 : Int), (v4 : Int), 0⟩ := ⟨_, rfl⟩
              have HFC2 : Hid (fourC s2 = D) := Lib.hid (HFC.out.trans eD.symm)
              have HDC : Hid (D.cells.toArray = #[Value.int IntKind.i32 R1, Value.int IntKind.u8 0, Value.int IntKind.u32 ↑v2, Value.int IntKind.u32 ↑v3, Value.int IntKind.u8 ↑v4, Value.int IntKind.u16 0]) := Lib.hid (by rw [eD]; rfl)
              generalize eW : World.alloc wd _ = We
              obtain ⟨gc, egc⟩ : ∃ x, x = wd.heap.size := ⟨_, rfl⟩
              rw [← egc]
              have hcb : We.heap[gc]? = some (.cells #[Value.int IntKind.i32 R1, Value.int IntKind.u8 0, Value.int IntKind.u32 ↑v2, Value.int IntKind.u32 ↑v3, Value.int IntKind.u8 ↑v4, Value.int IntKind.u16 0] 47 (0, 0)) := by rw [← eW, egc]; exact heap_alloc_new _ _
              have hbe : Below wd.heap.size wd We := by rw [← eW]; exact (Below.refl _ _).alloc (Nat.le_refl _) _
              have HCB := Lib.hid hcb
              have HRe := Lib.hid (HRd.out.below hbe)
              have HSe := Lib.hid (HSd.out.trans (Stays.of_below hbe _))
              have HOe := Lib.hid (OwnC.below HOd.out hbe)
              have HPe := Lib.hid (HPd.out.below hbe)
              have HUe : Hid (TabU We) := Lib.hid (HU.out.below (HSe.out.below HBB.out.2.1 (fun k hk h => by have h2 := HBB.out.2.2; rcases h with rfl | rfl <;> omega)) HBB.out.1)
              have HGC : Hid (gc ≠ g ∧ gc ≠ r) := Lib.hid ⟨by have := (HOd.out.lt g rfl).2; omega, by have := HRd.out.lt; omega⟩
              have d2 : We.cell? ⟨gc, 2, none⟩ = some (.int .u32 (v2 : Int)) := (heap_cell hcb 2).trans rfl
              have d3 : We.cell? ⟨gc, 3, none⟩ = some (.int .u32 (v3 : Int)) := (heap_cell hcb 3).trans rfl
              have HM : Hid (Calls Tryd.prog 120 #[.agg #[Value.int IntKind.i32 R1, Value.int IntKind.u8 0, Value.int IntKind.u32 ↑v2, Value.int IntKind.u32 ↑v3, Value.int IntKind.u8 ↑v4, Value.int IntKind.u16 0]] We fun e w' => e = .returned (.bool (mayC D)) ∧ Below We.heap.size We w') := Lib.hid (by rw [eD]; exact May_c ⟨R1, 0, (v2 : Int), (v3 : Int), (v4 : Int), 0⟩ We HUe.out)
              have hbd : badAt16 D = (!mayC D || (decide (256 < v2) || decide (256 < v3))) := by
                rw [eD]; unfold badAt16
                rw [show decide ((256 : Int) < (v2 : Int)) = decide (256 < v2) from decide_eq_decide.2 (by omega), show decide ((256 : Int) < (v3 : Int)) = decide (256 < v3) from decide_eq_decide.2 (by omega)]
              have HBD := Lib.hid hbd
              have HDD := Lib.hid eD
              clear eW egc hcb hbe eD hbd HRd HSd HOd HPd
              by_cases he : sd.err = 0
              · have z0 : (((sd.err : Nat) : Int) != 0) = false := by rw [bne_eq_false_iff_eq]; omega
                have HE := Lib.hid he
                have HT2 : Hid ((if badAt16 D then (3, c2) else tailR C R (K - (k + 1)) y0 (C - (i + 1)) (y0 * C + i + 1) sd (c2.set (y0 * C + i) D)) = Z) := Lib.hid (by
                  have h := HT.out
                  rw [show C - i = C - (i + 1) + 1 by omega, tail_step _ _ _ _ _ _ _ _ (by rw [HFR.out]; exact he), HFR.out, HFC2.out] at h
                  exact h)
                clear he
                go_upto_region 14 with (first | (go_at_call 79; (with_reducible refine (Rerr_c r sd We HRe.out).mono ?_); rintro _ _ ⟨rfl, rfl⟩))
                clear z0
                obtain ⟨bad, ebad⟩ : ∃ b, badAt16 D = b := ⟨_, rfl⟩
                go_cut [70] (fun s70 wx => Hid (Below We.heap.size We wx) ∧ s70 = .bool bad)
                case first =>
                  obtain ⟨bm, em⟩ : ∃ b, mayC D = b := ⟨_, rfl⟩
                  obtain ⟨bf, ef⟩ : ∃ b, decide (256 < v2) = b := ⟨_, rfl⟩
                  obtain ⟨bb, eb⟩ : ∃ b, decide (256 < v3) = b := ⟨_, rfl⟩
                  have ef2 : decide ((256 : Int) < (v2 : Int)) = bf := by rw [← ef]; exact decide_eq_decide.2 (by omega)
                  have eb2 : decide ((256 : Int) < (v3 : Int)) = bb := by rw [← eb]; exact decide_eq_decide.2 (by omega)
                  have EM := Lib.hid em
                  have EB2 : Hid (bad = (!bm || (bf || bb))) := Lib.hid (by rw [← ebad, HBD.out, em, ef, eb])
                  clear em ebad
                  cases bm <;> cases bf <;> cases bb <;>
                  · go_wp2_with (first
                      | (refine wpList_load_row rfl 47 (.tmp 8) rfl gc rfl 47 _ (0, 0) _ HCB.out Tryd.underlying47 rfl (info_ce6.trans rfl) ?_)
                      | (go_at_call 120; (refine HM.out.mono ?_); rintro _ wf ⟨rfl, hbf⟩; rw [EM.out]; have HBF := Lib.hid hbf; have dd2 := (hbf.cell (p := ⟨gc, 2, none⟩) (heap_lt HCB.out)).trans d2; have dd3 := (hbf.cell (p := ⟨gc, 3, none⟩) (heap_lt HCB.out)).trans d3; clear hbf))
                    go_meet
                    exact ⟨HBF, by rw [EB2.out] <;> rfl⟩
                case rest =>
                obtain ⟨HBX, rfl⟩ := hcut
                cases bad
                · have HT3 : Hid (tailR C R (K - (k + 1)) y0 (C - (i + 1)) (y0 * C + i + 1) sd (c2.set (y0 * C + i) D) = Z) := Lib.hid (by have h := HT2.out; rw [ebad] at h; exact h)
                  have HPf := Lib.hid (HPe.out.below HBX.out)
                  have x0 := HPf.out.nine.1
                  have x2 := HPf.out.nine.2.2.1
                  rw [HC.out] at x0
                  obtain ⟨l, el⟩ : ∃ l, l = y0 * C := ⟨_, rfl⟩
                  obtain ⟨P, eP⟩ : ∃ P, P = l + i := ⟨_, rfl⟩
                  have hle : (y0 + 1) * C ≤ C * R := by rw [Nat.mul_comm C R]; exact Nat.mul_le_mul_right C hy
                  have hPn : P < n := by rw [Nat.add_mul, Nat.one_mul, ← el, ← HN.out] at hle; omega
                  have HPL : Hid (P < c2.length) := Lib.hid (by rw [HLq.out]; exact hPn)
                  have e1 : (y0 : Int) * (C : Int) = (l : Int) := by rw [el]; exact (Int.natCast_mul y0 C).symm
                  have e2 : (l : Int) + (i : Int) = (P : Int) := by rw [eP]; exact (Int.natCast_add l i).symm
                  have EPL : Hid (y0 * C + i = P) := Lib.hid (by rw [eP, el])
                  have hl1 : l ≤ 1920 := by omega
                  have ho4 := OwnC.below HOe.out HBX.out
                  obtain ⟨yo, -, z0, z1, z2, z3, z4, z5⟩ := ho4.cellsAt P HPL.out
                  have f0 := ho4.free (P * 6)
                  have f1 := ho4.free (P * 6 + 1)
                  have f2 := ho4.free (P * 6 + 2)
                  have f3 := ho4.free (P * 6 + 3)
                  have f4 := ho4.free (P * 6 + 4)
                  have f5 := ho4.free (P * 6 + 5)
                  have hnc := ho4.len
                  have HO4 := Lib.hid ho4
                  have HNC : Hid (n ≤ c) := Lib.hid (by omega)
                  have HCB4 := Lib.hid ((HBX.out.block gc (heap_lt HCB.out)).trans HCB.out)
                  have HIC := Lib.hid hic
                  clear ho4 hnc el eP hle d2 d3 hic
                  go_upto_region 17 with (first
                    | (refine wpList_load_row rfl 47 (.tmp 8) rfl gc rfl 47 _ (0, 0) _ HCB4.out Tryd.underlying47 rfl (info_ce6.trans rfl) ?_))
                  obtain ⟨W5, eW5⟩ : ∃ W5, W5 = ((((((wc.setCell ⟨g, P * 6, none⟩ (.int .i32 R1)).setCell ⟨g, P * 6 + 1, none⟩ (.int .u8 0)).setCell ⟨g, P * 6 + 2, none⟩ (.int .u32 (v2 : Int))).setCell ⟨g, P * 6 + 3, none⟩ (.int .u32 (v3 : Int))).setCell ⟨g, P * 6 + 4, none⟩ (.int .u8 (v4 : Int))).setCell ⟨g, P * 6 + 5, none⟩ (.int .u16 0)) := ⟨_, rfl⟩
                  rw [← eW5]
                  have HO5 : Hid (OwnC W5 B (.slice (some ⟨g, 0, none⟩) n c) (c2.set P D)) := Lib.hid (by rw [eW5, HDD.out]; exact HO4.out.setAll P HPL.out ⟨R1, 0, (v2 : Int), (v3 : Int), (v4 : Int), 0⟩)
                  have HG5 : Hid (Stays (fun k => k = g) wc W5) := Lib.hid (by rw [eW5]; exact six_stays _ _ _ _ _ _ _ _ _ _ _ _ _ _ _ rfl)
                  have HS5 : Hid (Stays (fun k => k = r ∨ k = g) w W5) := Lib.hid (by rw [eW5]; exact (HSe.out.trans (Stays.of_below HBX.out _)).trans (six_stays _ _ _ _ _ _ _ _ _ _ _ _ _ _ _ (.inr rfl)))
                  have HP5 := Lib.hid (HG5.out.scB HPf.out (fun e => HPN.out.2 e))
                  have HR5 := Lib.hid (HG5.out.rdr (HRe.out.below HBX.out) (fun e => HRG.out.1 e) (fun a ha e => HRG.out.2 a (HGD.out ▸ ha) e))
                  have hic := HIC.out
                  clear eW5 yo z0 z1 z2 z3 z4 z5 f0 f1 f2 f3 f4 f5 x0 x2
                  go_wp2_with (fail)
                  go_roundw
                  case rel =>
                    refine ⟨i + 1, sd, c2.set P D, HIC.out, rfl, Lib.hid ?_, Lib.hid ⟨.inl HE.out, HGD.out⟩, HR5, HO5, Lib.hid (by rw [List.length_set]; exact HLq.out), HP5, HS5⟩
                    have h := HT3.out
                    rw [EPL.out] at h
                    rw [← Nat.add_assoc, EPL.out]
                    exact h
                  case measure => simp [intOf]; omega
                · have HT3 : Hid ((3, c2) = Z) := Lib.hid (by have h := HT2.out; rw [ebad] at h; exact h)
                  go_wp2_with (fail)
                  go_ret
                  exact ⟨by rw [← HT3.out] <;> rfl, by rw [← HT3.out]; exact OwnC.below HOe.out HBX.out, HSe.out.trans (Stays.of_below HBX.out _)⟩
              · have z0 : (((sd.err : Nat) : Int) != 0) = true := by rw [bne_iff_ne]; omega
                have HZ3 : Hid ((sd.err, c2) = Z) := Lib.hid (by
                  have h := HT.out
                  rw [show C - i = C - (i + 1) + 1 by omega, tail_err _ _ _ _ _ _ _ _ (by rw [HFR.out]; exact he), HFR.out] at h
                  exact h)
                clear he
                go_wp2_with (first | (go_at_call 79; (with_reducible refine (Rerr_c r sd We HRe.out).mono ?_); rintro _ _ ⟨rfl, rfl⟩))
                go_ret
                exact ⟨by rw [← HZ3.out] <;> rfl, by rw [← HZ3.out]; exact HOe.out, HSe.out⟩
            · obtain rfl : i = C := by omega
              have hlt := HLT.out
              go_wp2_with (fail)
              go_roundw
              case rel =>
                refine ⟨k + 1, (y0 : Int), s2, c2, by have := HLT.out; omega, rfl, rfl, ⟨by omega, by omega⟩, Lib.hid ?_, Lib.hid ⟨by have := HS2q.out.1; omega, HS2q.out.2⟩, HRq, HOq, HLq, HPq, HSq⟩
                have h := HT.out
                rw [Nat.sub_self, tail_zero _ _ _ _ _ _ _ (by have := HS2q.out.1; omega)] at h
                exact h
              case measure => have := HLT.out; simp [intOf]; omega
      · obtain rfl : k = K := by omega
        obtain ⟨E, eE⟩ : ∃ E, (if sk.rest.length = 0 then 0 else 6) = E := ⟨_, rfl⟩
        have HZ2 : Hid ((E, cs) = Z) := Lib.hid (by rw [← HZ.out, Nat.sub_self, ← eE]; rfl)
        have HE2 : Hid (endR sk = E) := Lib.hid ((end_rows HSK.out.1 (by obtain ⟨_, _, _, _, _, h, _⟩ := HRK.out.open_.choose_spec.choose_spec; exact h)).trans eE)
        clear eE
        go_wp2_with (first
          | (go_at_call 121; (refine (Rend_c r sk wr HRK.out).mono ?_); rintro _ w2 ⟨rfl, q, rfl⟩; rw [HE2.out]))
        go_ret
        exact ⟨by rw [← HZ2.out] <;> rfl, by rw [← HZ2.out]; exact HOK.out, HSS.out.drewN q⟩
end Go.Proofs.YtipofokinjkclaaDoor


/- What the reference's diff (16) answers: the diff by rows. Conditions: the second screen fits, the first has as many cells. -/
namespace Go.Proofs.YtipofokinjkclaaDoor
open Go Go.RowKit Go.Lib

theorem OwnB.below_ {w w' : World} {B : Nat} {v : Value} {bs : List UInt8} (h : OwnB w B v bs) (hb : Below w.heap.size w w') : OwnB w' B v bs := Own.below h hb
theorem flags_hid (f0 : Nat) (h t : Bool) : flagsN f0 h t = f0 + (if h then 1 else 0) + (if t then 2 else 0) := rfl
end Go.Proofs.YtipofokinjkclaaDoor


/- Regions whose appends of bytes stand in a chain beside operations that float: the bytes that come are known; what each operation yields stays true as they come. Conditions: small slices besides. -/
namespace Go.Proofs.YtipofokinjkclaaDoor
open Go Go.RowKit

set_option maxRecDepth 100000 in
set_option maxHeartbeats 400000 in
theorem Num_s (n s : Nat) (w : World) (_hn : U64 n) (h1 : 1 ≤ (s : Int)) (h8 : (s : Int) ≤ 8) :
    Calls Tryd.prog 88 #[.int .u64 n, .int .i64 (s : Int)] w fun e w' => e = .returned (.slice (some ⟨w.heap.size, 0, none⟩) s s) ∧ OwnB w' w.heap.size (.slice (some ⟨w.heap.size, 0, none⟩) s s) (numL n s) ∧ Below w.heap.size w w' := by
  go_enter Tryd.func88, Tryd.ntmps88
  go_wp2_with (first | (at_make; refine wpList_makeB _ rfl (.tmp 13) (.tmp 13) rfl _ _ _ _ s rfl rfl rfl rfl (by omega) ?_))
  intro w1 ho1 hb1 _
  go_wp2
  go_loopw [0, 6] (fun m i wr => ∃ k : Nat, k ≤ s ∧ i = .int .i64 ((k : Int) - 1) ∧ m = .int .u64 ((n / 256 ^ (s - k) : Nat) : Int) ∧ OwnB wr w.heap.size (.slice (some ⟨w.heap.size, 0, none⟩) s s) (numTail n s k) ∧ Below w.heap.size w wr) (fun m i _ => (intOf i + 1).toNat)
  case atStart =>
    refine ⟨s, Nat.le_refl _, rfl, ?_, ?_, hb1⟩
    · rw [Nat.sub_self, Nat.pow_zero, Nat.div_one]
    · rw [numTail_start]; exact ho1
  case round =>
    obtain ⟨k, hk, rfl, rfl, hown, hb⟩ := hrel
    rcases Nat.eq_zero_or_pos k with h0 | h0
    · subst h0
      go_wp2
      go_ret
      refine ⟨rfl, ?_, hb⟩
      rw [← numTail_zero]; exact hown
    · obtain ⟨j, rfl⟩ : ∃ j, k = j + 1 := ⟨k - 1, by omega⟩
      have hcell := hown.cell j (by rw [numTail_length _ _ _ hk]; omega)
      have hfree := hown.free j
      obtain ⟨x, hx⟩ : ∃ x, x = n / 256 ^ (s - (j + 1)) := ⟨_, rfl⟩
      have hq : x / 256 = n / 256 ^ (s - j) := by
        rw [hx, Nat.div_div_eq_div_mul, ← Nat.pow_succ, show (s - (j + 1)).succ = s - j by omega]
      rw [← hx]
      have HX := Lib.hid hx; clear hx
      have HQ := Lib.hid hq; clear hq
      go_wp2
      go_roundw
      case rel =>
        refine ⟨j, by omega, rfl, by rw [← HQ.out]; try rfl, ?_, hb.setCell (Nat.le_refl _) _⟩
        rw [int_lo (x := (x : Int) % 256) (n := x) (by omega), ← numTail_step (by omega)]
        have h := hown.set j (lo x)
        rw [HX.out] at h ⊢
        rw [show s - 1 - j = s - (j + 1) by omega]
        exact h
      case measure => simp [intOf]


/-- A block of bytes that has room for L, into which bytes of F came. -/
def OutAt (F : List UInt8) (L : Nat) (a b : World) (j : Nat) : Prop := ∃ cs ds : Array Value, a.heap[j]? = some (.cells cs 5 (0, 0)) ∧ b.heap[j]? = some (.cells ds 5 (0, 0)) ∧ ds.size = cs.size ∧ L ≤ cs.size ∧ ∀ (i : Nat) (x : UInt8), F[i]? = some x → cs[i]? = some (bv x) → ds[i]? = some (bv x)
structure Hc (F : List UInt8) (B L : Nat) (a b : World) : Prop where
  low : Below B a b
  blk : ∀ j, j < a.heap.size → b.heap[j]? = a.heap[j]? ∨ OutAt F L a b j
theorem Hc.refl (F : List UInt8) (B L : Nat) (a : World) : Hc F B L a a := ⟨Below.refl _ _, fun _ _ => .inl rfl⟩
theorem Hc.trans {F : List UInt8} {B L : Nat} {a b c : World} (h : Hc F B L a b) (k : Hc F B L b c) : Hc F B L a c := by
  refine ⟨h.low.trans k.low, fun j hj => ?_⟩
  have hj2 := Nat.lt_of_lt_of_le hj h.low.size
  rcases h.blk j hj with e | ⟨cs, ds, h1, h2, h3, h4, h5⟩
  · rcases k.blk j hj2 with e2 | ⟨cs, ds, h1, h2, h3, h4, h5⟩
    · exact .inl (e2.trans e)
    · exact .inr ⟨cs, ds, by rw [← e]; exact h1, h2, h3, h4, h5⟩
  · rcases k.blk j hj2 with e2 | ⟨cs', ds', k1, k2, k3, k4, k5⟩
    · exact .inr ⟨cs, ds, h1, by rw [e2]; exact h2, h3, h4, h5⟩
    · rw [h2] at k1
      injection k1 with k1
      injection k1 with k1
      subst k1
      exact .inr ⟨cs, ds', h1, k2, k3.trans h3, h4, fun i x hx hc => k5 i x hx (h5 i x hx hc)⟩
theorem Hc.of {F : List UInt8} {B L : Nat} {a b : World} (hB : B ≤ a.heap.size) (h : Below a.heap.size a b) : Hc F B L a b := ⟨h.mono hB, fun j hj => .inl (h.block j hj)⟩
/-- Relations that stay. -/
structure Rh (F : List UInt8) (B L : Nat) where
  R : World → Value → Prop
  mono : ∀ {a b : World} {v : Value}, R a v → Hc F B L a b → R b v
section
variable {F : List UInt8} {B L : Nat}
def Rh.eq (u : Value) : Rh F B L := ⟨fun _ v => v = u, fun h _ => h⟩
def Rh.any : Rh F B L := ⟨fun _ _ => True, fun h _ => h⟩
/-- A slice of few bytes in a small block. -/
def SmallB (L : Nat) (bs : List UInt8) (w : World) (v : Value) : Prop := ∃ h cur c, v = .slice (some ⟨h, 0, none⟩) bs.length c ∧ w.heap[h]? = some (.cells cur 5 (0, 0)) ∧ cur.size < L ∧ ∀ (i : Nat) (x : UInt8), bs[i]? = some x → cur[i]? = some (bv x)
def Rh.small (bs : List UInt8) : Rh F B L := ⟨SmallB L bs, fun {a b v} ⟨h, cur, c, e, hg, hs, hc⟩ g => by
  rcases g.blk h (heap_lt hg) with e2 | ⟨cs, ds, h1, h2, h3, h4, h5⟩
  · exact ⟨h, cur, c, e, e2.trans hg, hs, hc⟩
  · rw [hg] at h1
    injection h1 with h1
    injection h1 with h1
    subst h1
    omega⟩
/-- What came so far. -/
def OutV (F : List UInt8) (B L k : Nat) (w : World) (v : Value) : Prop := ∃ g cur c, v = .slice (some ⟨g, 0, none⟩) k c ∧ B ≤ g ∧ w.heap[g]? = some (.cells cur 5 (0, 0)) ∧ cur.size = c ∧ L ≤ k ∧ k ≤ c ∧ c ≤ maxLen ∧ k ≤ F.length ∧ ∀ (i : Nat) (x : UInt8), i < k → F[i]? = some x → cur[i]? = some (bv x)
def Rh.out (k : Nat) : Rh F B L := ⟨OutV F B L k, fun {a b v} ⟨g, cur, c, e, hB, hg, hs, hL, hk, hm, hF, hc⟩ h => by
  rcases h.blk g (heap_lt hg) with e2 | ⟨cs, ds, h1, h2, h3, h4, h5⟩
  · exact ⟨g, cur, c, e, hB, e2.trans hg, hs, hL, hk, hm, hF, hc⟩
  · rw [hg] at h1
    injection h1 with h1
    injection h1 with h1
    subst h1
    exact ⟨g, ds, c, e, hB, h2, h3.trans hs, hL, hk, hm, hF, fun i x hi hx => h5 i x hx (hc i x hi hx)⟩⟩
theorem OutV.of {w : World} {v : Value} {bs : List UInt8} (h : OwnB w B v bs) (hF : ∃ r, F = bs ++ r) (hL : L ≤ bs.length) (h0 : 0 < bs.length) : OutV F B L bs.length w v := by
  obtain ⟨r, rfl⟩ := hF
  rcases h.2 with ⟨_, h1⟩ | ⟨g, cap, cur, rfl, hb, hg, hn, hm, hcs, ht⟩
  · rw [List.length_map] at h1; omega
  · rw [List.length_map] at hn ⊢
    refine ⟨g, cur, cap, rfl, hb, hg, by omega, hL, hn, hm, by simp, fun i x hi hx => ?_⟩
    rw [List.getElem?_append_left hi] at hx
    have h2 : (bs.map bv)[i]? = some (bv x) := by rw [List.getElem?_map, hx]; rfl
    rw [← ht, List.getElem?_take, List.length_map, if_pos (by omega)] at h2
    simpa using h2
theorem OutV.own {w : World} {v : Value} {k : Nat} (h : OutV F B L k w v) : OwnB w B v (F.take k) := by
  obtain ⟨g, cur, c, rfl, hB, hg, hs, hL, hk, hm, hF, hc⟩ := h
  have hl : (F.take k).length = k := by rw [List.length_take]; omega
  refine ⟨by rw [List.length_map, hl, Nat.mul_one], .inr ⟨g, c, cur, by rw [List.length_map, hl], hB, hg, by rw [List.length_map, hl]; exact hk, hm, by omega, ?_⟩⟩
  rw [List.length_map, hl, Nat.mul_one]
  apply List.ext_getElem?
  intro i
  rw [List.getElem?_take, List.getElem?_map, List.getElem?_take]
  by_cases hi : i < k
  · rw [if_pos hi, if_pos hi]
    obtain ⟨x, hx⟩ : ∃ x, F[i]? = some x := ⟨F[i]'(by omega), List.getElem?_eq_getElem (by omega)⟩
    rw [hx]
    simpa using hc i x hi hx
  · rw [if_neg hi, if_neg hi]; rfl
/-- One append of the chain. -/
theorem OutV.app {P : Program} {w : World} {v : Value} {k m c : Nat} {ty : TypeId} {i0 : TypeInfo} (ht : P.underlying 29 = some (.slice 5)) (hi : P.info? 5 = some i0) (hz : i0.zero = some (.int .u8 0)) (hz1 : i0.size = 1) (hz2 : i0.bytes = 1)
    (h : OutV F B L k w v) (ns : List UInt8) (a : Addr) (hm : ns.length = m) (hr : ∀ j u, (ns.map bv)[j]? = some u → w.cell? (a.add j) = some u) (hF : (F.drop k).take m = ns) (hsm : k + m ≤ 100000000) (h0 : 0 < L) (hB : B ≤ w.heap.size) :
    ∃ v' w', (Builtin.append_ #[29, 29] ty #[v, .slice (some a) m c]).run P w = .ok v' w' ∧ OutV F B L (k + m) w' v' ∧ Hc F B L w w' := by
  have hown := h.own
  obtain ⟨g, cur, cc, rfl, hBg, hg, hs, hL, hk, hmx, hFl, hc⟩ := h
  have hkm : k + m ≤ F.length := by
    have := congrArg List.length hF
    rw [List.length_take, List.length_drop, hm] at this
    omega
  have hFi : ∀ j, j < m → F[k + j]? = ns[j]? := fun j hj => by rw [← hF, List.getElem?_take, if_pos hj, List.getElem?_drop]
  by_cases hroom : k + m ≤ cc
  · have hrun := run_append_room (P := P) w 29 ty 5 i0 ht hi g k cc cur hg a m c (ns.map bv) (by rw [List.length_map, hm, hz1, Nat.mul_one]) hr (bv_one _) hroom (by rw [hz1, Nat.mul_one, List.length_map, hm]; omega)
    rw [hz1, Nat.mul_one, List.length_map, hm] at hrun
    obtain ⟨D, eD⟩ : ∃ D, D = (cur.toList.take k ++ ns.map bv ++ cur.toList.drop (k + m)).toArray := ⟨_, rfl⟩
    rw [← eD] at hrun
    have hDs : D.size = cur.size := by rw [eD]; simp [hm]; omega
    have hD1 : ∀ i, i < k → D[i]? = cur[i]? := fun i hi => by
      rw [eD, List.getElem?_toArray, List.append_assoc, List.getElem?_append_left (by simp; omega), List.getElem?_take, if_pos hi]; simp
    have hD2 : ∀ j, j < m → D[k + j]? = (ns.map bv)[j]? := fun j hj => by
      rw [eD, List.getElem?_toArray, List.append_assoc, List.getElem?_append_right (by simp; omega), List.getElem?_append_left (by simp; omega)]
      congr 1; simp; omega
    have hD3 : ∀ i, k + m ≤ i → D[i]? = cur[i]? := fun i hi => by
      rw [eD, List.getElem?_toArray, List.getElem?_append_right (by simp [hm]; omega), List.getElem?_drop]
      have : k + m + (i - (cur.toList.take k ++ ns.map bv).length) = i := by simp [hm]; omega
      rw [this]; simp
    have hnew : ∀ (i : Nat) (x : UInt8), i < k + m → k ≤ i → F[i]? = some x → D[i]? = some (bv x) := fun i x h1 h2 hx => by
      have e := hFi (i - k) (by omega)
      rw [show k + (i - k) = i by omega, hx] at e
      have := hD2 (i - k) (by omega)
      rw [show k + (i - k) = i by omega, List.getElem?_map, ← e] at this
      exact this
    refine ⟨_, _, hrun, ⟨g, D, cc, rfl, hBg, setRow_heap w g cur _ _ _ hg, hDs.trans hs, by omega, hroom, hmx, hkm, fun i x hi' hx => ?_⟩, ⟨⟨rfl, rfl, rfl, by simp, fun q hq => setRow_other w g q _ (by omega)⟩, fun j hj => ?_⟩⟩
    · rcases Nat.lt_or_ge i k with h1 | h1
      · rw [hD1 i h1]; exact hc i x h1 hx
      · exact hnew i x hi' h1 hx
    · by_cases e : j = g
      · subst e
        refine .inr ⟨cur, D, hg, setRow_heap w j cur _ _ _ hg, hDs, by omega, fun i x hx hcx => ?_⟩
        rcases Nat.lt_or_ge i k with h1 | h1
        · rw [hD1 i h1]; exact hcx
        · rcases Nat.lt_or_ge i (k + m) with h2 | h2
          · exact hnew i x h2 h1 hx
          · rw [hD3 i h2]; exact hcx
      · exact .inl (setRow_other w g j _ e)
  · have hx : (F.take k ++ ns) = F.take (k + m) := by rw [List.take_add, hF]
    have htl : (F.take k).length = k := by rw [List.length_take]; omega
    have holds : ∀ j u, ((F.take k).map bv)[j]? = some u → w.cell? ((⟨g, 0, none⟩ : Addr).add j) = some u := by
      have := hown.cells (g := g) rfl
      exact this
    obtain ⟨v', w', r1, r2, r3, _, _⟩ := run_append_own_at (P := P) w B 29 ty 5 i0 (.int .u8 0) 1 1 ht hi hz hz1 hz2 rfl (by decide) _ _ ((F.take k).map bv) hown a m c (ns.map bv) (by rw [List.length_map, hm, Nat.mul_one]) hr (bv_one _) (by rw [List.length_map, htl]; unfold maxLen; omega) (by rw [List.length_map, htl]; omega) hB
    have r4 := run_append_grow (P := P) w 29 ty 5 i0 (.int .u8 0) ht hi hz ⟨g, 0, none⟩ k cc ((F.take k).map bv) (by rw [List.length_map, htl, hz1, Nat.mul_one]) holds a m c (ns.map bv) (by rw [List.length_map, hm, hz1, Nat.mul_one]) hr (by omega) (by omega) (growslice_fits (by omega) (by rw [hz2]; omega))
    have e := r4.symm.trans r1
    injection e with e1 e2
    have hbw : Below w.heap.size w w' := by rw [← e2]; exact (show Below w.heap.size w w.drew from below_drewN (Below.refl _ _) 1).alloc (Nat.le_refl _) _
    refine ⟨v', w', r1, ?_, Hc.of hB hbw⟩
    have r2' : OwnB w' B v' (F.take (k + m)) := by
      rw [← hx]
      rw [List.length_map, htl] at r2
      unfold OwnB Own
      rw [List.length_map, List.length_append, htl, hm, List.map_append]
      exact r2
    have hl2 : (F.take (k + m)).length = k + m := by rw [List.length_take]; omega
    have := OutV.of (F := F) (L := L) r2' ⟨F.drop (k + m), (List.take_append_drop _ _).symm⟩ (by omega)
    rw [hl2] at this
    exact this (by omega)
end
/-! ### The law -/
def rhOf {F : List UInt8} {B L : Nat} (l : List (Rh F B L)) (i : Nat) : World → Value → Prop := (l.getD i Rh.any).R
/-- The steps of a chain: a number laid, one byte laid, an append. -/
theorem gives_num {F : List UInt8} {B L : Nat} {o : Oper} {f : Nat → Value} {w : World} (x y : Operand) (ats : Array TypeId) (ho : o.op = .call { callee := .value (.func 88), args := #[x, y], argTypes := ats })
    (n s : Nat) (S : Int) (hx : evF f x = .int .u64 (n : Int)) (hy : evF f y = .int .i64 S) (hS : S = (s : Int)) (hn : U64 n) (h1 : 1 ≤ s) (h8 : s ≤ 8) (hB : B ≤ w.heap.size) (hL : s < L) :
    Gives Tryd.prog o f w (fun v w'' => Hc F B L w w'' ∧ SmallB L (numL n s) w'' v) := by
  subst hS
  refine gives_func ho Tryd.func88 (by kernel_rfl) rfl (by simp only [List.map_toArray, List.map_cons, List.map_nil, hx, hy]) ((Num_s n s w hn (by omega) (by omega)).mono ?_)
  rintro e w'' ⟨rfl, ho', hb⟩
  refine ⟨_, rfl, Hc.of hB hb, ?_⟩
  rcases ho'.2 with ⟨h, _⟩ | ⟨g, cap, cur, hv, hb', hg, hn', hm, hcs, ht⟩
  · cases h
  · injection hv with hv1 hv2 hv3
    injection hv1 with hv1
    injection hv1 with hv1
    subst hv1 hv3
    refine ⟨w.heap.size, cur, s, by rw [numL_length], hg, by omega, fun i x hx => ?_⟩
    have hi : i < (numL n s).length := (List.getElem?_eq_some_iff.1 hx).1
    have h2 : ((numL n s).map bv)[i]? = some (bv x) := by rw [List.getElem?_map, hx]; rfl
    rw [← ht, List.getElem?_take, List.length_map, if_pos (by omega)] at h2
    simpa using h2
theorem SmallB.rd {L : Nat} {bs : List UInt8} {w : World} {v : Value} (h : SmallB L bs w v) : ∃ a c, v = .slice (some a) bs.length c ∧ ∀ j u, (bs.map bv)[j]? = some u → w.cell? (a.add j) = some u := by
  obtain ⟨g, cur, c, e, hg, _, hc⟩ := h
  refine ⟨⟨g, 0, none⟩, c, e, fun j u hu => ?_⟩
  rw [List.getElem?_map] at hu
  obtain ⟨x, hx, rfl⟩ := Option.map_eq_some_iff.1 hu
  rw [Addr.add_lit, Nat.zero_add, cell_of_row w g j cur _ (0, 0) hg]
  exact hc j x hx
theorem gives_app {F : List UInt8} {B L : Nat} {o : Oper} {f : Nat → Value} {w : World} (x y : Operand) (ho : o.op = .call { callee := .builtin .append, args := #[x, y], argTypes := #[29, 29] })
    (k m : Nat) (ns : List UInt8) (hm : ns.length = m) (hx : OutV F B L k w (evF f x)) (hy : SmallB L ns w (evF f y)) (hF : (F.drop k).take m = ns) (hsm : k + m ≤ 100000000) (h0 : 0 < L) (hB : B ≤ w.heap.size) :
    Gives Tryd.prog o f w (fun v w'' => Hc F B L w w'' ∧ OutV F B L (k + m) w'' v) := by
  obtain ⟨i0, hi, hz0, hz1, hz2⟩ := info_parts info_u8
  obtain ⟨a, c, e, hr⟩ := hy.rd
  obtain ⟨v', w', hrun, h1, h2⟩ := OutV.app (P := Tryd.prog) (ty := o.type) (c := c) Tryd.underlying29 hi hz0 hz1 hz2 hx ns a hm hr hF hsm h0 hB
  refine gives_val (v := v') (w' := w') ?_ ⟨h2, h1⟩
  unfold execOp
  simp only [ho, resolve, invoke, builtin, Sem.run_bind, Sem.run_pure, Result.andThen_ok, List.map_toArray, List.map_cons, List.map_nil, e, hm, hrun]
end Go.Proofs.YtipofokinjkclaaDoor


/- An append of a text in such a chain; one byte laid. Conditions: as there. -/
namespace Go.Proofs.YtipofokinjkclaaDoor
open Go Go.RowKit

section
variable {F : List UInt8} {B L : Nat}
/-- One append of a text. -/
theorem OutV.appStr {P : Program} {w : World} {v : Value} {k m : Nat} {ty : TypeId} {i0 : TypeInfo} (ht : P.underlying 29 = some (.slice 5)) (hi : P.info? 5 = some i0) (hz : i0.zero = some (.int .u8 0)) (hz1 : i0.size = 1) (hz2 : i0.bytes = 1) (hu : P.underlying 9 = some .string)
    (h : OutV F B L k w v) (st : ByteArray) (hm0 : st.size = m) (ns : List UInt8) (hns : ns = strB st) (hF : (F.drop k).take m = ns) (hsm : k + m ≤ 100000000) (h0 : 0 < L) (hB : B ≤ w.heap.size) :
    ∃ v' w', (Builtin.append_ #[29, 9] ty #[v, .string st]).run P w = .ok v' w' ∧ OutV F B L (k + m) w' v' ∧ Hc F B L w w' := by
  have hm : ns.length = m := by rw [hns, strB_len]; exact hm0
  have hsc : Lib.strCells st = ns.map bv := by rw [hns]; rfl
  have hown := h.own
  obtain ⟨g, cur, cc, rfl, hBg, hg, hs, hL, hk, hmx, hFl, hc⟩ := h
  have hkm : k + m ≤ F.length := by
    have := congrArg List.length hF
    rw [List.length_take, List.length_drop, hm] at this
    omega
  have hFi : ∀ j, j < m → F[k + j]? = ns[j]? := fun j hj => by rw [← hF, List.getElem?_take, if_pos hj, List.getElem?_drop]
  by_cases hroom : k + m ≤ cc
  · have hrun := Lib.run_append_room_string (P := P) w 29 9 ty 5 i0 ht hu hi hz1 g k cc cur hg st (by omega) (by omega)
    rw [hsc, hm0] at hrun
    obtain ⟨D, eD⟩ : ∃ D, D = (cur.toList.take k ++ ns.map bv ++ cur.toList.drop (k + m)).toArray := ⟨_, rfl⟩
    rw [← eD] at hrun
    have hDs : D.size = cur.size := by rw [eD]; simp [hm]; omega
    have hD1 : ∀ i, i < k → D[i]? = cur[i]? := fun i hi => by
      rw [eD, List.getElem?_toArray, List.append_assoc, List.getElem?_append_left (by simp; omega), List.getElem?_take, if_pos hi]; simp
    have hD2 : ∀ j, j < m → D[k + j]? = (ns.map bv)[j]? := fun j hj => by
      rw [eD, List.getElem?_toArray, List.append_assoc, List.getElem?_append_right (by simp; omega), List.getElem?_append_left (by simp; omega)]
      congr 1; simp; omega
    have hD3 : ∀ i, k + m ≤ i → D[i]? = cur[i]? := fun i hi => by
      rw [eD, List.getElem?_toArray, List.getElem?_append_right (by simp [hm]; omega), List.getElem?_drop]
      have : k + m + (i - (cur.toList.take k ++ ns.map bv).length) = i := by simp [hm]; omega
      rw [this]; simp
    have hnew : ∀ (i : Nat) (x : UInt8), i < k + m → k ≤ i → F[i]? = some x → D[i]? = some (bv x) := fun i x h1 h2 hx => by
      have e := hFi (i - k) (by omega)
      rw [show k + (i - k) = i by omega, hx] at e
      have := hD2 (i - k) (by omega)
      rw [show k + (i - k) = i by omega, List.getElem?_map, ← e] at this
      exact this
    refine ⟨_, _, hrun, ⟨g, D, cc, rfl, hBg, setRow_heap w g cur _ _ _ hg, hDs.trans hs, by omega, hroom, hmx, hkm, fun i x hi' hx => ?_⟩, ⟨⟨rfl, rfl, rfl, by simp, fun q hq => setRow_other w g q _ (by omega)⟩, fun j hj => ?_⟩⟩
    · rcases Nat.lt_or_ge i k with h1 | h1
      · rw [hD1 i h1]; exact hc i x h1 hx
      · exact hnew i x hi' h1 hx
    · by_cases e : j = g
      · subst e
        refine .inr ⟨cur, D, hg, setRow_heap w j cur _ _ _ hg, hDs, by omega, fun i x hx hcx => ?_⟩
        rcases Nat.lt_or_ge i k with h1 | h1
        · rw [hD1 i h1]; exact hcx
        · rcases Nat.lt_or_ge i (k + m) with h2 | h2
          · exact hnew i x h2 h1 hx
          · rw [hD3 i h2]; exact hcx
      · exact .inl (setRow_other w g j _ e)
  · have hx : (F.take k ++ ns) = F.take (k + m) := by rw [List.take_add, hF]
    have htl : (F.take k).length = k := by rw [List.length_take]; omega
    have holds : ∀ j u, ((F.take k).map bv)[j]? = some u → w.cell? ((⟨g, 0, none⟩ : Addr).add j) = some u := by
      have := hown.cells (g := g) rfl
      exact this
    obtain ⟨v', w', r1, r2, r3, _⟩ := Lib.run_append_own_string (P := P) w B 29 9 ty 5 i0 ht hu hi hz hz1 hz2 _ _ ((F.take k).map bv) hown st (by rw [List.length_map, htl]; unfold maxLen; omega) (by rw [List.length_map, htl]; omega) hB
    rw [hsc] at r2
    have r4 := Lib.run_append_grow_string (P := P) w 29 9 ty 5 i0 (.int .u8 0) ht hu hi hz ⟨g, 0, none⟩ k cc ((F.take k).map bv) (by rw [List.length_map, htl, hz1, Nat.mul_one]) holds st (by omega) (by omega) (growslice_fits (by omega) (by rw [hz2]; omega))
    have e := r4.symm.trans r1
    injection e with e1 e2
    have hbw : Below w.heap.size w w' := by rw [← e2]; exact (show Below w.heap.size w w.drew from below_drewN (Below.refl _ _) 1).alloc (Nat.le_refl _) _
    refine ⟨v', w', r1, ?_, Hc.of hB hbw⟩
    have r2' : OwnB w' B v' (F.take (k + m)) := by
      rw [← hx]
      rw [List.length_map, htl, hm0] at r2
      unfold OwnB Own
      rw [List.length_map, List.length_append, htl, hm, List.map_append]
      exact r2
    have hl2 : (F.take (k + m)).length = k + m := by rw [List.length_take]; omega
    have := OutV.of (F := F) (L := L) r2' ⟨F.drop (k + m), (List.take_append_drop _ _).symm⟩ (by omega)
    rw [hl2] at this
    exact this (by omega)
end
theorem gives_appStr {F : List UInt8} {B L : Nat} {o : Oper} {f : Nat → Value} {w : World} (x y : Operand) (ho : o.op = .call { callee := .builtin .append, args := #[x, y], argTypes := #[29, 9] })
    (k m : Nat) (st : ByteArray) (hm : st.size = m) (hx : OutV F B L k w (evF f x)) (hy : evF f y = .string st) (hF : (F.drop k).take m = strB st) (hsm : k + m ≤ 100000000) (h0 : 0 < L) (hB : B ≤ w.heap.size) :
    Gives Tryd.prog o f w (fun v w'' => Hc F B L w w'' ∧ OutV F B L (k + m) w'' v) := by
  obtain ⟨i0, hi, hz0, hz1, hz2⟩ := info_parts info_u8
  obtain ⟨v', w', hrun, h1, h2⟩ := OutV.appStr (P := Tryd.prog) (ty := o.type) Tryd.underlying29 hi hz0 hz1 hz2 Tryd.underlying9 hx st hm (strB st) rfl hF hsm h0 hB
  refine gives_val (v := v') (w' := w') ?_ ⟨h2, h1⟩
  unfold execOp
  simp only [ho, resolve, invoke, builtin, Sem.run_bind, Sem.run_pure, Result.andThen_ok, List.map_toArray, List.map_cons, List.map_nil, hy, hrun]
/-- One byte, laid in a block. -/
theorem gives_lit1 {F : List UInt8} {B L : Nat} {o : Oper} {f : Nat → Value} {w : World} (x : Operand) (ho : o.op = .buildSlice 29 1 #[(0, x)]) (X : Value) (b : UInt8) (hx : evF f x = X) (hX : X = bv b) (hL : 1 < L) (hB : B ≤ w.heap.size) :
    Gives Tryd.prog o f w (fun v w'' => Hc F B L w w'' ∧ SmallB L [b] w'' v) := by
  subst hX
  refine gives_val (v := .slice (some ⟨w.heap.size, 0, none⟩) 1 1) (w' := w.alloc (.cells #[bv b] 5)) ?_ ⟨Hc.of hB ((Below.refl _ _).alloc (Nat.le_refl _) _), w.heap.size, _, 1, rfl, heap_alloc_new w _, by simpa using hL, fun i y hy => ?_⟩
  · unfold execOp
    simp only [ho, List.map_toArray, List.map_cons, List.map_nil, hx]
    unfold bv
    go_simp
  · cases i with
    | zero => simp at hy; subst hy; rfl
    | succ i => simp at hy
def StpHT {F : List UInt8} {B L : Nat} (P : Program) (ops : Array Oper) (m : Nat) (a : Act) (W : World) (l : List (Rh F B L)) (i : Nat) (o : Oper) : Prop :=
  ∀ (f : Nat → Value) (w : World), Hc F B L W w → (∀ t, writesTo ops m t = false → f t = a.tmps.getD t undef) →
      (∀ j d, depOn ops i j = true → dstOf ops j = some d → rhOf l j w (f d)) → if Region.wanted o (yieldedF ops f) = true then Gives P o f w (fun v w'' => Hc F B L w w'' ∧ rhOf l i w'' v) else rhOf l i w undef
/-- The law, the last operations one behind the other. -/
theorem wp_region_rht {F : List UInt8} {B L : Nat} {P : Program} (n m : Nat) (l : List (Rh F B L)) (ws : List Nat) {id : Nat} {os : List Oper} {Q : Exit → Act → World → Prop} {a : Act} {w : World} (hm : P.follows .mixedOrders = true) (hn : a.tmps.size = n) (hok : slotsOk os.toArray n = true) (hws : allIn os.toArray ws = true)
    (hsz : m < os.toArray.size) (hwa : waitsAll os.toArray m = true) (hch : chained os.toArray m = true)
    (steps : AllFrom (StpHT P os.toArray m a w.drew l) 0 (os.take m))
    (fin : ∀ (f : Nat → Value) (w' : World), Hc F B L w.drew w' → (∀ j d, j < m → dstOf os.toArray j = some d → rhOf l j w' (f d)) → wpList P os.toArray Q (os.drop m) ⟨putAll f ws a.tmps, a.defers⟩ w') :
    (Code.region id os.toArray true).wp P Q a w := by
  refine wp_region_rel_tail n m hm hn hok hsz hwa hch (Hc F B L) (rhOf l) (Hc.refl F B L) Hc.trans (fun j _ _ _ h g => (l.getD j Rh.any).mono h g) (fun i o' hi ho => ?_) (fun f w' g hF hD => ?_)
  · exact AllFrom.outT os m steps i o' hi (by simpa using ho)
  · have e : ((List.range n).map f).toArray = putAll f ws a.tmps := by
      apply Array.ext
      · rw [putAll_size, hn]; simp
      · intro t h1 h2
        have ht : t < n := by simpa using h1
        have h3 := putAll_get f ws a.tmps t (by rw [hn]; exact ht) (by
          by_cases hw : writesTo os.toArray m t = true
          · left
            obtain ⟨j, hj, hd⟩ := List.any_eq_true.1 hw
            have hd := beq_iff_eq.1 hd
            have := List.all_eq_true.1 hws j (List.mem_range.2 (by have := List.mem_range.1 hj; omega))
            rw [hd] at this
            simpa using this
          · right
            exact (hF t (by simpa using hw)).symm)
        have h4 : (putAll f ws a.tmps)[t] = f t := by
          rw [← h3]; simp [h2]
        rw [h4]; simp
    rw [e]
    simpa using fin f w' g hD
end Go.Proofs.YtipofokinjkclaaDoor

