/- The walk of the law WireStays: it returns true. Conditions: the row's own. -/
import Derived.Test.YtacindehajholaaWf
import Derived.Test.YtacindehajholaaOpen
namespace Go.Proofs.Ytacindehajholaa
open Go Go.RowKit

/-! ### What a reader with an error answers -/
set_option maxRecDepth 100000 in
theorem sNum_c (r : Nat) (s : RS) (n : Int) (w : World) (h : Rdr w r s) (he : s.err ≠ 0) : Calls Try.prog 22 #[.pointer (some ⟨r, 0, none⟩), .int .i64 n] w fun e w' => e = .returned (.int .u64 0) ∧ w = w' := by
  obtain ⟨A, c, ⟨c0, c1, c2⟩, _, _⟩ := h.open_
  have hb : (((s.err : Nat) : Int) != 0) = true := by rw [bne_iff_ne]; omega
  clear he
  go_enter Try.func22, Try.ntmps22
  go_wp2
  go_ret
  exact ⟨rfl, rfl⟩
set_option maxRecDepth 100000 in
theorem sVar_c (r : Nat) (s : RS) (w : World) (h : Rdr w r s) (he : s.err ≠ 0) : Calls Try.prog 10 #[.pointer (some ⟨r, 0, none⟩)] w fun e w' => e = .returned (.int .u64 0) ∧ w = w' := by
  obtain ⟨A, c, ⟨c0, c1, c2⟩, _, _⟩ := h.open_
  have hb : (((s.err : Nat) : Int) != 0) = true := by rw [bne_iff_ne]; omega
  clear he
  go_enter Try.func10, Try.ntmps10
  go_wp2
  go_ret
  exact ⟨rfl, rfl⟩
set_option maxRecDepth 100000 in
theorem sTake_c (r : Nat) (s : RS) (n : Int) (w : World) (h : Rdr w r s) (he : s.err ≠ 0) : Calls Try.prog 27 #[.pointer (some ⟨r, 0, none⟩), .int .i64 n] w fun e w' => e = .returned (.slice none 0 0) ∧ w = w' := by
  obtain ⟨A, c, ⟨c0, c1, c2⟩, _, _⟩ := h.open_
  have hb : (((s.err : Nat) : Int) != 0) = true := by rw [bne_iff_ne]; omega
  clear he
  go_enter Try.func27, Try.ntmps27
  go_wp2
  go_ret
  exact ⟨rfl, rfl⟩
theorem sText_c (r : Nat) (s : RS) (n : Int) (w : World) (h : Rdr w r s) (he : s.err ≠ 0) : Calls Try.prog 25 #[.pointer (some ⟨r, 0, none⟩), .int .i64 n] w fun e w' => e = .returned (.slice none 0 0) ∧ Rdr w' r s ∧ w.grownBy w' (some r) :=
  Rtext_bad r s s 0 n w h (if_pos he) he

/-- One read, whatever it is: the reader stays a reader. -/
theorem only_below {w w' : World} {r B : Nat} (h : w.grownBy w' (some r)) (hB : B ≤ w.heap.size) (hr : B ≤ r) : Below B w w' := (Below.refl B w).grown h hB (fun k hk => by injection hk with hk; omega)

theorem stays_step {w wr w' : World} {r : Nat} {u v : Value} (hr : w.heap.size + 1 ≤ r) (h : wr.grownBy w' (some r)) (c0 : wr.cell? ⟨w.heap.size, 0, none⟩ = some u) (c1 : wr.cell? ⟨w.heap.size, 1, none⟩ = some v) (hb : Below w.heap.size w wr) :
    w'.cell? ⟨w.heap.size, 0, none⟩ = some u ∧ w'.cell? ⟨w.heap.size, 1, none⟩ = some v ∧ Below w.heap.size w w' :=
  ⟨h.cell c0 (by intro e; injection e with e; simp at e; omega), h.cell c1 (by intro e; injection e with e; simp at e; omega), hb.grown h hb.size (fun k hk => by injection hk with hk; omega)⟩

set_option maxRecDepth 100000 in
set_option maxHeartbeats 2000000 in
theorem WireStays_walk (w : World) (A : Option Addr) (n c : Nat) (bs : List UInt8) (hn : bs.length = n) (hr : Rd w A (bs.map bv)) (_hc : n ≤ c) (_hm : c ≤ maxLen) (hl : n ≤ 140737488351232)
    (bk bn : Int) (hb : (Lit.int .i64 bk).wf = true ∧ (Lit.int .i64 bn).wf = true)
    (A2 : Option Addr) (n2 c2 : Nat) (zs : List (Int × Int)) (hz : zs.length = n2 ∧ RdP w A2 zs ∧ n2 ≤ c2 ∧ c2 ≤ maxLen ∧ n2 * 16 ≤ 140737488351232 ∧ ∀ z ∈ zs, (Lit.int .i64 z.1).wf = true ∧ (Lit.int .i64 z.2).wf = true) :
    Calls Try.prog 6 #[.slice A n c, .agg #[.int .i64 bk, .int .i64 bn], .slice A2 n2 c2] w fun e w' => e = .returned (.bool true) ∧ Below w.heap.size w w' := by
  obtain ⟨hz1, hz2, _, _, hz3, hz4⟩ := hz
  have hblk : ∀ b off, zs ≠ [] → A2 = some ⟨b, off, none⟩ → b < w.heap.size := by
    intro b off h0 hA
    rcases hz2 with h | ⟨b', off', hA', hlt, _⟩
    · exact absurd h h0
    · rw [hA] at hA'; injection hA' with hA'; injection hA' with hA1; omega
  have HBLK := Lib.hid hblk; clear hblk
  have HZ4 := Lib.hid hz4; clear hz4
  have HZ1 := Lib.hid hz1; clear hz1
  subst hn
  go_enter Try.func6, Try.ntmps6
  go_wp2_with (fail)
  have hb0 : Below w.heap.size w (w.alloc (.cells #[Value.int .i64 bk, Value.int .i64 bn] 45)) := (Below.refl _ _).alloc (Nat.le_refl _) _
  refine (Rnew_c A _ c bs _ rfl (hr.alloc _) (by omega)).mono ?_
  rintro e w1 ⟨r, rfl, hr1, hR1, hb1⟩
  simp only [World.size_alloc] at hr1 hb1
  have q0 : w1.cell? ⟨w.heap.size, 0, none⟩ = some (.int .i64 bk) := (hb1.cell (p := ⟨w.heap.size, 0, none⟩) (by simp)).trans (by rw [cell_of_row _ _ 0 _ _ (0, 0) (heap_alloc_new w _)]; rfl)
  have q1 : w1.cell? ⟨w.heap.size, 1, none⟩ = some (.int .i64 bn) := (hb1.cell (p := ⟨w.heap.size, 1, none⟩) (by simp)).trans (by rw [cell_of_row _ _ 1 _ _ (0, 0) (heap_alloc_new w _)]; rfl)
  have hbw : Below w.heap.size w w1 := hb0.trans (hb1.mono (by omega))
  go_wp2_with (fail)
  refine (fixed_c w1).mono ?_
  rintro e w2 ⟨rfl, hb2⟩
  have g0 := (hb2.cell (p := ⟨w.heap.size, 0, none⟩) (by have := hR1.lt; show w.heap.size < _; omega)).trans q0
  have g1 := (hb2.cell (p := ⟨w.heap.size, 1, none⟩) (by have := hR1.lt; show w.heap.size < _; omega)).trans q1
  have hR2 := hR1.below hb2
  have hbw2 : Below w.heap.size w w2 := hbw.trans (hb2.mono hbw.size)
  clear q0 q1 hR1 hb1 hb2 hbw hb0
  go_wp2_with (fail)
  go_loopw [20] (fun i wr => ∃ (k : Nat) (s : RS), k ≤ 3 ∧ i = .int .i64 k ∧ Rdr wr r s ∧ wr.cell? ⟨w.heap.size, 0, none⟩ = some (.int .i64 bk) ∧ wr.cell? ⟨w.heap.size, 1, none⟩ = some (.int .i64 bn) ∧ Below w.heap.size w wr) (fun i _ => 3 - (intOf i).toNat)
  case atStart => exact ⟨0, _, by omega, rfl, hR2, g0, g1, hbw2⟩
  case round =>
    obtain ⟨k, s, hk, rfl, hR, c0, c1, hbr⟩ := hrel
    clear g0 g1 hbw2 hR2
    by_cases hlt : k < 3
    · by_cases b0 : bk = 0
      · have e0 : (bk == 0) = true := by rw [beq_iff_eq]; exact b0
        have B0 := Lib.hid b0; clear b0
        go_wp2_with (fail)
        refine (Rnum_c r s bn wr hR hb.2).mono ?_
        rintro e w3 ⟨rfl, hR3, hg3⟩
        obtain ⟨d0, d1, hb3⟩ := stays_step hr1 hg3 c0 c1 hbr
        clear c0 c1
        go_wp2_with (fail)
        go_roundw
        case rel => exact ⟨k + 1, _, by omega, by go_num, hR3, d0, d1, hb3⟩
        case measure => simp [intOf]; omega
      · have e0 : (bk == 0) = false := by rw [beq_eq_false_iff_ne]; exact b0
        clear b0
        by_cases b1 : bk = 1
        · have e1 : (bk == 1) = true := by rw [beq_iff_eq]; exact b1
          have B1 := Lib.hid b1; clear b1
          go_wp2_with (fail)
          refine (Rvar_c r s wr hR).mono ?_
          rintro e w3 ⟨rfl, hR3, hg3⟩
          obtain ⟨d0, d1, hb3⟩ := stays_step hr1 hg3 c0 c1 hbr
          clear c0 c1
          go_wp2_with (fail)
          go_roundw
          case rel => exact ⟨k + 1, _, by omega, by go_num, hR3, d0, d1, hb3⟩
          case measure => simp [intOf]; omega
        · have e1 : (bk == 1) = false := by rw [beq_eq_false_iff_ne]; exact b1
          clear b1
          by_cases b2 : bk = 2
          · have e2 : (bk == 2) = true := by rw [beq_iff_eq]; exact b2
            have B2 := Lib.hid b2; clear b2
            go_wp2_with (fail)
            refine (Rtext_c r s bn wr hR hb.2).mono ?_
            rintro e w3 ⟨v, rfl, _, hR3, hg3⟩
            obtain ⟨d0, d1, hb3⟩ := stays_step hr1 hg3 c0 c1 hbr
            clear c0 c1
            go_wp2_with (fail)
            go_roundw
            case rel => exact ⟨k + 1, _, by omega, by go_num, hR3, d0, d1, hb3⟩
            case measure => simp [intOf]; omega
          · have e2 : (bk == 2) = false := by rw [beq_eq_false_iff_ne]; exact b2
            clear b2
            go_wp2_with (fail)
            refine (Rtake_c r s bn wr hR hb.2).mono ?_
            rintro e w3 ⟨v, rfl, _, hR3, hg3⟩
            obtain ⟨d0, d1, hb3⟩ := stays_step hr1 hg3 c0 c1 hbr
            clear c0 c1
            go_wp2_with (fail)
            go_roundw
            case rel => exact ⟨k + 1, _, by omega, by go_num, hR3, d0, d1, hb3⟩
            case measure => simp [intOf]; omega
    · go_wp2_with (fail)
      refine (Rerr_c r s wr hR).mono ?_
      rintro e w3 ⟨rfl, rfl⟩
      go_wp2_with (fail)
      refine (Rleft_c r s wr hR).mono ?_
      rintro e w4 ⟨rfl, q, rfl⟩
      by_cases he : s.err = 0
      · have e0 : (((s.err : Nat) : Int) == 0) = true := by rw [beq_iff_eq]; omega
        have HE := Lib.hid he; clear he
        go_wp2_with (fail)
        go_ret
        exact ⟨rfl, below_drewN hbr q⟩
      · have e0 : (((s.err : Nat) : Int) == 0) = false := by rw [beq_eq_false_iff_ne]; omega
        have HE : Hid (s.err ≠ 0) := he
        clear he
        have hz2' : RdP (wr.drewN q) A2 zs := by
          have h := hz2.below hbr
          exact h
        have hRq := hR.drewN q
        have hbq := below_drewN hbr q
        clear hz2 hR hbr c0 c1
        generalize hwq : wr.drewN q = wq at hRq hz2' hbq ⊢
        clear hwq
        go_wp2_with (fail)
        obtain ⟨ld, hld⟩ : ∃ ld : Nat, ld = s.b.length - s.at_ := ⟨_, rfl⟩
        rw [← hld]
        have HLD := Lib.hid hld; clear hld
        go_loopw [53] (fun i wr => ∃ (k : Nat), k ≤ n2 ∧ i = .int .i64 k ∧ Rdr wr r s ∧ RdP wr A2 zs ∧ Below w.heap.size w wr) (fun i _ => n2 - (intOf i).toNat)
        case atStart => exact ⟨0, by omega, rfl, hRq, hz2', hbq⟩
        case round =>
          obtain ⟨j, hj, rfl, hR, hz, hb2⟩ := hrel
          clear hRq hz2' hbq
          by_cases hlt2 : j < n2
          · have hj2 : j < zs.length := by rw [HZ1.out]; exact hlt2
            rcases hz with rfl | ⟨b, off, rfl, hbl, hcell⟩
            · simp at hj2
            obtain ⟨k0, k1⟩ := hcell j hj2
            have hwf := (HZ4.out _ (List.getElem_mem hj2)).2
            obtain ⟨x0, hx0⟩ : ∃ x0, x0 = (zs[j]).1 := ⟨_, rfl⟩
            obtain ⟨x1, hx1⟩ : ∃ x1, x1 = (zs[j]).2 := ⟨_, rfl⟩
            rw [← hx0] at k0
            rw [← hx1] at k1 hwf
            have hz' : RdP wr (some ⟨b, off, none⟩) zs := .inr ⟨b, off, rfl, hbl, hcell⟩
            have HBR : Hid (b ≠ r) := by
              have h1 := HBLK.out b off (by intro h; rw [h] at hj2; simp at hj2) rfl
              show b ≠ r
              omega
            have HC := Lib.hid hcell; clear hcell hx0 hx1 hj2
            have HZ := Lib.hid hz'; clear hz'
            by_cases h3 : 300 < j
            · go_wp2_with (fail)
              go_ret
              exact ⟨rfl, hb2.alloc hb2.size _⟩
            · go_wp2_with (fail)
              have hRa : Rdr (wr.alloc (.cells #[Value.int .i64 x0, Value.int .i64 x1] 45)) r s := hR.below ((Below.refl _ _).alloc (Nat.le_refl _) _)
              have hza : RdP (wr.alloc (.cells #[Value.int .i64 x0, Value.int .i64 x1] 45)) (some ⟨b, off, none⟩) zs := HZ.out.below ((Below.refl _ _).alloc (Nat.le_refl _) _)
              have hba : Below w.heap.size w (wr.alloc (.cells #[Value.int .i64 x0, Value.int .i64 x1] 45)) := hb2.alloc hb2.size _
              have hca : (wr.alloc (.cells #[Value.int .i64 x0, Value.int .i64 x1] 45)).cell? ⟨wr.heap.size, 1, none⟩ = some (.int .i64 x1) := by rw [cell_of_row _ _ 1 _ _ (0, 0) (heap_alloc_new wr _)]; rfl
              have hrl := hR.lt
              have HZA := Lib.hid hza; clear hza HZ
              refine (sNum_c r s x1 _ hRa HE.out).mono ?_
              rintro e w5 ⟨rfl, rfl⟩
              go_wp2_with (fail)
              refine (sVar_c r s _ hRa HE.out).mono ?_
              rintro e w5 ⟨rfl, rfl⟩
              go_wp2_with (fail)
              refine (sText_c r s x1 _ hRa HE.out).mono ?_
              rintro e w5 ⟨rfl, hR5, hg5⟩
              have hc5 : w5.cell? ⟨wr.heap.size, 1, none⟩ = some (.int .i64 x1) := hg5.cell hca (by intro e; injection e with e; simp at e; omega)
              have hz5 : RdP w5 (some ⟨b, off, none⟩) zs ∨ b = r := by
                by_cases hbr : b = r
                · exact .inr hbr
                · refine .inl ?_
                  rcases HZA.out with h | ⟨b', off', hA, hlt, hc⟩
                  · exact .inl h
                  · injection hA with hA
                    injection hA with hA1 hA2
                    subst hA1; subst hA2
                    exact .inr ⟨b, off, rfl, Nat.lt_of_lt_of_le hlt hg5.size, fun k hk => ⟨hg5.cell (hc k hk).1 (by intro e; injection e with e; exact hbr e), hg5.cell (hc k hk).2 (by intro e; injection e with e; exact hbr e)⟩⟩
              have hb5 := hba.grown hg5 hba.size (fun k hk => by injection hk with hk; omega)
              have HZ5 := Lib.hid hz5; clear hz5 HZA
              clear hca hRa hba hg5 k0 k1
              go_wp2_with (fail)
              refine (sTake_c r s x1 _ hR5 HE.out).mono ?_
              rintro e w6 ⟨rfl, rfl⟩
              go_wp2_with (fail)
              refine (Rerr_c r s _ hR5).mono ?_
              rintro e w6 ⟨rfl, rfl⟩
              have hEnd : endR s = s.err := if_neg (fun h => HE.out h.1)
              have HEnd := Lib.hid hEnd; clear hEnd
              go_wp2_with (fail)
              refine (Rend_c r s _ hR5).mono ?_
              rintro e w6 ⟨rfl, q6, rfl⟩
              rw [HEnd.out]
              go_wp2_with (fail)
              refine (Rleft_c r s _ (hR5.drewN q6)).mono ?_
              rintro e w6 ⟨rfl, q7, rfl⟩
              rw [← HLD.out]
              go_wp2_with (fail)
              go_roundw
              case rel =>
                refine ⟨j + 1, by omega, by go_num, hR5, ?_, below_drewN hb5 _⟩
                rcases HZ5.out with h | h
                · exact h
                · exact absurd h HBR.out
              case measure => simp [intOf]; omega
          · go_wp2_with (fail)
            go_ret
            exact ⟨rfl, hb2⟩
end Go.Proofs.Ytacindehajholaa
