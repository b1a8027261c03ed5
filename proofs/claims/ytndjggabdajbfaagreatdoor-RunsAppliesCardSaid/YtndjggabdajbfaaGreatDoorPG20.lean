/- Parts one behind the other: What the reader of the layer wire does: Var. Conditions: as told at each. -/
import Derived.Test.YtndjggabdajbfaaGreatDoorPG19

set_option linter.unusedVariables false
set_option linter.unusedSimpArgs false
/- What the reader of the layer wire does: Var. Conditions: a reader that lies in a block of its own. -/
namespace Go.Proofs.YtndjggabdajbfaaGreatDoor
open Go Go.RowKit

def varR (s : RS) : Nat × RS :=
  if s.err ≠ 0 then (0, s) else match varGo (s.b.drop s.at_) 0 with
    | .bad e => (0, { s with err := e })
    | .ok n k => (n, { s with at_ := s.at_ + k })

set_option maxRecDepth 100000 in
set_option maxHeartbeats 400000 in
theorem Rvar_c (r : Nat) (s : RS) (w : World) (h : Rdr w r s) :
    Calls Tryz.prog 35 #[.pointer (some ⟨r, 0, none⟩)] w fun e w' => e = .returned (.int .u64 ((varR s).1 : Int)) ∧ Rdr w' r (varR s).2 ∧ w.grownBy w' (some r) := by
  obtain ⟨A, c, ⟨c0, c1, c2⟩, ⟨f0, f1, f2⟩, hrd, hlc, hcm, hk, hl⟩ := h.open_
  by_cases h0 : s.err = 0
  · have hb : (((s.err : Nat) : Int) != 0) = false := by rw [bne_eq_false_iff_eq]; omega
    obtain ⟨l, el⟩ : ∃ l, l = s.b.drop s.at_ := ⟨_, rfl⟩
    have e1 : varR s = match varGo l 0 with
      | .bad e => (0, { s with err := e })
      | .ok n k => (n, { s with at_ := s.at_ + k }) := by rw [varR, if_neg (by omega), el]
    have hll : l.length + s.at_ = s.b.length := by rw [el, List.length_drop]; omega
    have hcell : ∀ i (hi : i < l.length), ∃ b off, A = some ⟨b, off, none⟩ ∧ w.cell? ⟨b, off + (s.at_ + i), none⟩ = some (.int .u8 ((l[i]).toNat : Int)) := by
      intro i hi
      obtain ⟨b, off, hA, _, hc⟩ := hrd.addrB (by omega)
      refine ⟨b, off, hA, ?_⟩
      rw [hc (s.at_ + i) (by omega)]
      subst el
      simp [bv]
    have HC := Lib.hid hcell; clear hcell
    have H1 := Lib.hid e1; clear e1
    have H0 := Lib.hid h0; clear h0
    clear el
    go_enter Tryz.func35, Tryz.ntmps35
    go_wp2
    go_loopw [3, 4] (fun n i wr => ∃ (x k : Nat), k ≤ 9 ∧ k ≤ l.length ∧ n = .int .u64 x ∧ i = .int .i64 k ∧ x < 128 ^ k ∧ varGo l 0 = (varGo (l.drop k) k).after x k ∧ ∃ q, wr = w.drewN q) (fun n i _ => 10 - (intOf i).toNat)
    case atStart => exact ⟨0, 0, by omega, by omega, rfl, rfl, by decide, by rw [VR.after_zero]; rfl, 0, rfl⟩
    case round =>
      obtain ⟨x, k, hk9, hkl, rfl, rfl, hx, hv, q, rfl⟩ := hrel
      have HV := Lib.hid hv; clear hv
      have HX := Lib.hid hx; clear hx
      rcases Nat.lt_or_ge k l.length with hlt | hge
      · have hu : (s.at_ : Int) + (k : Int) < (s.b.length : Int) := by omega
        obtain ⟨b, off, rfl, hc⟩ := HC.out k hlt
        obtain ⟨d, ed⟩ : ∃ d, d = (l[k]).toNat := ⟨_, rfl⟩
        have hd : d < 256 := by rw [ed]; exact UInt8.toNat_lt _
        rw [← ed] at hc
        have ED := Lib.hid ed; clear ed
        have hu2 : U64 x := by
          rcases Nat.eq_zero_or_pos k with h | h
          · have := HX.out; rw [h] at this; exact Nat.lt_of_lt_of_le this (by decide)
          · exact Nat.lt_of_lt_of_le HX.out (Nat.le_trans (Nat.pow_le_pow_right (by decide) hk9) (by decide))
        have ha := and127 d hd
        by_cases hbad : badDg k d
        · have hv3 : varR s = (0, { s with err := 3 }) := by rw [H1.out, HV.out, varGo_form' hlt ED.out x hbad]
          have HV3 := Lib.hid hv3; clear hv3
          have fin : ∀ q', Rdr ((w.drewN q').setCell ⟨r, 2, none⟩ (.int .i64 3)) r (varR s).2 ∧ w.grownBy ((w.drewN q').setCell ⟨r, 2, none⟩ (.int .i64 3)) (some r) := fun q' => by
            rw [HV3.out]
            exact ⟨(h.drewN q').setErr 3, only_setD q' r 2 _⟩
          have FIN := Lib.hid fin; clear fin
          have go : ∀ (P : Prop), (P → True) := fun _ _ => trivial
          clear go
          rcases hbad with ⟨h9, h1⟩ | ⟨h9, h1⟩
          · have hb9 : (((k : Nat) : Int) == 9) = true := by rw [beq_iff_eq]; omega
            have H9 := Lib.hid h9; clear h9
            go_wp2
            go_quiet (fail)
            go_wp2
            go_quiet (fail)
            go_wp2
            go_ret
            exact ⟨by rw [HV3.out]; rfl, FIN.out _⟩
          · have hb9 : (((d : Nat) : Int) == 0) = true := by rw [beq_iff_eq]; omega
            have hb8 : decide ((1 : Int) < (d : Int)) = false := decide_eq_false (by omega)
            have HD1 := Lib.hid h1; clear h1
            go_wp2
            go_quiet (fail)
            go_wp2
            go_quiet (fail)
            go_wp2
            all_goals
              go_ret
              exact ⟨by rw [HV3.out]; rfl, FIN.out _⟩
        · have h9d : k = 9 → d % 128 ≤ 1 := by
            intro h; have : ¬ 1 < d := fun h1 => hbad (.inl ⟨h, h1⟩); omega
          obtain ⟨y, hy⟩ : ∃ y, y = x + 128 ^ k * (d % 128) := ⟨_, rfl⟩
          have hor := or_walk HX.out hk9 h9d hu2
          rw [← hy] at hor
          have hb1 : ¬ (k = 9 ∧ 1 < d) := fun h => hbad (.inl h)
          have hb2 : ¬ (0 < k ∧ d = 0) := fun h => hbad (.inr h)
          have HB := Lib.hid hbad; clear hbad
          have HY := Lib.hid hy; clear hy
          clear h9d
          rcases Nat.lt_or_ge d 128 with h8 | h8
          · have hv3 : varR s = (y, { s with at_ := s.at_ + (k + 1) }) := by rw [H1.out, HV.out, varGo_last' hlt ED.out x HB.out h8, HY.out]
            have HV3 := Lib.hid hv3; clear hv3
            have fin : ∀ q', Rdr ((w.drewN q').setCell ⟨r, 1, none⟩ (.int .i64 ((s.at_ : Int) + ((k : Int) + 1)))) r (varR s).2 ∧ w.grownBy ((w.drewN q').setCell ⟨r, 1, none⟩ (.int .i64 ((s.at_ : Int) + ((k : Int) + 1)))) (some r) := fun q' => by
              rw [HV3.out, show (s.at_ : Int) + ((k : Int) + 1) = ((s.at_ + (k + 1) : Nat) : Int) by omega]
              exact ⟨(h.drewN q').setAt _ (by omega), only_setD q' r 1 _⟩
            have FIN := Lib.hid fin; clear fin
            by_cases h9 : k = 9
            · have hb9 : (((k : Nat) : Int) == 9) = true := by rw [beq_iff_eq]; omega
              have hb0 : (((d : Nat) : Int) == 0) = false := by rw [beq_eq_false_iff_ne]; omega
              have hb8 : decide ((1 : Int) < (d : Int)) = false := decide_eq_false (by omega)
              clear hb1 hb2 h9
              go_wp2
              go_quiet (fail)
              go_wp2
              go_quiet (fail)
              go_wp2
              all_goals
                go_ret
                exact ⟨by rw [HV3.out]; rfl, FIN.out _⟩
            · have hb9 : (((k : Nat) : Int) == 9) = false := by rw [beq_eq_false_iff_ne]; omega
              rcases Nat.eq_zero_or_pos k with h0k | h0k
              · have hbk : decide ((0 : Int) < (k : Int)) = false := decide_eq_false (by omega)
                have hbn : ¬ 0 < k := by omega
                have H0K := Lib.hid h0k
                clear hb1 hb2 h9 h0k
                go_wp2
                go_quiet (fail)
                go_wp2
                go_quiet (fail)
                go_wp2
                all_goals
                  go_ret
                  exact ⟨by rw [HV3.out]; rfl, FIN.out _⟩
              · have hb0 : (((d : Nat) : Int) == 0) = false := by rw [beq_eq_false_iff_ne]; omega
                clear hb1 hb2 h9
                go_wp2
                go_quiet (fail)
                go_wp2
                go_quiet (fail)
                go_wp2
                all_goals
                  go_ret
                  exact ⟨by rw [HV3.out]; rfl, FIN.out _⟩
          · have hk9' : k < 9 := by
              rcases Nat.lt_or_ge k 9 with h | h
              · exact h
              · exact absurd ⟨by omega, by omega⟩ hb1
            have hrel : y < 128 ^ (k + 1) ∧ varGo l 0 = (varGo (l.drop (k + 1)) (k + 1)).after y (k + 1) := by
              refine ⟨by rw [HY.out]; exact digit_lt HX.out (by omega), ?_⟩
              rw [HV.out, varGo_more' hlt ED.out x HB.out h8, HY.out]
            have HR := Lib.hid hrel; clear hrel
            have hb9 : (((k : Nat) : Int) == 9) = false := by rw [beq_eq_false_iff_ne]; omega
            have hb0 : (((d : Nat) : Int) == 0) = false := by rw [beq_eq_false_iff_ne]; omega
            clear hb1 hb2
            go_wp2
            go_quiet (fail)
            go_wp2
            go_quiet (fail)
            go_wp2
            all_goals
              go_roundw
              case rel => exact ⟨y, k + 1, by omega, by omega, rfl, by go_num, HR.out.1, HR.out.2, _, rfl⟩
              case measure => simp [intOf]; omega
      · have hv3 : varR s = (0, { s with err := 2 }) := by rw [H1.out, HV.out, varGo_end hge]
        have HV3 := Lib.hid hv3; clear hv3
        have fin : ∀ q', Rdr ((w.drewN q').setCell ⟨r, 2, none⟩ (.int .i64 2)) r (varR s).2 ∧ w.grownBy ((w.drewN q').setCell ⟨r, 2, none⟩ (.int .i64 2)) (some r) := fun q' => by
          rw [HV3.out]
          exact ⟨(h.drewN q').setErr 2, only_setD q' r 2 _⟩
        have FIN := Lib.hid fin; clear fin
        have hu : (s.b.length : Int) ≤ (s.at_ : Int) + (k : Int) := by omega
        go_wp2
        go_quiet (fail)
        go_wp2
        go_ret
        exact ⟨by rw [HV3.out]; rfl, FIN.out _⟩
  · have hb : (((s.err : Nat) : Int) != 0) = true := by rw [bne_iff_ne]; omega
    have e1 : varR s = (0, s) := if_pos h0
    rw [e1]
    clear e1
    have H0 := Lib.hid h0; clear h0
    go_enter Tryz.func35, Tryz.ntmps35
    go_wp2
    go_ret
    exact ⟨rfl, h, World.grownBy.refl _ _⟩
end Go.Proofs.YtndjggabdajbfaaGreatDoor


