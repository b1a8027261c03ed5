/- What the reference's reader does: Var. Conditions: lengths that fit. -/
import Derived.Test.YtacindehajholaaRr2
namespace Go.Proofs.Ytacindehajholaa
open Go Go.RowKit

theorem valL_step {l : List UInt8} {j k : Nat} (hj : j < k) (hk : k ≤ l.length) : valL ((l.take k).drop j) = (l[j]'(by omega)).toNat % 128 + 128 * valL ((l.take k).drop (j + 1)) := by
  rw [List.drop_eq_getElem_cons (by rw [List.length_take]; omega), valL]
  simp

set_option maxRecDepth 100000 in
set_option maxHeartbeats 1000000 in
theorem refVarR_c (A : Option Addr) (c : Nat) (s : RS) (w : World) (h : RsOk w A c s) :
    Calls Try.prog 24 #[rsV A c s] w fun e w' => e = .returned (.tuple #[.int .u64 ((varR s).1 : Int), rsV A c (varR s).2]) ∧ Below w.heap.size w w' := by
  obtain ⟨h1, h2, h3, h4, h5⟩ := h
  by_cases h0 : s.err = 0
  · have hb : (((s.err : Nat) : Int) != 0) = false := by rw [bne_eq_false_iff_eq]; omega
    obtain ⟨l, el⟩ : ∃ l, l = s.b.drop s.at_ := ⟨_, rfl⟩
    have e1 : varR s = match varGo l 0 with
      | .bad e => (0, { s with err := e })
      | .ok n k => (n, { s with at_ := s.at_ + k }) := by rw [varR, if_neg (by omega), el]; rfl
    have hll : l.length + s.at_ = s.b.length := by rw [el, List.length_drop]; omega
    have hcell : ∀ i (hi : i < l.length), ∃ b off, A = some ⟨b, off, none⟩ ∧ b < w.heap.size ∧ w.cell? ⟨b, off + (s.at_ + i), none⟩ = some (.int .u8 ((l[i]).toNat : Int)) := by
      intro i hi
      obtain ⟨b, off, hA, hlt, hc⟩ := h1.addrB (by omega)
      refine ⟨b, off, hA, hlt, ?_⟩
      rw [hc (s.at_ + i) (by omega)]
      subst el
      simp [bv]
    have HC := Lib.hid hcell; clear hcell
    have H0 := Lib.hid h0; clear h0
    clear el h1
    obtain ⟨R, hR⟩ : ∃ R, R = varR s := ⟨_, rfl⟩
    rw [← hR]
    rw [← hR] at e1
    have H1 := Lib.hid e1; clear e1 hR
    unfold rsV
    go_enter Try.func24, Try.ntmps24
    go_wp2
    go_loop [4] (fun i => ∃ (k : Nat), k ≤ 9 ∧ k ≤ l.length ∧ i = .int .i64 k ∧ varGo l 0 = (varGo (l.drop k) k).after (valL (l.take k)) k) (fun i => 10 - (intOf i).toNat)
    case atStart => exact ⟨0, by omega, by omega, rfl, by rw [List.take_zero, show valL [] = 0 from rfl, VR.after_zero]; rfl⟩
    case round =>
      obtain ⟨k, hk9, hkl, rfl, hv⟩ := hrel
      have HV := Lib.hid hv; clear hv
      rcases Nat.lt_or_ge k l.length with hlt | hge
      · have hu : (s.at_ : Int) + (k : Int) < (s.b.length : Int) := by omega
        obtain ⟨b, off, rfl, hbl, hc⟩ := HC.out k hlt
        obtain ⟨d, ed⟩ : ∃ d, d = (l[k]).toNat := ⟨_, rfl⟩
        have hd : d < 256 := by rw [ed]; exact UInt8.toNat_lt _
        rw [← ed] at hc
        have ED := Lib.hid ed; clear ed
        by_cases hbad : badD k d
        · have hv3 : R = (0, { s with err := 3 }) := by rw [H1.out, HV.out, varGo_form' hlt ED.out _ hbad]
          have HV3 := Lib.hid hv3; clear hv3
          rcases hbad with ⟨h9, k1⟩ | ⟨h9, k1⟩
          · have hb9 : (((k : Nat) : Int) == 9) = true := by rw [beq_iff_eq]; omega
            have H9 := Lib.hid h9; clear h9
            go_wp2
            go_region
            all_goals
              go_wp2
              go_returns
              rw [HV3.out]
              exact ⟨rfl, by go_grown⟩
          · have hb9 : (((d : Nat) : Int) == 0) = true := by rw [beq_iff_eq]; omega
            have hb8 : decide ((1 : Int) < (d : Int)) = false := decide_eq_false (by omega)
            have HD1 := Lib.hid k1; clear k1
            go_wp2
            all_goals
              go_region
              all_goals
                go_wp2
                go_returns
                rw [HV3.out]
                exact ⟨rfl, by go_grown⟩
        · have hb1 : ¬ (k = 9 ∧ 1 < d) := fun h => hbad (.inl h)
          have hb2 : ¬ (0 < k ∧ d = 0) := fun h => hbad (.inr h)
          have HB := Lib.hid hbad; clear hbad
          have htk : valL (l.take (k + 1)) = valL (l.take k) + 128 ^ k * (d % 128) := by
            rw [List.take_succ_eq_append_getElem hlt, valL_snoc, List.length_take, Nat.min_eq_left hkl, ← ED.out]
          have HTK := Lib.hid htk; clear htk
          rcases Nat.lt_or_ge d 128 with h8 | h8
          · have hv3 : varGo l 0 = .ok (valL (l.take (k + 1))) (k + 1) := by rw [HV.out, varGo_last' hlt ED.out _ HB.out h8, HTK.out]
            obtain ⟨hu64, hk1, _⟩ := varGo_u64 hv3
            have hv4 : R = (valL (l.take (k + 1)), { s with at_ := s.at_ + (k + 1) }) := by rw [H1.out, hv3]
            have HV4 := Lib.hid hv4; clear hv4 hv3
            have hcase : (k = 9 ∧ (((k : Nat) : Int) == 9) = true ∧ decide ((1 : Int) < (d : Int)) = false ∧ (((d : Nat) : Int) == 0) = false) ∨ ((((k : Nat) : Int) == 9) = false ∧ ¬ 0 < k) ∨ ((((k : Nat) : Int) == 9) = false ∧ (((d : Nat) : Int) == 0) = false) := by
              by_cases h9 : k = 9
              · exact .inl ⟨h9, by rw [beq_iff_eq]; omega, decide_eq_false (by omega), by rw [beq_eq_false_iff_ne]; omega⟩
              · refine .inr ?_
                by_cases h0k : 0 < k
                · exact .inr ⟨by rw [beq_eq_false_iff_ne]; omega, by rw [beq_eq_false_iff_ne]; omega⟩
                · exact .inl ⟨by rw [beq_eq_false_iff_ne]; omega, h0k⟩
            clear hb1 hb2
            have hstep : ∀ j, j < k + 1 → ∃ e : Nat, e < 256 ∧ w.cell? ⟨b, off + (s.at_ + j), none⟩ = some (.int .u8 (e : Int)) ∧ valL ((l.take (k + 1)).drop j) = e % 128 + 128 * valL ((l.take (k + 1)).drop (j + 1)) ∧ U64 (valL ((l.take (k + 1)).drop j)) := by
              intro j hj
              obtain ⟨b', off', hA, _, hc'⟩ := HC.out j (by omega)
              injection hA with hA
              injection hA with hA1 hA2
              subst hA1; subst hA2
              exact ⟨(l[j]).toNat, UInt8.toNat_lt _, hc', valL_step hj hk1, hu64.le (valL_drop_le _ _)⟩
            have HSTEP := Lib.hid hstep; clear hstep
            have hend : valL ((l.take (k + 1)).drop (k + 1)) = 0 := by rw [List.drop_of_length_le (by rw [List.length_take]; omega)]; rfl
            have HEND := Lib.hid hend; clear hend
            rcases hcase with ⟨h9, c1, c2, c3⟩ | ⟨c1, c2⟩ | ⟨c1, c2⟩
            · have hk0 : 0 < k := by omega
              have H9 := Lib.hid h9; clear h9
              go_wp2
              all_goals
                go_loop [6, 7] (fun x i => ∃ j : Nat, j ≤ k + 1 ∧ i = .int .i64 ((j : Int) - 1) ∧ x = .int .u64 ((valL ((l.take (k + 1)).drop j) : Nat) : Int)) (fun x i => (intOf i + 1).toNat)
                case atStart => exact ⟨k + 1, Nat.le_refl _, by go_num, by rw [HEND.out]; rfl⟩
                case round =>
                  obtain ⟨j, hj, rfl, rfl⟩ := hrel
                  rcases Nat.eq_zero_or_pos j with hj0 | hj0
                  · subst hj0
                    go_wp2
                    go_region
                    all_goals
                      go_wp2
                      go_returns
                      rw [HV4.out]
                      refine ⟨?_, by go_grown⟩
                      simp only [rsV, List.drop_zero, Int.natCast_add]
                      rfl
                  · obtain ⟨i, rfl⟩ : ∃ i, j = i + 1 := ⟨j - 1, by omega⟩
                    obtain ⟨e, he, hce, hve, hue⟩ := HSTEP.out i (by omega)
                    obtain ⟨v, hv⟩ : ∃ v, v = valL ((l.take (k + 1)).drop (i + 1)) := ⟨_, rfl⟩
                    rw [← hv] at hve ⊢
                    have hvu := hue.out
                    have hw1 : IntKind.u64.wrap ((v : Int) * 128) = (v : Int) * 128 := IntWalk.u64_in _ ⟨by omega, by omega⟩
                    have hw2 : IntKind.u64.wrap ((v : Int) * 128 + (e : Int) % 128) = (v : Int) * 128 + (e : Int) % 128 := IntWalk.u64_in _ ⟨by omega, by omega⟩
                    have hsi : (s.at_ : Int) + (i : Int) < (s.b.length : Int) := by omega
                    have HVE := Lib.hid hve; clear hve hvu hue
                    have HV2 := Lib.hid hv; clear hv
                    go_wp2
                    go_round
                    case rel => exact ⟨i, by omega, by go_num, by rw [HVE.out]; go_num⟩
                    case measure => simp [intOf]
            · go_wp2
              all_goals
                go_loop [6, 7] (fun x i => ∃ j : Nat, j ≤ k + 1 ∧ i = .int .i64 ((j : Int) - 1) ∧ x = .int .u64 ((valL ((l.take (k + 1)).drop j) : Nat) : Int)) (fun x i => (intOf i + 1).toNat)
                case atStart => exact ⟨k + 1, Nat.le_refl _, by go_num, by rw [HEND.out]; rfl⟩
                case round =>
                  obtain ⟨j, hj, rfl, rfl⟩ := hrel
                  rcases Nat.eq_zero_or_pos j with hj0 | hj0
                  · subst hj0
                    go_wp2
                    go_region
                    all_goals
                      go_wp2
                      go_returns
                      rw [HV4.out]
                      refine ⟨?_, by go_grown⟩
                      simp only [rsV, List.drop_zero, Int.natCast_add]
                      rfl
                  · obtain ⟨i, rfl⟩ : ∃ i, j = i + 1 := ⟨j - 1, by omega⟩
                    obtain ⟨e, he, hce, hve, hue⟩ := HSTEP.out i (by omega)
                    obtain ⟨v, hv⟩ : ∃ v, v = valL ((l.take (k + 1)).drop (i + 1)) := ⟨_, rfl⟩
                    rw [← hv] at hve ⊢
                    have hvu := hue.out
                    have hw1 : IntKind.u64.wrap ((v : Int) * 128) = (v : Int) * 128 := IntWalk.u64_in _ ⟨by omega, by omega⟩
                    have hw2 : IntKind.u64.wrap ((v : Int) * 128 + (e : Int) % 128) = (v : Int) * 128 + (e : Int) % 128 := IntWalk.u64_in _ ⟨by omega, by omega⟩
                    have hsi : (s.at_ : Int) + (i : Int) < (s.b.length : Int) := by omega
                    have HVE := Lib.hid hve; clear hve hvu hue
                    have HV2 := Lib.hid hv; clear hv
                    go_wp2
                    go_round
                    case rel => exact ⟨i, by omega, by go_num, by rw [HVE.out]; go_num⟩
                    case measure => simp [intOf]
            · go_wp2
              all_goals
                go_loop [6, 7] (fun x i => ∃ j : Nat, j ≤ k + 1 ∧ i = .int .i64 ((j : Int) - 1) ∧ x = .int .u64 ((valL ((l.take (k + 1)).drop j) : Nat) : Int)) (fun x i => (intOf i + 1).toNat)
                case atStart => exact ⟨k + 1, Nat.le_refl _, by go_num, by rw [HEND.out]; rfl⟩
                case round =>
                  obtain ⟨j, hj, rfl, rfl⟩ := hrel
                  rcases Nat.eq_zero_or_pos j with hj0 | hj0
                  · subst hj0
                    go_wp2
                    go_region
                    all_goals
                      go_wp2
                      go_returns
                      rw [HV4.out]
                      refine ⟨?_, by go_grown⟩
                      simp only [rsV, List.drop_zero, Int.natCast_add]
                      rfl
                  · obtain ⟨i, rfl⟩ : ∃ i, j = i + 1 := ⟨j - 1, by omega⟩
                    obtain ⟨e, he, hce, hve, hue⟩ := HSTEP.out i (by omega)
                    obtain ⟨v, hv⟩ : ∃ v, v = valL ((l.take (k + 1)).drop (i + 1)) := ⟨_, rfl⟩
                    rw [← hv] at hve ⊢
                    have hvu := hue.out
                    have hw1 : IntKind.u64.wrap ((v : Int) * 128) = (v : Int) * 128 := IntWalk.u64_in _ ⟨by omega, by omega⟩
                    have hw2 : IntKind.u64.wrap ((v : Int) * 128 + (e : Int) % 128) = (v : Int) * 128 + (e : Int) % 128 := IntWalk.u64_in _ ⟨by omega, by omega⟩
                    have hsi : (s.at_ : Int) + (i : Int) < (s.b.length : Int) := by omega
                    have HVE := Lib.hid hve; clear hve hvu hue
                    have HV2 := Lib.hid hv; clear hv
                    go_wp2
                    go_round
                    case rel => exact ⟨i, by omega, by go_num, by rw [HVE.out]; go_num⟩
                    case measure => simp [intOf]
          · have hk9' : k < 9 := by
              rcases Nat.lt_or_ge k 9 with h | h
              · exact h
              · exact absurd ⟨by omega, by omega⟩ hb1
            have hrel : varGo l 0 = (varGo (l.drop (k + 1)) (k + 1)).after (valL (l.take (k + 1))) (k + 1) := by
              rw [HV.out, varGo_more' hlt ED.out _ HB.out h8, HTK.out]
            have HR := Lib.hid hrel; clear hrel
            have hb9 : (((k : Nat) : Int) == 9) = false := by rw [beq_eq_false_iff_ne]; omega
            have hb0 : (((d : Nat) : Int) == 0) = false := by rw [beq_eq_false_iff_ne]; omega
            clear hb1 hb2
            go_wp2
            all_goals
              go_round
              case rel => exact ⟨k + 1, by omega, by omega, by go_num, HR.out⟩
              case measure => simp [intOf]; omega
      · have hv3 : R = (0, { s with err := 2 }) := by rw [H1.out, HV.out, varGo_end hge]
        have HV3 := Lib.hid hv3; clear hv3
        have hu : (s.b.length : Int) ≤ (s.at_ : Int) + (k : Int) := by omega
        go_wp2
        go_region
        all_goals
          go_wp2
          go_returns
          rw [HV3.out]
          exact ⟨rfl, by go_grown⟩
  · have hb : (((s.err : Nat) : Int) != 0) = true := by rw [bne_iff_ne]; omega
    have e1 : varR s = (0, s) := if_pos h0
    rw [e1]
    clear e1
    have H0 := Lib.hid h0; clear h0
    unfold rsV
    go_enter Try.func24, Try.ntmps24
    go_wp2
    go_region
    all_goals
      go_wp2
      go_returns
      exact ⟨rfl, by go_grown⟩
end Go.Proofs.Ytacindehajholaa
