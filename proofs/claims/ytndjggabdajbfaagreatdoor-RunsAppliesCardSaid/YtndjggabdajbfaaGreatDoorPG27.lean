/- Parts one behind the other: What the reference's reader does: Var; What the reference's reader does: Text; Regions that draw their order, told by relations under a growth of one's own: blocks behind a bound may turn, but keep their shapes; Regions that draw their order and store whole rows into two result boxes, in open order: the law by relations, the stores remembered. Conditions: as told at each. -/
import Derived.Test.YtndjggabdajbfaaGreatDoorPG26
import Derived.Test.YtndjggabdajbfaaGreatDoorPG12
import Derived.Test.YtndjggabdajbfaaGreatDoorPG10
import Derived.Test.YtndjggabdajbfaaGreatDoorPG21

set_option linter.unusedVariables false
set_option linter.unusedSimpArgs false
/- What the reference's reader does: Var. Conditions: lengths that fit. -/
namespace Go.Proofs.YtndjggabdajbfaaGreatDoor
open Go Go.RowKit

theorem valL_step {l : List UInt8} {j k : Nat} (hj : j < k) (hk : k ≤ l.length) : valL ((l.take k).drop j) = (l[j]'(by omega)).toNat % 128 + 128 * valL ((l.take k).drop (j + 1)) := by
  rw [List.drop_eq_getElem_cons (by rw [List.length_take]; omega), valL]
  simp

set_option maxRecDepth 100000 in
set_option maxHeartbeats 1000000 in
theorem refVarR_c (A : Option Addr) (c : Nat) (s : RS) (w : World) (h : RsOk w A c s) :
    Calls Tryz.prog 42 #[rsV A c s] w fun e w' => e = .returned (.tuple #[.int .u64 ((varR s).1 : Int), rsV A c (varR s).2]) ∧ Below w.heap.size w w' := by
  obtain ⟨h1, h2, h3, h4, h5⟩ := h
  by_cases h0 : s.err = 0
  · have hb : (((s.err : Nat) : Int) != 0) = false := by rw [bne_eq_false_iff_eq]; omega
    obtain ⟨l, el⟩ : ∃ l, l = s.b.drop s.at_ := ⟨_, rfl⟩
    have e1 : varR s = match varGo l 0 with
      | .bad e => (0, { s with err := e })
      | .ok n k => (n, { s with at_ := s.at_ + k }) := by rw [varR, if_neg (by omega), el]; rfl
    have hll : l.length + s.at_ = s.b.length := by rw [el, List.length_drop]; omega
    have hcell : ∀ i (hi : i < l.length), ∃ b off, A = some ⟨b, off, none⟩ ∧ b < w.heap.size ∧ w.cell? ⟨b, off + (s.at_ + i), none⟩ = some (.int .u8 ((l[i]).toNat : Int)) := by
      intro i hi
      obtain ⟨b, off, hA, hlt, hc⟩ := h1.addrB (by omega)
      refine ⟨b, off, hA, hlt, ?_⟩
      rw [hc (s.at_ + i) (by omega)]
      subst el
      simp [bv]
    have HC := Lib.hid hcell; clear hcell
    have H0 := Lib.hid h0; clear h0
    clear el h1
    obtain ⟨R, hR⟩ : ∃ R, R = varR s := ⟨_, rfl⟩
    rw [← hR]
    rw [← hR] at e1
    have H1 := Lib.hid e1; clear e1 hR
    unfold rsV
    go_enter Tryz.func42, Tryz.ntmps42
    go_wp2
    go_loop [4] (fun i => ∃ (k : Nat), k ≤ 9 ∧ k ≤ l.length ∧ i = .int .i64 k ∧ varGo l 0 = (varGo (l.drop k) k).after (valL (l.take k)) k) (fun i => 10 - (intOf i).toNat)
    case atStart => exact ⟨0, by omega, by omega, rfl, by rw [List.take_zero, show valL [] = 0 from rfl, VR.after_zero]; rfl⟩
    case round =>
      obtain ⟨k, hk9, hkl, rfl, hv⟩ := hrel
      have HV := Lib.hid hv; clear hv
      rcases Nat.lt_or_ge k l.length with hlt | hge
      · have hu : (s.at_ : Int) + (k : Int) < (s.b.length : Int) := by omega
        obtain ⟨b, off, rfl, hbl, hc⟩ := HC.out k hlt
        obtain ⟨d, ed⟩ : ∃ d, d = (l[k]).toNat := ⟨_, rfl⟩
        have hd : d < 256 := by rw [ed]; exact UInt8.toNat_lt _
        rw [← ed] at hc
        have ED := Lib.hid ed; clear ed
        by_cases hbad : badDg k d
        · have hv3 : R = (0, { s with err := 3 }) := by rw [H1.out, HV.out, varGo_form' hlt ED.out _ hbad]
          have HV3 := Lib.hid hv3; clear hv3
          rcases hbad with ⟨h9, k1⟩ | ⟨h9, k1⟩
          · have hb9 : (((k : Nat) : Int) == 9) = true := by rw [beq_iff_eq]; omega
            have H9 := Lib.hid h9; clear h9
            go_wp2
            go_region
            all_goals
              go_wp2
              go_returns
              rw [HV3.out]
              exact ⟨rfl, by go_grown⟩
          · have hb9 : (((d : Nat) : Int) == 0) = true := by rw [beq_iff_eq]; omega
            have hb8 : decide ((1 : Int) < (d : Int)) = false := decide_eq_false (by omega)
            have HD1 := Lib.hid k1; clear k1
            go_wp2
            all_goals
              go_region
              all_goals
                go_wp2
                go_returns
                rw [HV3.out]
                exact ⟨rfl, by go_grown⟩
        · have hb1 : ¬ (k = 9 ∧ 1 < d) := fun h => hbad (.inl h)
          have hb2 : ¬ (0 < k ∧ d = 0) := fun h => hbad (.inr h)
          have HB := Lib.hid hbad; clear hbad
          have htk : valL (l.take (k + 1)) = valL (l.take k) + 128 ^ k * (d % 128) := by
            rw [List.take_succ_eq_append_getElem hlt, valL_snoc, List.length_take, Nat.min_eq_left hkl, ← ED.out]
          have HTK := Lib.hid htk; clear htk
          rcases Nat.lt_or_ge d 128 with h8 | h8
          · have hv3 : varGo l 0 = .ok (valL (l.take (k + 1))) (k + 1) := by rw [HV.out, varGo_last' hlt ED.out _ HB.out h8, HTK.out]
            obtain ⟨hu64, hk1, _⟩ := varGo_u64 hv3
            have hv4 : R = (valL (l.take (k + 1)), { s with at_ := s.at_ + (k + 1) }) := by rw [H1.out, hv3]
            have HV4 := Lib.hid hv4; clear hv4 hv3
            have hcase : (k = 9 ∧ (((k : Nat) : Int) == 9) = true ∧ decide ((1 : Int) < (d : Int)) = false ∧ (((d : Nat) : Int) == 0) = false) ∨ ((((k : Nat) : Int) == 9) = false ∧ ¬ 0 < k) ∨ ((((k : Nat) : Int) == 9) = false ∧ (((d : Nat) : Int) == 0) = false) := by
              by_cases h9 : k = 9
              · exact .inl ⟨h9, by rw [beq_iff_eq]; omega, decide_eq_false (by omega), by rw [beq_eq_false_iff_ne]; omega⟩
              · refine .inr ?_
                by_cases h0k : 0 < k
                · exact .inr ⟨by rw [beq_eq_false_iff_ne]; omega, by rw [beq_eq_false_iff_ne]; omega⟩
                · exact .inl ⟨by rw [beq_eq_false_iff_ne]; omega, h0k⟩
            clear hb1 hb2
            have hstep : ∀ j, j < k + 1 → ∃ e : Nat, e < 256 ∧ w.cell? ⟨b, off + (s.at_ + j), none⟩ = some (.int .u8 (e : Int)) ∧ valL ((l.take (k + 1)).drop j) = e % 128 + 128 * valL ((l.take (k + 1)).drop (j + 1)) ∧ U64 (valL ((l.take (k + 1)).drop j)) := by
              intro j hj
              obtain ⟨b', off', hA, _, hc'⟩ := HC.out j (by omega)
              injection hA with hA
              injection hA with hA1 hA2
              subst hA1; subst hA2
              exact ⟨(l[j]).toNat, UInt8.toNat_lt _, hc', valL_step hj hk1, hu64.le (valL_drop_le _ _)⟩
            have HSTEP := Lib.hid hstep; clear hstep
            have hend : valL ((l.take (k + 1)).drop (k + 1)) = 0 := by rw [List.drop_of_length_le (by rw [List.length_take]; omega)]; rfl
            have HEND := Lib.hid hend; clear hend
            rcases hcase with ⟨h9, c1, c2, c3⟩ | ⟨c1, c2⟩ | ⟨c1, c2⟩
            · have hk0 : 0 < k := by omega
              have H9 := Lib.hid h9; clear h9
              go_wp2
              all_goals
                go_loop [6, 7] (fun x i => ∃ j : Nat, j ≤ k + 1 ∧ i = .int .i64 ((j : Int) - 1) ∧ x = .int .u64 ((valL ((l.take (k + 1)).drop j) : Nat) : Int)) (fun x i => (intOf i + 1).toNat)
                case atStart => exact ⟨k + 1, Nat.le_refl _, by go_num, by rw [HEND.out]; rfl⟩
                case round =>
                  obtain ⟨j, hj, rfl, rfl⟩ := hrel
                  rcases Nat.eq_zero_or_pos j with hj0 | hj0
                  · subst hj0
                    go_wp2
                    go_region
                    all_goals
                      go_wp2
                      go_returns
                      rw [HV4.out]
                      refine ⟨?_, by go_grown⟩
                      simp only [Int.natCast_add]
                      rfl
                  · obtain ⟨i, rfl⟩ : ∃ i, j = i + 1 := ⟨j - 1, by omega⟩
                    obtain ⟨e, he, hce, hve, hue⟩ := HSTEP.out i (by omega)
                    obtain ⟨v, hv⟩ : ∃ v, v = valL ((l.take (k + 1)).drop (i + 1)) := ⟨_, rfl⟩
                    rw [← hv] at hve ⊢
                    have hvu := hue.out
                    have hw1 : IntKind.u64.wrap ((v : Int) * 128) = (v : Int) * 128 := IntWalk.u64_in _ ⟨by omega, by omega⟩
                    have hw2 : IntKind.u64.wrap ((v : Int) * 128 + (e : Int) % 128) = (v : Int) * 128 + (e : Int) % 128 := IntWalk.u64_in _ ⟨by omega, by omega⟩
                    have hsi : (s.at_ : Int) + (i : Int) < (s.b.length : Int) := by omega
                    have HVE := Lib.hid hve; clear hve hvu hue
                    have HV2 := Lib.hid hv; clear hv
                    go_wp2
                    go_round
                    case rel => exact ⟨i, by omega, by go_num, by rw [HVE.out]; go_num⟩
                    case measure => simp [intOf]
            · go_wp2
              all_goals
                go_loop [6, 7] (fun x i => ∃ j : Nat, j ≤ k + 1 ∧ i = .int .i64 ((j : Int) - 1) ∧ x = .int .u64 ((valL ((l.take (k + 1)).drop j) : Nat) : Int)) (fun x i => (intOf i + 1).toNat)
                case atStart => exact ⟨k + 1, Nat.le_refl _, by go_num, by rw [HEND.out]; rfl⟩
                case round =>
                  obtain ⟨j, hj, rfl, rfl⟩ := hrel
                  rcases Nat.eq_zero_or_pos j with hj0 | hj0
                  · subst hj0
                    go_wp2
                    go_region
                    all_goals
                      go_wp2
                      go_returns
                      rw [HV4.out]
                      refine ⟨?_, by go_grown⟩
                      simp only [Int.natCast_add]
                      rfl
                  · obtain ⟨i, rfl⟩ : ∃ i, j = i + 1 := ⟨j - 1, by omega⟩
                    obtain ⟨e, he, hce, hve, hue⟩ := HSTEP.out i (by omega)
                    obtain ⟨v, hv⟩ : ∃ v, v = valL ((l.take (k + 1)).drop (i + 1)) := ⟨_, rfl⟩
                    rw [← hv] at hve ⊢
                    have hvu := hue.out
                    have hw1 : IntKind.u64.wrap ((v : Int) * 128) = (v : Int) * 128 := IntWalk.u64_in _ ⟨by omega, by omega⟩
                    have hw2 : IntKind.u64.wrap ((v : Int) * 128 + (e : Int) % 128) = (v : Int) * 128 + (e : Int) % 128 := IntWalk.u64_in _ ⟨by omega, by omega⟩
                    have hsi : (s.at_ : Int) + (i : Int) < (s.b.length : Int) := by omega
                    have HVE := Lib.hid hve; clear hve hvu hue
                    have HV2 := Lib.hid hv; clear hv
                    go_wp2
                    go_round
                    case rel => exact ⟨i, by omega, by go_num, by rw [HVE.out]; go_num⟩
                    case measure => simp [intOf]
            · go_wp2
              all_goals
                go_loop [6, 7] (fun x i => ∃ j : Nat, j ≤ k + 1 ∧ i = .int .i64 ((j : Int) - 1) ∧ x = .int .u64 ((valL ((l.take (k + 1)).drop j) : Nat) : Int)) (fun x i => (intOf i + 1).toNat)
                case atStart => exact ⟨k + 1, Nat.le_refl _, by go_num, by rw [HEND.out]; rfl⟩
                case round =>
                  obtain ⟨j, hj, rfl, rfl⟩ := hrel
                  rcases Nat.eq_zero_or_pos j with hj0 | hj0
                  · subst hj0
                    go_wp2
                    go_region
                    all_goals
                      go_wp2
                      go_returns
                      rw [HV4.out]
                      refine ⟨?_, by go_grown⟩
                      simp only [Int.natCast_add]
                      rfl
                  · obtain ⟨i, rfl⟩ : ∃ i, j = i + 1 := ⟨j - 1, by omega⟩
                    obtain ⟨e, he, hce, hve, hue⟩ := HSTEP.out i (by omega)
                    obtain ⟨v, hv⟩ : ∃ v, v = valL ((l.take (k + 1)).drop (i + 1)) := ⟨_, rfl⟩
                    rw [← hv] at hve ⊢
                    have hvu := hue.out
                    have hw1 : IntKind.u64.wrap ((v : Int) * 128) = (v : Int) * 128 := IntWalk.u64_in _ ⟨by omega, by omega⟩
                    have hw2 : IntKind.u64.wrap ((v : Int) * 128 + (e : Int) % 128) = (v : Int) * 128 + (e : Int) % 128 := IntWalk.u64_in _ ⟨by omega, by omega⟩
                    have hsi : (s.at_ : Int) + (i : Int) < (s.b.length : Int) := by omega
                    have HVE := Lib.hid hve; clear hve hvu hue
                    have HV2 := Lib.hid hv; clear hv
                    go_wp2
                    go_round
                    case rel => exact ⟨i, by omega, by go_num, by rw [HVE.out]; go_num⟩
                    case measure => simp [intOf]
          · have hk9' : k < 9 := by
              rcases Nat.lt_or_ge k 9 with h | h
              · exact h
              · exact absurd ⟨by omega, by omega⟩ hb1
            have hrel : varGo l 0 = (varGo (l.drop (k + 1)) (k + 1)).after (valL (l.take (k + 1))) (k + 1) := by
              rw [HV.out, varGo_more' hlt ED.out _ HB.out h8, HTK.out]
            have HR := Lib.hid hrel; clear hrel
            have hb9 : (((k : Nat) : Int) == 9) = false := by rw [beq_eq_false_iff_ne]; omega
            have hb0 : (((d : Nat) : Int) == 0) = false := by rw [beq_eq_false_iff_ne]; omega
            clear hb1 hb2
            go_wp2
            all_goals
              go_round
              case rel => exact ⟨k + 1, by omega, by omega, by go_num, HR.out⟩
              case measure => simp [intOf]; omega
      · have hv3 : R = (0, { s with err := 2 }) := by rw [H1.out, HV.out, varGo_end hge]
        have HV3 := Lib.hid hv3; clear hv3
        have hu : (s.b.length : Int) ≤ (s.at_ : Int) + (k : Int) := by omega
        go_wp2
        go_region
        all_goals
          go_wp2
          go_returns
          rw [HV3.out]
          exact ⟨rfl, by go_grown⟩
  · have hb : (((s.err : Nat) : Int) != 0) = true := by rw [bne_iff_ne]; omega
    have e1 : varR s = (0, s) := if_pos h0
    rw [e1]
    clear e1
    have H0 := Lib.hid h0; clear h0
    unfold rsV
    go_enter Tryz.func42, Tryz.ntmps42
    go_wp2
    go_region
    all_goals
      go_wp2
      go_returns
      exact ⟨rfl, by go_grown⟩
end Go.Proofs.YtndjggabdajbfaaGreatDoor



/- What the reference's reader does: Text. Conditions: lengths that fit. -/
namespace Go.Proofs.YtndjggabdajbfaaGreatDoor
open Go Go.RowKit

theorem varR_b (s : RS) : (varR s).2.b = s.b := by
  unfold varR
  split
  · rfl
  · split <;> rfl
theorem varR_at (s : RS) (h : s.at_ ≤ s.b.length) : (varR s).2.at_ ≤ s.b.length := by
  unfold varR
  split
  · exact h
  · split
    · exact h
    · rename_i n k hg
      have := (varGo_u64 hg).2.1
      rw [List.length_drop] at this
      show s.at_ + k ≤ _
      omega

set_option maxRecDepth 100000 in
set_option maxHeartbeats 1000000 in
theorem refText_no (A : Option Addr) (c : Nat) (s s1 : RS) (n : Nat) (most : Int) (E : Nat) (w : World) (h : RsOk w A c s) (hv : varR s = (n, s1)) (hm : (Lit.int .i64 most).wf = true)
    (hE : (s1.err ≠ 0 ∧ E = s1.err) ∨ (s1.err = 0 ∧ most < 0 ∧ E = 4) ∨ (s1.err = 0 ∧ 0 ≤ most ∧ most < (n : Int) ∧ E = 4) ∨ (s1.err = 0 ∧ 0 ≤ most ∧ (n : Int) ≤ most ∧ s1.b.length < s1.at_ + n ∧ E = 2)) :
    Calls Tryz.prog 25 #[rsV A c s, .int .i64 most] w fun e w' => e = .returned (.tuple #[.slice none 0 0, rsV A c { s with err := E }]) ∧ Below w.heap.size w w' := by
  have h' := h
  obtain ⟨h1, h2, h3, h4, h5⟩ := h
  obtain ⟨hm1, hm2⟩ := bounds_i64 hm
  have hsb : s1.b = s.b := by have := varR_b s; rw [hv] at this; exact this
  have hsa : s1.at_ ≤ s.b.length := by have := varR_at s h4; rw [hv] at this; exact this
  have hV := fun (w : World) (hh : RsOk w A c s) => refVarR_c A c s w hh
  rw [hv] at hV
  unfold rsV at hV
  simp only [hsb] at hV hE
  have HV := Lib.hid hV; clear hV hv
  have hR : ∀ o1 o2, RsOk ((w.alloc o1).alloc o2) A c s := fun o1 o2 => ⟨(h1.alloc o1).alloc o2, h2, h3, h4, h5⟩
  have HR := Lib.hid hR; clear hR h' h1
  have HSB := Lib.hid hsb; clear hsb
  unfold rsV
  rcases hE with ⟨he, rfl⟩ | ⟨he, hl, rfl⟩ | ⟨he, hl0, hl, rfl⟩ | ⟨he, hl0, hl1, hl, rfl⟩
  · have e0 : (((s1.err : Nat) : Int) != 0) = true := by rw [bne_iff_ne]; omega
    clear he
    go_enter Tryz.func25, Tryz.ntmps25
    go_wp2_with (fail)
    refine (HV.out _ (HR.out _ _)).mono ?_
    rintro e w1 ⟨rfl, hb1⟩
    have z := hb1.size
    simp only [World.size_alloc] at z hb1
    have x0 := box3 ((hb1.block w.heap.size (by omega)).trans (heap2_old w _ _))
    have x1 := box3 ((hb1.block (w.heap.size + 1) (by omega)).trans (heap2_new w _ _))
    obtain ⟨⟨a0, a1, a2⟩, b0, b1, b2⟩ := x0
    obtain ⟨⟨d0, d1, d2⟩, f0, f1, f2⟩ := x1
    have hB : Below w.heap.size w w1 := (((Below.refl _ _).alloc (Nat.le_refl _) _).alloc (by simp) _).trans (hb1.mono (by omega))
    have z1 : w.heap.size < w1.heap.size := by omega
    have z2 : w.heap.size + 1 < w1.heap.size := by omega
    have hsub := IntWalk.u64_in ((s.b.length : Int) - (s1.at_ : Int)) ⟨by omega, by omega⟩
    go_wp2_with (fail)
    go_region
    all_goals
      go_wp2
      refine bodyPost_ret (v := .tuple #[.slice none 0 0, .agg #[.slice A s.b.length c, .int .i64 (s.at_ : Int), .int .i64 (s1.err : Int)]]) (by simp [results, Tryz.results25, go_sem, d0, d1, d2, z2]) rfl ?_
      exact ⟨rfl, by go_grown⟩
  · have e0 : (((s1.err : Nat) : Int) != 0) = false := by rw [bne_eq_false_iff_eq]; omega
    clear he
    go_enter Tryz.func25, Tryz.ntmps25
    go_wp2_with (fail)
    refine (HV.out _ (HR.out _ _)).mono ?_
    rintro e w1 ⟨rfl, hb1⟩
    have z := hb1.size
    simp only [World.size_alloc] at z hb1
    have x0 := box3 ((hb1.block w.heap.size (by omega)).trans (heap2_old w _ _))
    have x1 := box3 ((hb1.block (w.heap.size + 1) (by omega)).trans (heap2_new w _ _))
    obtain ⟨⟨a0, a1, a2⟩, b0, b1, b2⟩ := x0
    obtain ⟨⟨d0, d1, d2⟩, f0, f1, f2⟩ := x1
    have hB : Below w.heap.size w w1 := (((Below.refl _ _).alloc (Nat.le_refl _) _).alloc (by simp) _).trans (hb1.mono (by omega))
    have z1 : w.heap.size < w1.heap.size := by omega
    have z2 : w.heap.size + 1 < w1.heap.size := by omega
    have hsub := IntWalk.u64_in ((s.b.length : Int) - (s1.at_ : Int)) ⟨by omega, by omega⟩
    go_wp2_with (fail)
    go_region
    all_goals
      go_wp2
      refine bodyPost_ret (v := .tuple #[.slice none 0 0, .agg #[.slice A s.b.length c, .int .i64 (s.at_ : Int), .int .i64 (4 : Int)]]) (by simp [results, Tryz.results25, go_sem, d0, d1, d2, z2]) rfl ?_
      exact ⟨rfl, by go_grown⟩
  · have e0 : (((s1.err : Nat) : Int) != 0) = false := by rw [bne_eq_false_iff_eq]; omega
    clear he
    go_enter Tryz.func25, Tryz.ntmps25
    go_wp2_with (fail)
    refine (HV.out _ (HR.out _ _)).mono ?_
    rintro e w1 ⟨rfl, hb1⟩
    have z := hb1.size
    simp only [World.size_alloc] at z hb1
    have x0 := box3 ((hb1.block w.heap.size (by omega)).trans (heap2_old w _ _))
    have x1 := box3 ((hb1.block (w.heap.size + 1) (by omega)).trans (heap2_new w _ _))
    obtain ⟨⟨a0, a1, a2⟩, b0, b1, b2⟩ := x0
    obtain ⟨⟨d0, d1, d2⟩, f0, f1, f2⟩ := x1
    have hB : Below w.heap.size w w1 := (((Below.refl _ _).alloc (Nat.le_refl _) _).alloc (by simp) _).trans (hb1.mono (by omega))
    have z1 : w.heap.size < w1.heap.size := by omega
    have z2 : w.heap.size + 1 < w1.heap.size := by omega
    have hsub := IntWalk.u64_in ((s.b.length : Int) - (s1.at_ : Int)) ⟨by omega, by omega⟩
    go_wp2_with (fail)
    go_region
    all_goals
      go_wp2
      refine bodyPost_ret (v := .tuple #[.slice none 0 0, .agg #[.slice A s.b.length c, .int .i64 (s.at_ : Int), .int .i64 (4 : Int)]]) (by simp [results, Tryz.results25, go_sem, d0, d1, d2, z2]) rfl ?_
      exact ⟨rfl, by go_grown⟩
  · have e0 : (((s1.err : Nat) : Int) != 0) = false := by rw [bne_eq_false_iff_eq]; omega
    clear he
    have hl' : (s.b.length : Int) - (s1.at_ : Int) < (n : Int) := by omega
    go_enter Tryz.func25, Tryz.ntmps25
    go_wp2_with (fail)
    refine (HV.out _ (HR.out _ _)).mono ?_
    rintro e w1 ⟨rfl, hb1⟩
    have z := hb1.size
    simp only [World.size_alloc] at z hb1
    have x0 := box3 ((hb1.block w.heap.size (by omega)).trans (heap2_old w _ _))
    have x1 := box3 ((hb1.block (w.heap.size + 1) (by omega)).trans (heap2_new w _ _))
    obtain ⟨⟨a0, a1, a2⟩, b0, b1, b2⟩ := x0
    obtain ⟨⟨d0, d1, d2⟩, f0, f1, f2⟩ := x1
    have hB : Below w.heap.size w w1 := (((Below.refl _ _).alloc (Nat.le_refl _) _).alloc (by simp) _).trans (hb1.mono (by omega))
    have z1 : w.heap.size < w1.heap.size := by omega
    have z2 : w.heap.size + 1 < w1.heap.size := by omega
    have hsub := IntWalk.u64_in ((s.b.length : Int) - (s1.at_ : Int)) ⟨by omega, by omega⟩
    go_wp2_with (fail)
    go_region
    all_goals
      go_wp2
      refine bodyPost_ret (v := .tuple #[.slice none 0 0, .agg #[.slice A s.b.length c, .int .i64 (s.at_ : Int), .int .i64 (2 : Int)]]) (by simp [results, Tryz.results25, go_sem, d0, d1, d2, z2]) rfl ?_
      exact ⟨rfl, by go_grown⟩

set_option maxRecDepth 100000 in
set_option maxHeartbeats 1000000 in
theorem refText_yes (A : Option Addr) (c : Nat) (s s1 : RS) (n : Nat) (most : Int) (w : World) (h : RsOk w A c s) (hv : varR s = (n, s1)) (hm : (Lit.int .i64 most).wf = true)
    (he : s1.err = 0) (hl0 : 0 ≤ most) (hl1 : (n : Int) ≤ most) (hl : s1.at_ + n ≤ s1.b.length) :
    Calls Tryz.prog 25 #[rsV A c s, .int .i64 most] w fun e w' => ∃ v, e = .returned (.tuple #[v, rsV A c { s1 with at_ := s1.at_ + n }]) ∧ OwnB w' w.heap.size v ((s1.b.drop s1.at_).take n) ∧ Below w.heap.size w w' := by
  obtain ⟨h1, h2, h3, h4, h5⟩ := h
  obtain ⟨hm1, hm2⟩ := bounds_i64 hm
  have hsb : s1.b = s.b := by have := varR_b s; rw [hv] at this; exact this
  have hsa : s1.at_ ≤ s.b.length := by have := varR_at s h4; rw [hv] at this; exact this
  have hV := fun (w : World) (hh : RsOk w A c s) => refVarR_c A c s w hh
  rw [hv] at hV
  have ht : takeR s1 (n : Int) = ((s1.b.drop s1.at_).take n, { s1 with at_ := s1.at_ + n }) := by
    rw [takeR, if_neg (by omega), if_neg (by omega), if_neg (by omega)]; rfl
  have hT := fun (w : World) (hh : RsOk w A c s1) => refTake_c A c s1 (n : Int) w hh (WalkArith.wf_i64 (by omega))
  rw [ht] at hT
  unfold rsV at hV hT
  simp only [hsb] at hV hT hl
  have HV := Lib.hid hV; clear hV hv ht
  have HT := Lib.hid hT; clear hT
  have hR : ∀ o1 o2, RsOk ((w.alloc o1).alloc o2) A c s := fun o1 o2 => ⟨(h1.alloc o1).alloc o2, h2, h3, h4, h5⟩
  have hR1 : ∀ w1, Below w.heap.size w w1 → RsOk w1 A c s1 := fun w1 hb => ⟨by rw [hsb]; exact h1.below hb, by rw [hsb]; exact h2, h3, by rw [hsb]; exact hsa, by rw [hsb]; exact h5⟩
  have HR := Lib.hid hR; clear hR h1
  have HR1 := Lib.hid hR1; clear hR1
  have e0 : (((s1.err : Nat) : Int) != 0) = false := by rw [bne_eq_false_iff_eq]; omega
  have hl' : (n : Int) ≤ (s.b.length : Int) - (s1.at_ : Int) := by omega
  unfold rsV
  simp only [hsb]
  have HSB := Lib.hid hsb; clear hsb he
  go_enter Tryz.func25, Tryz.ntmps25
  go_wp2_with (fail)
  refine (HV.out _ (HR.out _ _)).mono ?_
  rintro e w1 ⟨rfl, hb1⟩
  have z := hb1.size
  simp only [World.size_alloc] at z hb1
  have x0 := box3 ((hb1.block w.heap.size (by omega)).trans (heap2_old w _ _))
  obtain ⟨⟨a0, a1, a2⟩, b0, b1, b2⟩ := x0
  have hB : Below w.heap.size w w1 := (((Below.refl _ _).alloc (Nat.le_refl _) _).alloc (by simp) _).trans (hb1.mono (by omega))
  have z1 : w.heap.size < w1.heap.size := by omega
  have z2 : w.heap.size + 1 < w1.heap.size := by omega
  have hsub := IntWalk.u64_in ((s.b.length : Int) - (s1.at_ : Int)) ⟨by omega, by omega⟩
  go_wp2_with (fail)
  have hBa : Below w.heap.size w (w1.alloc (.cells #[.slice A s.b.length c, .int .i64 (s1.at_ : Int), .int .i64 (s1.err : Int)] 61)) := hB.alloc hB.size _
  refine (HT.out _ (HR1.out _ hBa)).mono ?_
  rintro e w2 ⟨v, rfl, ho, hb2⟩
  have y := hb2.size
  simp only [World.size_alloc] at y hb2 ho
  have x1 := box3 ((hb2.block (w.heap.size + 1) (by omega)).trans ((Below.heap_alloc _ _ _ z2).trans ((hb1.block (w.heap.size + 1) (by omega)).trans (heap2_new w _ _))))
  obtain ⟨⟨d0, d1, d2⟩, f0, f1, f2⟩ := x1
  have hB2 : Below w.heap.size w w2 := hBa.trans (hb2.mono (by omega))
  have HO := Lib.hid ho; clear ho
  go_wp2_with (fail)
  refine bodyPost_ret (v := .tuple #[v, .agg #[.slice A s.b.length c, .int .i64 ((s1.at_ + n : Nat) : Int), .int .i64 (s1.err : Int)]]) (by simp [results, Tryz.results25, go_sem, d0, d1, d2]) rfl ?_
  refine ⟨v, rfl, ?_, by go_grown⟩
  exact Own.low (Own.setBelow (Own.setBelow (Own.setBelow HO.out (by show w.heap.size + 1 < _; omega) _) (by show w.heap.size + 1 < _; omega) _) (by show w.heap.size + 1 < _; omega) _) (by omega)

theorem refTextR_c (A : Option Addr) (c : Nat) (s : RS) (most : Int) (w : World) (h : RsOk w A c s) (hm : (Lit.int .i64 most).wf = true) :
    Calls Tryz.prog 25 #[rsV A c s, .int .i64 most] w fun e w' => ∃ v, e = .returned (.tuple #[v, rsV A c (textR s most).2]) ∧ OwnB w' w.heap.size v (textR s most).1 ∧ Below w.heap.size w w' := by
  by_cases h0 : s.err = 0
  · cases hg : varGo (s.b.drop s.at_) 0 with
    | bad e =>
      have hv : varR s = (0, { s with err := e }) := by rw [varR, if_neg (by omega), hg]
      have ht : textR s most = ([], { s with err := e }) := by rw [textR, if_neg (by omega), hg]
      rw [ht]
      refine (refText_no A c s _ 0 most e w h hv hm (.inl ⟨by rcases varGo_err hg with rfl | rfl <;> simp, rfl⟩)).mono ?_
      rintro e w' ⟨rfl, h1⟩
      exact ⟨_, rfl, Own.nil_ _ _ _, h1⟩
    | ok n k =>
      have hv : varR s = (n, { s with at_ := s.at_ + k }) := by rw [varR, if_neg (by omega), hg]
      by_cases hl : most < 0 ∨ most < (n : Int)
      · have ht : textR s most = ([], { s with err := 4 }) := by rw [textR, if_neg (by omega), hg]; exact if_pos hl
        rw [ht]
        refine (refText_no A c s _ n most 4 w h hv hm (by
          rcases Int.lt_or_le most 0 with hq | hq
          · exact .inr (.inl ⟨h0, hq, rfl⟩)
          · exact .inr (.inr (.inl ⟨h0, hq, by omega, rfl⟩)))).mono ?_
        rintro e w' ⟨rfl, h1⟩
        exact ⟨_, rfl, Own.nil_ _ _ _, h1⟩
      · by_cases hs : s.b.length < s.at_ + k + n
        · have ht : textR s most = ([], { s with err := 2 }) := by rw [textR, if_neg (by omega), hg]; exact (if_neg hl).trans (if_pos hs)
          rw [ht]
          refine (refText_no A c s _ n most 2 w h hv hm (.inr (.inr (.inr ⟨h0, by omega, by omega, hs, rfl⟩)))).mono ?_
          rintro e w' ⟨rfl, h1⟩
          exact ⟨_, rfl, Own.nil_ _ _ _, h1⟩
        · have ht : textR s most = ((s.b.drop (s.at_ + k)).take n, { s with at_ := s.at_ + k + n }) := by rw [textR, if_neg (by omega), hg]; exact (if_neg hl).trans (if_neg hs)
          rw [ht]
          exact refText_yes A c s _ n most w h hv hm h0 (by omega) (by omega) (by show s.at_ + k + n ≤ s.b.length; omega)
  · have hv : varR s = (0, s) := if_pos h0
    have ht : textR s most = ([], s) := if_pos h0
    rw [ht]
    refine (refText_no A c s s 0 most s.err w h hv hm (.inl ⟨h0, rfl⟩)).mono ?_
    rintro e w' ⟨rfl, h1⟩
    exact ⟨_, rfl, Own.nil_ _ _ _, h1⟩
end Go.Proofs.YtndjggabdajbfaaGreatDoor



/- Regions that draw their order, told by relations under a growth of one's own: blocks behind a bound may turn, but keep their shapes. Conditions: none. -/
namespace Go.Proofs.YtndjggabdajbfaaGreatDoor
open Go Go.RowKit Go.Lib

theorem gives_store_rowQ {P : Program} {o : Oper} {f : Nat → Value} {w : World} {K : Value → World → Prop} (ty : TypeId) (x y : Operand) (ho : o.op = .store ty x y)
    (g : Nat) (cells : Array Value) (hx : evF f x = .pointer (some ⟨g, 0, none⟩)) (hy : evF f y = .agg cells)
    (t : TypeId) (old : Array Value) (hg : w.heap[g]? = some (.cells old t (0, 0))) (hi : (P.info? ty).map (·.size) = some cells.size)
    (hold : old.size = cells.size) (h1 : cells.all (·.oneCell') = true) (hK : K undef (w.setRow g cells)) : Gives P o f w K := by
  unfold Gives execOp
  simp only [ho, hx, hy, Instr.storeAt, Instr.sureAddr, Sem.run_bind, Sem.run_pure, Result.andThen_ok, run_storeVar_row w g t ty old cells hg hi hold h1]
  exact hK
end Go.Proofs.YtndjggabdajbfaaGreatDoor



/- Regions that draw their order and store whole rows into two result boxes, in open order: the law by relations, the stores remembered. Conditions: none. -/
namespace Go.Proofs.YtndjggabdajbfaaGreatDoor
open Go Go.RowKit Go.Lib

section
variable {P : Program} {ops : Array Oper} {G : World → World → Prop} {R : Nat → World → Value → Prop} {a0 : Act} {W0 : World}
structure RJnv (ops : Array Oper) (G : World → World → Prop) (R : Nat → World → Value → Prop) (a0 : Act) (W0 : World) (listed : Array Bool) (a : Act) (w : World) : Prop where
  grow : G W0 w
  defers : a.defers = a0.defers
  size : a.tmps.size = a0.tmps.size
  lsize : listed.size = ops.size
  frame : ∀ t, writes ops t = false → a.tmps.getD t undef = a0.tmps.getD t undef
  rel : ∀ j d, listed.getD j false = true → dstOf ops j = some d → R j w (a.tmps.getD d undef)
  rel0 : ∀ j, listed.getD j false = true → dstOf ops j = none → ∃ u, R j w u

theorem RJnv.put {listed : Array Bool} {a : Act} {w w' : World} {i : Nat} {o : Oper} {v : Value} {n : Nat} (ho : ops[i]? = some o) (hok : slotsOk ops n = true) (hn : a0.tmps.size = n) (h : RJnv ops G R a0 W0 listed a w)
    (ht : ∀ {a b c}, G a b → G b c → G a c) (hm : ∀ j {a b v}, R j a v → G a b → R j b v) (hg : G w w') (hr : R i w' v) (hi : i < ops.size) : RJnv ops G R a0 W0 (listed.setIfInBounds i true) (a.put o.dst v) w' := by
  have hdo : dstOf ops i = o.dst := by unfold dstOf; rw [ho]; rfl
  have get : ∀ t, (a.put o.dst v).tmps.getD t undef = if o.dst = some t ∧ t < n then v else a.tmps.getD t undef := by
    intro t
    unfold Act.put
    cases hd : o.dst with
    | none => simp
    | some d =>
      by_cases e : d = t
      · subst e
        have hlt : d < n := slotsOk_lt hok (hdo.trans hd)
        have hlt2 : d < a.tmps.size := by rw [h.size, hn]; exact hlt
        simp [hlt, hlt2]
      · simp [e, Array.getElem?_setIfInBounds_ne e]
  refine ⟨ht h.grow hg, ?_, ?_, by simp [h.lsize], fun t hw => ?_, fun j d hl hd => ?_, fun j hl hd => ?_⟩
  · rw [← h.defers]; unfold Act.put; cases o.dst <;> rfl
  · rw [← h.size]; unfold Act.put; cases o.dst <;> simp
  · rw [get, if_neg, h.frame t hw]
    rintro ⟨e, _⟩
    have := writes_of (hdo.trans e)
    rw [hw] at this; cases this
  · rw [get]
    by_cases hji : j = i
    · subst hji
      rw [if_pos ⟨hdo.symm.trans hd, slotsOk_lt hok hd⟩]
      exact hr
    · rw [if_neg]
      · refine hm j (h.rel j d ?_ hd) hg
        rw [← hl]
        simp [Array.getElem?_setIfInBounds_ne (Ne.symm hji)]
      · rintro ⟨e, _⟩
        exact hji (slotsOk_ne hok hd (hdo.trans e))
  · by_cases hji : j = i
    · subst hji
      exact ⟨v, hr⟩
    · obtain ⟨u, hu⟩ := h.rel0 j (by rw [← hl]; simp [Array.getElem?_setIfInBounds_ne (Ne.symm hji)]) hd
      exact ⟨u, hm j hu hg⟩

theorem wp_region_rel2 (n : Nat) {id : Nat} {Q : Exit → Act → World → Prop} {a : Act} {w : World} (hm : P.follows .mixedOrders = true) (hn : a.tmps.size = n) (hok : slotsOk ops n = true)
    (G : World → World → Prop) (R : Nat → World → Value → Prop) (hr : ∀ w, G w w) (ht : ∀ {a b c}, G a b → G b c → G a c) (hmo : ∀ j {a b v}, R j a v → G a b → R j b v)
    (step : ∀ (i : Nat) (o : Oper), ops[i]? = some o → ∀ (f : Nat → Value) (w' : World), G w.drew w' → (∀ t, writes ops t = false → f t = a.tmps.getD t undef) →
      (∀ j d, depOn ops i j = true → dstOf ops j = some d → R j w' (f d)) → if Region.wanted o (yieldedF ops f) = true then Gives P o f w' (fun v w'' => G w' w'' ∧ R i w'' v) else R i w' undef)
    (fin : ∀ (f : Nat → Value) (w' : World), G w.drew w' → (∀ t, writes ops t = false → f t = a.tmps.getD t undef) → (∀ j d, dstOf ops j = some d → R j w' (f d)) → (∀ j, j < ops.size → dstOf ops j = none → ∃ u, R j w' u) → Q .normal ⟨((List.range n).map f).toArray, a.defers⟩ w') :
    (Code.region id ops true).wp P Q a w := by
  refine wp_region_any hm ?_
  have key : ∀ (fuel : Nat) (listed : Array Bool) (b : Act) (v : World), RJnv ops G R a w.drew listed b v → ((List.range ops.size).countP (fun i => listed.getD i false == false)) ≤ fuel → wpAny P .any ops Q fuel listed b v := by
    intro fuel
    have done : ∀ (listed : Array Bool) (b : Act) (v : World), RJnv ops G R a w.drew listed b v → Region.ready .any ops listed = [] → Q .normal b v := by
      intro listed b v h h0
      have all : ∀ i, i < ops.size → listed.getD i false = true := by
        intro i
        induction i using Nat.strongRecOn with
        | _ i ih =>
          intro hi
          cases hc : listed.getD i false with
          | true => rfl
          | false =>
            have hmem : i ∈ Region.ready .any ops listed := by
              refine mem_ready.2 ⟨?_, ops[i], by simp [hi], fun e he hb => ?_⟩
              · have : i < listed.size := by rw [h.lsize]; exact hi
                simp [this] at hc ⊢
                exact hc
              · have hlt := slotsOk_back hok (i := i) (o := ops[i]) (by simp [hi]) e he hb
                exact ih e.on hlt (by omega)
            rw [h0] at hmem; cases hmem
      have hb : b = ⟨((List.range n).map (fun t => b.tmps.getD t undef)).toArray, a.defers⟩ := by
        have hs : b.tmps.size = n := h.size.trans hn
        have e : b.tmps = ((List.range n).map (fun t => b.tmps.getD t undef)).toArray := by
          apply Array.ext
          · simp [hs]
          · intro i h1 h2
            simp [h1]
        rw [← h.defers, ← e]
      rw [hb]
      exact fin (fun t => b.tmps.getD t undef) v h.grow h.frame (fun j d hd => h.rel j d (all j (dstOf_lt hd)) hd) (fun j hj hd => h.rel0 j (all j hj) hd)
    induction fuel with
    | zero =>
      intro listed b v h hc
      have h0 : Region.ready .any ops listed = [] := by
        apply List.eq_nil_iff_forall_not_mem.2
        intro i hi
        obtain ⟨h1, o, ho, _⟩ := mem_ready.1 hi
        have hlt : i < ops.size := (Array.getElem?_eq_some_iff.1 ho).1
        have h2 : listed.getD i false = false := by
          have : i < listed.size := by rw [h.lsize]; exact hlt
          simp [this] at h1 ⊢
          exact h1
        have := List.countP_eq_zero.1 (Nat.le_zero.1 hc) i (List.mem_range.2 hlt)
        rw [h2] at this
        exact this rfl
      exact ⟨h0, done listed b v h h0⟩
    | succ fuel ih =>
      intro listed b v h hc
      refine ⟨fun h0 => done listed b v h h0, fun i hi => ?_⟩
      obtain ⟨h1, o, ho, hall⟩ := mem_ready.1 hi
      have hlt : i < ops.size := (Array.getElem?_eq_some_iff.1 ho).1
      have hls : i < listed.size := by rw [h.lsize]; exact hlt
      have h2 : listed.getD i false = false := by
        simp [hls] at h1 ⊢
        exact h1
      have hcnt : (List.range ops.size).countP (fun k => (listed.setIfInBounds i true).getD k false == false) ≤ fuel := by
        have hsub : (List.range ops.size).countP (fun k => (listed.setIfInBounds i true).getD k false == false) < (List.range ops.size).countP (fun k => listed.getD k false == false) := by
          have gen : ∀ (l : List Nat), i ∈ l → l.countP (fun k => (listed.setIfInBounds i true).getD k false == false) < l.countP (fun k => listed.getD k false == false) := by
            have le : ∀ (l : List Nat), l.countP (fun k => (listed.setIfInBounds i true).getD k false == false) ≤ l.countP (fun k => listed.getD k false == false) := by
              intro l
              apply List.countP_mono_left
              intro k _ hk
              by_cases e : i = k
              · subst e; simp [hls] at hk
              · simpa [Array.getElem?_setIfInBounds_ne e] using hk
            intro l hl
            induction l with
            | nil => cases hl
            | cons k l ihl =>
              by_cases e : i = k
              · subst e
                have := le l
                have h2' : (listed.getD i false == false) = true := by rw [h2]; rfl
                rw [List.countP_cons_of_pos (p := fun k => listed.getD k false == false) (by exact h2'), List.countP_cons_of_neg (by simp [hls])]
                omega
              · have hl' : i ∈ l := by
                  rcases List.mem_cons.1 hl with h | h
                  · exact absurd h e
                  · exact h
                have := ihl hl'
                have e2 : (listed.setIfInBounds i true).getD k false = listed.getD k false := by simp [Array.getElem?_setIfInBounds_ne e]
                rw [List.countP_cons, List.countP_cons, e2]
                omega
          exact gen _ (List.mem_range.2 hlt)
        omega
      have hs := step i o ho (fun t => b.tmps.getD t undef) v h.grow h.frame (fun j d hj hd => by
        unfold depOn at hj
        rw [ho] at hj
        obtain ⟨q, hq, hb⟩ := Array.any_eq_true.1 hj
        have he : o.after[q] ∈ o.after := Array.getElem_mem hq
        generalize o.after[q] = e at he hb
        simp only [Bool.and_eq_true, beq_iff_eq] at hb
        have := hall e he hb.1
        rw [hb.2] at this
        exact h.rel j d this hd)
      unfold wpOp
      simp only [ho]
      rw [yielded_eqF hok b (h.size.trans hn)]
      split
      · rename_i hw
        rw [if_pos hw] at hs
        refine .inl (Gives.wp ?_)
        unfold Gives at hs ⊢
        generalize (execOp (evF fun t => b.tmps.getD t undef) o).run P v = r at hs
        cases r with
        | ok nx w' =>
          cases nx <;> simp only at hs ⊢
          case value u => exact ih _ _ _ (h.put ho hok hn ht hmo hs.1 hs.2 hlt) hcnt
          case skip => exact ih _ _ _ (h.put ho hok hn ht hmo hs.1 hs.2 hlt) hcnt
          case enter k args => exact Calls.mono hs fun e w'' ⟨u, he, hg, hR⟩ => ⟨u, he, ih _ _ _ (h.put ho hok hn ht hmo hg hR hlt) hcnt⟩
        | halt x w' => exact hs.elim
      · rename_i hw
        rw [if_neg hw] at hs
        exact ih _ _ _ (h.put ho hok hn ht hmo (hr v) hs hlt) hcnt
  refine key ops.size _ a _ ⟨hr _, rfl, rfl, by simp, fun t _ => rfl, fun j d hl hd => ?_, fun j hl hd => ?_⟩ ?_
  · have := dstOf_lt hd
    simp [this] at hl
  · by_cases hj : j < ops.size <;> simp [hj] at hl
  · refine Nat.le_trans List.countP_le_length ?_
    simp
end
/-- The boxes q and v alone turn, to C and to E. -/
structure Gz (q v : Nat) (C E : Array Value) (a b : World) : Prop where
  st : Stays (fun k => k = q ∨ k = v) a b
  kq : ∀ (cs : Array Value) (t : TypeId), a.heap[q]? = some (.cells cs t (0, 0)) → ∃ cs' : Array Value, b.heap[q]? = some (.cells cs' t (0, 0)) ∧ cs'.size = cs.size ∧ (cs = C → cs' = C)
  kv : ∀ (cs : Array Value) (t : TypeId), a.heap[v]? = some (.cells cs t (0, 0)) → ∃ cs' : Array Value, b.heap[v]? = some (.cells cs' t (0, 0)) ∧ cs'.size = cs.size ∧ (cs = E → cs' = E)
section
variable {q v : Nat} {C E : Array Value} {a b c : World}
theorem Gz.refl (a : World) : Gz q v C E a a := ⟨Stays.refl _ _, fun cs t h => ⟨cs, h, rfl, id⟩, fun cs t h => ⟨cs, h, rfl, id⟩⟩
theorem Gz.trans (h : Gz q v C E a b) (k : Gz q v C E b c) : Gz q v C E a c := by
  refine ⟨h.st.trans k.st, fun cs t e => ?_, fun cs t e => ?_⟩
  · obtain ⟨c1, e1, s1, d1⟩ := h.kq cs t e
    obtain ⟨c2, e2, s2, d2⟩ := k.kq c1 t e1
    exact ⟨c2, e2, s2.trans s1, fun x => d2 (d1 x)⟩
  · obtain ⟨c1, e1, s1, d1⟩ := h.kv cs t e
    obtain ⟨c2, e2, s2, d2⟩ := k.kv c1 t e1
    exact ⟨c2, e2, s2.trans s1, fun x => d2 (d1 x)⟩
theorem Gz.far (h : Gz q v C E a b) {g : Nat} {o : Obj} (hg : a.heap[g]? = some o) (hn : g ≠ q ∧ g ≠ v) : b.heap[g]? = some o := (h.st.block g (heap_lt hg) (fun x => x.elim hn.1 hn.2)).trans hg
theorem Gz.setQ {old : Array Value} {t : TypeId} (hg : a.heap[q]? = some (.cells old t (0, 0))) (hs : old.size = C.size) (hne : v ≠ q) : Gz q v C E a (a.setRow q C) := by
  refine ⟨Stays.setRow _ _ _ _ (.inl rfl), fun cs u e => ?_, fun cs u e => ⟨cs, (setRow_other a q v _ hne).trans e, rfl, id⟩⟩
  rw [hg] at e
  injection e with e
  injection e with e1 e2
  subst e1 e2
  exact ⟨C, setRow_heap a q _ _ _ _ hg, hs.symm, fun _ => rfl⟩
theorem Gz.setV {old : Array Value} {t : TypeId} (hg : a.heap[v]? = some (.cells old t (0, 0))) (hs : old.size = E.size) (hne : v ≠ q) : Gz q v C E a (a.setRow v E) := by
  refine ⟨Stays.setRow _ _ _ _ (.inr rfl), fun cs u e => ⟨cs, (setRow_other a v q _ (fun x => hne x.symm)).trans e, rfl, id⟩, fun cs u e => ?_⟩
  rw [hg] at e
  injection e with e
  injection e with e1 e2
  subst e1 e2
  exact ⟨E, setRow_heap a v _ _ _ _ hg, hs.symm, fun _ => rfl⟩
end
/-- A relation that stays true as the world turns so. -/
structure Rz (q v : Nat) (C E : Array Value) where
  R : World → Value → Prop
  mono : ∀ {a b : World} {u : Value}, R a u → Gz q v C E a b → R b u
section
variable {q v : Nat} {C E : Array Value}
def Rz.eq (u : Value) : Rz q v C E := ⟨fun _ x => x = u, fun h _ => h⟩
def Rz.any : Rz q v C E := ⟨fun _ _ => True, fun h _ => h⟩
def Rz.doneQ (t : TypeId) : Rz q v C E := ⟨fun w _ => w.heap[q]? = some (.cells C t (0, 0)), fun h g => by
  obtain ⟨cs', e, _, d⟩ := g.kq _ _ h
  rw [d rfl] at e
  exact e⟩
def Rz.doneV (t : TypeId) : Rz q v C E := ⟨fun w _ => w.heap[v]? = some (.cells E t (0, 0)), fun h g => by
  obtain ⟨cs', e, _, d⟩ := g.kv _ _ h
  rw [d rfl] at e
  exact e⟩
def relZ (l : List (Rz q v C E)) (i : Nat) : World → Value → Prop := (l.getD i Rz.any).R
end
def StpZ (P : Program) (q v : Nat) (C E : Array Value) (ops : Array Oper) (a : Act) (W : World) (l : List (Rz q v C E)) (i : Nat) (o : Oper) : Prop :=
  ∀ (f : Nat → Value) (w : World), Gz q v C E W w → (∀ t, writes ops t = false → f t = a.tmps.getD t undef) →
      (∀ j d, depOn ops i j = true → dstOf ops j = some d → relZ l j w (f d)) → if Region.wanted o (yieldedF ops f) = true then Gives P o f w (fun u w'' => Gz q v C E w w'' ∧ relZ l i w'' u) else relZ l i w undef
theorem wp_region_rz {P : Program} (q v : Nat) (C E : Array Value) (n : Nat) (l : List (Rz q v C E)) (ws : List Nat) {id : Nat} {os : List Oper} {Q : Exit → Act → World → Prop} {a : Act} {w : World} (hm : P.follows .mixedOrders = true) (hn : a.tmps.size = n) (hok : slotsOk os.toArray n = true) (hws : allIn os.toArray ws = true)
    (steps : AllFrom (StpZ P q v C E os.toArray a w.drew l) 0 os)
    (fin : ∀ (f : Nat → Value) (w' : World), Gz q v C E w.drew w' → (∀ j d, dstOf os.toArray j = some d → relZ l j w' (f d)) → (∀ j, j < os.toArray.size → dstOf os.toArray j = none → ∃ u, relZ l j w' u) → Q .normal ⟨putAll f ws a.tmps, a.defers⟩ w') :
    (Code.region id os.toArray true).wp P Q a w := by
  refine wp_region_rel2 n hm hn hok (Gz q v C E) (relZ l) Gz.refl Gz.trans (fun j _ _ _ h g => (l.getD j Rz.any).mono h g) (fun i o ho => ?_) (fun f w' g hF hD h0 => ?_)
  · have := AllFrom.out os 0 steps i o (by simpa using ho)
    rw [Nat.zero_add] at this
    exact this
  · have e : ((List.range n).map f).toArray = putAll f ws a.tmps := by
      apply Array.ext
      · rw [putAll_size, hn]; simp
      · intro t h1 h2
        have ht : t < n := by simpa using h1
        have h3 := putAll_get f ws a.tmps t (by rw [hn]; exact ht) (by
          by_cases hw : writes os.toArray t = true
          · left
            obtain ⟨j, hj, hd⟩ := List.any_eq_true.1 hw
            have hd := beq_iff_eq.1 hd
            have := List.all_eq_true.1 hws j hj
            rw [hd] at this
            simpa using this
          · right
            exact (hF t (by simpa using hw)).symm)
        have h4 : (putAll f ws a.tmps)[t] = f t := by
          rw [← h3]; simp [h2]
        rw [h4]; simp
    rw [e]
    exact fin f w' g hD h0
end Go.Proofs.YtndjggabdajbfaaGreatDoor


