/- Parts one behind the other: What the reference's reader does: Var, Take, Text, End; What the reference's reader does: Var; What the reference's reader does: Text; Events as plain data: which may be; Events read: the plain functions; Events in memory: rows of five cells each, with their texts; which blocks they lie in; what stays; Events read: how many there are at most; What keys.May and the reference's May answer: whether an event may be; What keys.numbers.put and the reference's lay answer: a number in a version's way; and which event may not be; The bytes of a batch of events, in plain words. Conditions: as told at each. -/
import Derived.Test.YtgnciejbhaebeaaPKeysBack1
import Derived.Laws.OwnMore

/- What the reference's reader does: Var, Take, Text, End. Conditions: lengths that fit. -/
namespace Go.Proofs.Ytgnciejbhaebeaa
open Go Go.RowKit

theorem heap2_old (w : World) (a b : Obj) : ((w.alloc a).alloc b).heap[w.heap.size]? = some a := (Below.heap_alloc _ _ w.heap.size (by simp)).trans (heap_alloc_new w _)
theorem heap2_new (w : World) (a b : Obj) : ((w.alloc a).alloc b).heap[w.heap.size + 1]? = some b := by
  have h := heap_alloc_new (w.alloc a) b
  rwa [World.size_alloc] at h

/-- What is known of a box of three cells. -/
theorem box3 {w : World} {g : Nat} {x y z : Value} {t : TypeId} (h : w.heap[g]? = some (.cells #[x, y, z] t (0, 0))) :
    (w.cell? ⟨g, 0, none⟩ = some x ∧ w.cell? ⟨g, 1, none⟩ = some y ∧ w.cell? ⟨g, 2, none⟩ = some z) ∧ w.frozen? ⟨g, 0, none⟩ = false ∧ w.frozen? ⟨g, 1, none⟩ = false ∧ w.frozen? ⟨g, 2, none⟩ = false :=
  ⟨⟨by rw [heap_cell h]; rfl, by rw [heap_cell h]; rfl, by rw [heap_cell h]; rfl⟩, heap_free h _, heap_free h _, heap_free h _⟩

set_option maxRecDepth 100000 in
set_option maxHeartbeats 400000 in
theorem refTake_c (A : Option Addr) (c : Nat) (s : RS) (n : Int) (w : World) (h : RsOk w A c s) (hs : (Lit.int .i64 n).wf = true) :
    Calls Try.prog 96 #[rsV A c s, .int .i64 n] w fun e w' => ∃ v, e = .returned (.tuple #[v, rsV A c (takeR s n).2]) ∧ OwnB w' w.heap.size v (takeR s n).1 ∧ Below w.heap.size w w' := by
  obtain ⟨h1, h2, h3, h4, h5⟩ := h
  by_cases h0 : s.err = 0
  · have hb : (((s.err : Nat) : Int) != 0) = false := by rw [bne_eq_false_iff_eq]; omega
    rcases Int.lt_or_le n 0 with k1 | k1
    · have e1 : takeR s n = ([], { s with err := 1 }) := by rw [takeR, if_neg (by omega), if_pos k1]
      rw [e1]
      clear e1
      have H0 := Lib.hid h0; clear h0
      unfold rsV
      go_enter Try.func96, Try.ntmps96
      go_wp2
      go_region
      all_goals
        go_wp2
        go_returns
        exact ⟨_, rfl, Own.nil_ _ _ _, by go_grown⟩
    · obtain ⟨m, rfl⟩ := Int.eq_ofNat_of_zero_le k1
      by_cases hsh : (s.b.length : Int) - (s.at_ : Int) < (m : Int)
      · have e1 : takeR s m = ([], { s with err := 2 }) := by rw [takeR, if_neg (by omega), if_neg (by omega), if_pos hsh]
        rw [e1]
        clear e1
        have H0 := Lib.hid h0; clear h0
        unfold rsV
        go_enter Try.func96, Try.ntmps96
        go_wp2
        go_region
        all_goals
          go_wp2
          go_returns
          exact ⟨_, rfl, Own.nil_ _ _ _, by go_grown⟩
      · have e1 : takeR s m = ((s.b.drop s.at_).take m, { s with at_ := s.at_ + m }) := by rw [takeR, if_neg (by omega), if_neg (by omega), if_neg hsh]; rfl
        have hsh' : (m : Int) ≤ (s.b.length : Int) - (s.at_ : Int) := by omega
        have hlen : ((s.b.drop s.at_).take m).length = m := by rw [List.length_take, List.length_drop]; omega
        have HLEN := Lib.hid hlen; clear hlen
        have hcut := (h1.cut (by rw [List.length_map]) h4 h2).take m
        rw [← List.map_drop, ← List.map_take] at hcut
        have hw2 : (s.at_ : Int) + (m : Int) ≤ (c : Int) := by omega
        rw [e1]
        clear e1 hsh
        have H0 := Lib.hid h0; clear h0
        unfold rsV
        by_cases hc : c = s.at_
        · subst hc
          obtain rfl : m = 0 := by omega
          rw [if_pos rfl] at hcut
          have HCUT := Lib.hid hcut; clear hcut
          go_enter Try.func96, Try.ntmps96
          go_wp2_with (fail)
          refine (Copy_c _ _ _ ((s.b.drop s.at_).take 0) _ HLEN.out ((HCUT.out.alloc _).alloc _) (by omega)).mono ?_
          rintro e w1 ⟨v, rfl, ho, hb1⟩
          have z := hb1.size
          simp only [World.size_alloc] at z hb1 ho
          have x0 := box3 ((hb1.block w.heap.size (by omega)).trans (heap2_old w _ _))
          have x1 := box3 ((hb1.block (w.heap.size + 1) (by omega)).trans (heap2_new w _ _))
          obtain ⟨⟨a0, a1, a2⟩, b0, b1, b2⟩ := x0
          obtain ⟨⟨d0, d1, d2⟩, f0, f1, f2⟩ := x1
          have hB : Below w.heap.size w w1 := (((Below.refl _ _).alloc (Nat.le_refl _) _).alloc (by simp) _).trans (hb1.mono (by omega))
          have HO := Lib.hid ho; clear ho
          go_wp2_with (fail)
          go_region
          all_goals
            go_wp2
            refine bodyPost_ret (v := .tuple #[v, .agg #[.slice A s.b.length s.at_, .int .i64 ((s.at_ : Int) + ((0 : Nat) : Int)), .int .i64 (s.err : Int)]]) (by simp [results, Try.results96, go_sem, d0, d1, d2]) rfl ?_
            refine ⟨v, by simp only [Int.natCast_add], ?_, ?_⟩
            · exact Own.low (Own.drewN (Own.setBelow (Own.setBelow (Own.setBelow (Own.setBelow HO.out (by show w.heap.size < _; omega) _) (by show w.heap.size + 1 < _; omega) _) (by show w.heap.size + 1 < _; omega) _) (by show w.heap.size + 1 < _; omega) _) 1) (by omega)
            · exact ((((hB.setCell (by simp) _).setCell (by simp) _).setCell (by simp) _).setCell (by simp) _).drew
        · rw [if_neg hc] at hcut
          have HCUT := Lib.hid hcut; clear hcut
          go_enter Try.func96, Try.ntmps96
          go_wp2_with (fail)
          refine (Copy_c _ _ _ ((s.b.drop s.at_).take m) _ HLEN.out ((HCUT.out.alloc _).alloc _) (by omega)).mono ?_
          rintro e w1 ⟨v, rfl, ho, hb1⟩
          have z := hb1.size
          simp only [World.size_alloc] at z hb1 ho
          have x0 := box3 ((hb1.block w.heap.size (by omega)).trans (heap2_old w _ _))
          have x1 := box3 ((hb1.block (w.heap.size + 1) (by omega)).trans (heap2_new w _ _))
          obtain ⟨⟨a0, a1, a2⟩, b0, b1, b2⟩ := x0
          obtain ⟨⟨d0, d1, d2⟩, f0, f1, f2⟩ := x1
          have hB : Below w.heap.size w w1 := (((Below.refl _ _).alloc (Nat.le_refl _) _).alloc (by simp) _).trans (hb1.mono (by omega))
          have HO := Lib.hid ho; clear ho
          go_wp2_with (fail)
          go_region
          all_goals
            go_wp2
            refine bodyPost_ret (v := .tuple #[v, .agg #[.slice A s.b.length c, .int .i64 ((s.at_ : Int) + ((m : Nat) : Int)), .int .i64 (s.err : Int)]]) (by simp [results, Try.results96, go_sem, d0, d1, d2]) rfl ?_
            refine ⟨v, by simp only [Int.natCast_add], ?_, ?_⟩
            · exact Own.low (Own.drewN (Own.setBelow (Own.setBelow (Own.setBelow (Own.setBelow HO.out (by show w.heap.size < _; omega) _) (by show w.heap.size + 1 < _; omega) _) (by show w.heap.size + 1 < _; omega) _) (by show w.heap.size + 1 < _; omega) _) 1) (by omega)
            · exact ((((hB.setCell (by simp) _).setCell (by simp) _).setCell (by simp) _).setCell (by simp) _).drew
  · have hb : (((s.err : Nat) : Int) != 0) = true := by rw [bne_iff_ne]; omega
    have e1 : takeR s n = ([], s) := if_pos h0
    rw [e1]
    clear e1
    have H0 := Lib.hid h0; clear h0
    unfold rsV
    go_enter Try.func96, Try.ntmps96
    go_wp2
    go_region
    all_goals
      go_wp2
      go_returns
      exact ⟨_, rfl, Own.nil_ _ _ _, by go_grown⟩
end Go.Proofs.Ytgnciejbhaebeaa

/- What the reference's reader does: Var. Conditions: lengths that fit. -/
namespace Go.Proofs.Ytgnciejbhaebeaa
open Go Go.RowKit

theorem valL_step {l : List UInt8} {j k : Nat} (hj : j < k) (hk : k ≤ l.length) : valL ((l.take k).drop j) = (l[j]'(by omega)).toNat % 128 + 128 * valL ((l.take k).drop (j + 1)) := by
  rw [List.drop_eq_getElem_cons (by rw [List.length_take]; omega), valL]
  simp

set_option maxRecDepth 100000 in
set_option maxHeartbeats 1000000 in
theorem refVarR_c (A : Option Addr) (c : Nat) (s : RS) (w : World) (h : RsOk w A c s) :
    Calls Try.prog 90 #[rsV A c s] w fun e w' => e = .returned (.tuple #[.int .u64 ((varR s).1 : Int), rsV A c (varR s).2]) ∧ Below w.heap.size w w' := by
  obtain ⟨h1, h2, h3, h4, h5⟩ := h
  by_cases h0 : s.err = 0
  · have hb : (((s.err : Nat) : Int) != 0) = false := by rw [bne_eq_false_iff_eq]; omega
    obtain ⟨l, el⟩ : ∃ l, l = s.b.drop s.at_ := ⟨_, rfl⟩
    have e1 : varR s = match varGo l 0 with
      | .bad e => (0, { s with err := e })
      | .ok n k => (n, { s with at_ := s.at_ + k }) := by rw [varR, if_neg (by omega), el]; rfl
    have hll : l.length + s.at_ = s.b.length := by rw [el, List.length_drop]; omega
    have hcell : ∀ i (hi : i < l.length), ∃ b off, A = some ⟨b, off, none⟩ ∧ b < w.heap.size ∧ w.cell? ⟨b, off + (s.at_ + i), none⟩ = some (.int .u8 ((l[i]).toNat : Int)) := by
      intro i hi
      obtain ⟨b, off, hA, hlt, hc⟩ := h1.addrB (by omega)
      refine ⟨b, off, hA, hlt, ?_⟩
      rw [hc (s.at_ + i) (by omega)]
      subst el
      simp [bv]
    have HC := Lib.hid hcell; clear hcell
    have H0 := Lib.hid h0; clear h0
    clear el h1
    obtain ⟨R, hR⟩ : ∃ R, R = varR s := ⟨_, rfl⟩
    rw [← hR]
    rw [← hR] at e1
    have H1 := Lib.hid e1; clear e1 hR
    unfold rsV
    go_enter Try.func90, Try.ntmps90
    go_wp2
    go_loop [4] (fun i => ∃ (k : Nat), k ≤ 9 ∧ k ≤ l.length ∧ i = .int .i64 k ∧ varGo l 0 = (varGo (l.drop k) k).after (valL (l.take k)) k) (fun i => 10 - (intOf i).toNat)
    case atStart => exact ⟨0, by omega, by omega, rfl, by rw [List.take_zero, show valL [] = 0 from rfl, VR.after_zero]; rfl⟩
    case round =>
      obtain ⟨k, hk9, hkl, rfl, hv⟩ := hrel
      have HV := Lib.hid hv; clear hv
      rcases Nat.lt_or_ge k l.length with hlt | hge
      · have hu : (s.at_ : Int) + (k : Int) < (s.b.length : Int) := by omega
        obtain ⟨b, off, rfl, hbl, hc⟩ := HC.out k hlt
        obtain ⟨d, ed⟩ : ∃ d, d = (l[k]).toNat := ⟨_, rfl⟩
        have hd : d < 256 := by rw [ed]; exact UInt8.toNat_lt _
        rw [← ed] at hc
        have ED := Lib.hid ed; clear ed
        by_cases hbad : badD k d
        · have hv3 : R = (0, { s with err := 3 }) := by rw [H1.out, HV.out, varGo_form' hlt ED.out _ hbad]
          have HV3 := Lib.hid hv3; clear hv3
          rcases hbad with ⟨h9, k1⟩ | ⟨h9, k1⟩
          · have hb9 : (((k : Nat) : Int) == 9) = true := by rw [beq_iff_eq]; omega
            have H9 := Lib.hid h9; clear h9
            go_wp2
            go_region
            all_goals
              go_wp2
              go_returns
              rw [HV3.out]
              exact ⟨rfl, by go_grown⟩
          · have hb9 : (((d : Nat) : Int) == 0) = true := by rw [beq_iff_eq]; omega
            have hb8 : decide ((1 : Int) < (d : Int)) = false := decide_eq_false (by omega)
            have HD1 := Lib.hid k1; clear k1
            go_wp2
            all_goals
              go_region
              all_goals
                go_wp2
                go_returns
                rw [HV3.out]
                exact ⟨rfl, by go_grown⟩
        · have hb1 : ¬ (k = 9 ∧ 1 < d) := fun h => hbad (.inl h)
          have hb2 : ¬ (0 < k ∧ d = 0) := fun h => hbad (.inr h)
          have HB := Lib.hid hbad; clear hbad
          have htk : valL (l.take (k + 1)) = valL (l.take k) + 128 ^ k * (d % 128) := by
            rw [List.take_succ_eq_append_getElem hlt, valL_snoc, List.length_take, Nat.min_eq_left hkl, ← ED.out]
          have HTK := Lib.hid htk; clear htk
          rcases Nat.lt_or_ge d 128 with h8 | h8
          · have hv3 : varGo l 0 = .ok (valL (l.take (k + 1))) (k + 1) := by rw [HV.out, varGo_last' hlt ED.out _ HB.out h8, HTK.out]
            obtain ⟨hu64, hk1, _⟩ := varGo_u64 hv3
            have hv4 : R = (valL (l.take (k + 1)), { s with at_ := s.at_ + (k + 1) }) := by rw [H1.out, hv3]
            have HV4 := Lib.hid hv4; clear hv4 hv3
            have hcase : (k = 9 ∧ (((k : Nat) : Int) == 9) = true ∧ decide ((1 : Int) < (d : Int)) = false ∧ (((d : Nat) : Int) == 0) = false) ∨ ((((k : Nat) : Int) == 9) = false ∧ ¬ 0 < k) ∨ ((((k : Nat) : Int) == 9) = false ∧ (((d : Nat) : Int) == 0) = false) := by
              by_cases h9 : k = 9
              · exact .inl ⟨h9, by rw [beq_iff_eq]; omega, decide_eq_false (by omega), by rw [beq_eq_false_iff_ne]; omega⟩
              · refine .inr ?_
                by_cases h0k : 0 < k
                · exact .inr ⟨by rw [beq_eq_false_iff_ne]; omega, by rw [beq_eq_false_iff_ne]; omega⟩
                · exact .inl ⟨by rw [beq_eq_false_iff_ne]; omega, h0k⟩
            clear hb1 hb2
            have hstep : ∀ j, j < k + 1 → ∃ e : Nat, e < 256 ∧ w.cell? ⟨b, off + (s.at_ + j), none⟩ = some (.int .u8 (e : Int)) ∧ valL ((l.take (k + 1)).drop j) = e % 128 + 128 * valL ((l.take (k + 1)).drop (j + 1)) ∧ U64 (valL ((l.take (k + 1)).drop j)) := by
              intro j hj
              obtain ⟨b', off', hA, _, hc'⟩ := HC.out j (by omega)
              injection hA with hA
              injection hA with hA1 hA2
              subst hA1; subst hA2
              exact ⟨(l[j]).toNat, UInt8.toNat_lt _, hc', valL_step hj hk1, hu64.le (valL_drop_le _ _)⟩
            have HSTEP := Lib.hid hstep; clear hstep
            have hend : valL ((l.take (k + 1)).drop (k + 1)) = 0 := by rw [List.drop_of_length_le (by rw [List.length_take]; omega)]; rfl
            have HEND := Lib.hid hend; clear hend
            rcases hcase with ⟨h9, c1, c2, c3⟩ | ⟨c1, c2⟩ | ⟨c1, c2⟩
            · have hk0 : 0 < k := by omega
              have H9 := Lib.hid h9; clear h9
              go_wp2
              all_goals
                go_loop [6, 7] (fun x i => ∃ j : Nat, j ≤ k + 1 ∧ i = .int .i64 ((j : Int) - 1) ∧ x = .int .u64 ((valL ((l.take (k + 1)).drop j) : Nat) : Int)) (fun x i => (intOf i + 1).toNat)
                case atStart => exact ⟨k + 1, Nat.le_refl _, by go_num, by rw [HEND.out]; rfl⟩
                case round =>
                  obtain ⟨j, hj, rfl, rfl⟩ := hrel
                  rcases Nat.eq_zero_or_pos j with hj0 | hj0
                  · subst hj0
                    go_wp2
                    go_region
                    all_goals
                      go_wp2
                      go_returns
                      rw [HV4.out]
                      refine ⟨?_, by go_grown⟩
                      simp only [rsV, List.drop_zero, Int.natCast_add]
                      rfl
                  · obtain ⟨i, rfl⟩ : ∃ i, j = i + 1 := ⟨j - 1, by omega⟩
                    obtain ⟨e, he, hce, hve, hue⟩ := HSTEP.out i (by omega)
                    obtain ⟨v, hv⟩ : ∃ v, v = valL ((l.take (k + 1)).drop (i + 1)) := ⟨_, rfl⟩
                    rw [← hv] at hve ⊢
                    have hvu := hue.out
                    have hw1 : IntKind.u64.wrap ((v : Int) * 128) = (v : Int) * 128 := IntWalk.u64_in _ ⟨by omega, by omega⟩
                    have hw2 : IntKind.u64.wrap ((v : Int) * 128 + (e : Int) % 128) = (v : Int) * 128 + (e : Int) % 128 := IntWalk.u64_in _ ⟨by omega, by omega⟩
                    have hsi : (s.at_ : Int) + (i : Int) < (s.b.length : Int) := by omega
                    have HVE := Lib.hid hve; clear hve hvu hue
                    have HV2 := Lib.hid hv; clear hv
                    go_wp2
                    go_round
                    case rel => exact ⟨i, by omega, by go_num, by rw [HVE.out]; go_num⟩
                    case measure => simp [intOf]
            · go_wp2
              all_goals
                go_loop [6, 7] (fun x i => ∃ j : Nat, j ≤ k + 1 ∧ i = .int .i64 ((j : Int) - 1) ∧ x = .int .u64 ((valL ((l.take (k + 1)).drop j) : Nat) : Int)) (fun x i => (intOf i + 1).toNat)
                case atStart => exact ⟨k + 1, Nat.le_refl _, by go_num, by rw [HEND.out]; rfl⟩
                case round =>
                  obtain ⟨j, hj, rfl, rfl⟩ := hrel
                  rcases Nat.eq_zero_or_pos j with hj0 | hj0
                  · subst hj0
                    go_wp2
                    go_region
                    all_goals
                      go_wp2
                      go_returns
                      rw [HV4.out]
                      refine ⟨?_, by go_grown⟩
                      simp only [rsV, List.drop_zero, Int.natCast_add]
                      rfl
                  · obtain ⟨i, rfl⟩ : ∃ i, j = i + 1 := ⟨j - 1, by omega⟩
                    obtain ⟨e, he, hce, hve, hue⟩ := HSTEP.out i (by omega)
                    obtain ⟨v, hv⟩ : ∃ v, v = valL ((l.take (k + 1)).drop (i + 1)) := ⟨_, rfl⟩
                    rw [← hv] at hve ⊢
                    have hvu := hue.out
                    have hw1 : IntKind.u64.wrap ((v : Int) * 128) = (v : Int) * 128 := IntWalk.u64_in _ ⟨by omega, by omega⟩
                    have hw2 : IntKind.u64.wrap ((v : Int) * 128 + (e : Int) % 128) = (v : Int) * 128 + (e : Int) % 128 := IntWalk.u64_in _ ⟨by omega, by omega⟩
                    have hsi : (s.at_ : Int) + (i : Int) < (s.b.length : Int) := by omega
                    have HVE := Lib.hid hve; clear hve hvu hue
                    have HV2 := Lib.hid hv; clear hv
                    go_wp2
                    go_round
                    case rel => exact ⟨i, by omega, by go_num, by rw [HVE.out]; go_num⟩
                    case measure => simp [intOf]
            · go_wp2
              all_goals
                go_loop [6, 7] (fun x i => ∃ j : Nat, j ≤ k + 1 ∧ i = .int .i64 ((j : Int) - 1) ∧ x = .int .u64 ((valL ((l.take (k + 1)).drop j) : Nat) : Int)) (fun x i => (intOf i + 1).toNat)
                case atStart => exact ⟨k + 1, Nat.le_refl _, by go_num, by rw [HEND.out]; rfl⟩
                case round =>
                  obtain ⟨j, hj, rfl, rfl⟩ := hrel
                  rcases Nat.eq_zero_or_pos j with hj0 | hj0
                  · subst hj0
                    go_wp2
                    go_region
                    all_goals
                      go_wp2
                      go_returns
                      rw [HV4.out]
                      refine ⟨?_, by go_grown⟩
                      simp only [rsV, List.drop_zero, Int.natCast_add]
                      rfl
                  · obtain ⟨i, rfl⟩ : ∃ i, j = i + 1 := ⟨j - 1, by omega⟩
                    obtain ⟨e, he, hce, hve, hue⟩ := HSTEP.out i (by omega)
                    obtain ⟨v, hv⟩ : ∃ v, v = valL ((l.take (k + 1)).drop (i + 1)) := ⟨_, rfl⟩
                    rw [← hv] at hve ⊢
                    have hvu := hue.out
                    have hw1 : IntKind.u64.wrap ((v : Int) * 128) = (v : Int) * 128 := IntWalk.u64_in _ ⟨by omega, by omega⟩
                    have hw2 : IntKind.u64.wrap ((v : Int) * 128 + (e : Int) % 128) = (v : Int) * 128 + (e : Int) % 128 := IntWalk.u64_in _ ⟨by omega, by omega⟩
                    have hsi : (s.at_ : Int) + (i : Int) < (s.b.length : Int) := by omega
                    have HVE := Lib.hid hve; clear hve hvu hue
                    have HV2 := Lib.hid hv; clear hv
                    go_wp2
                    go_round
                    case rel => exact ⟨i, by omega, by go_num, by rw [HVE.out]; go_num⟩
                    case measure => simp [intOf]
          · have hk9' : k < 9 := by
              rcases Nat.lt_or_ge k 9 with h | h
              · exact h
              · exact absurd ⟨by omega, by omega⟩ hb1
            have hrel : varGo l 0 = (varGo (l.drop (k + 1)) (k + 1)).after (valL (l.take (k + 1))) (k + 1) := by
              rw [HV.out, varGo_more' hlt ED.out _ HB.out h8, HTK.out]
            have HR := Lib.hid hrel; clear hrel
            have hb9 : (((k : Nat) : Int) == 9) = false := by rw [beq_eq_false_iff_ne]; omega
            have hb0 : (((d : Nat) : Int) == 0) = false := by rw [beq_eq_false_iff_ne]; omega
            clear hb1 hb2
            go_wp2
            all_goals
              go_round
              case rel => exact ⟨k + 1, by omega, by omega, by go_num, HR.out⟩
              case measure => simp [intOf]; omega
      · have hv3 : R = (0, { s with err := 2 }) := by rw [H1.out, HV.out, varGo_end hge]
        have HV3 := Lib.hid hv3; clear hv3
        have hu : (s.b.length : Int) ≤ (s.at_ : Int) + (k : Int) := by omega
        go_wp2
        go_region
        all_goals
          go_wp2
          go_returns
          rw [HV3.out]
          exact ⟨rfl, by go_grown⟩
  · have hb : (((s.err : Nat) : Int) != 0) = true := by rw [bne_iff_ne]; omega
    have e1 : varR s = (0, s) := if_pos h0
    rw [e1]
    clear e1
    have H0 := Lib.hid h0; clear h0
    unfold rsV
    go_enter Try.func90, Try.ntmps90
    go_wp2
    go_region
    all_goals
      go_wp2
      go_returns
      exact ⟨rfl, by go_grown⟩
end Go.Proofs.Ytgnciejbhaebeaa

/- What the reference's reader does: Text. Conditions: lengths that fit. -/
namespace Go.Proofs.Ytgnciejbhaebeaa
open Go Go.RowKit

theorem varR_b (s : RS) : (varR s).2.b = s.b := by
  unfold varR
  split
  · rfl
  · split <;> rfl
theorem varR_at (s : RS) (h : s.at_ ≤ s.b.length) : (varR s).2.at_ ≤ s.b.length := by
  unfold varR
  split
  · exact h
  · split
    · exact h
    · rename_i n k hg
      have := (varGo_u64 hg).2.1
      rw [List.length_drop] at this
      show s.at_ + k ≤ _
      omega

set_option maxRecDepth 100000 in
set_option maxHeartbeats 1000000 in
theorem refText_no (A : Option Addr) (c : Nat) (s s1 : RS) (n : Nat) (most : Int) (E : Nat) (w : World) (h : RsOk w A c s) (hv : varR s = (n, s1)) (hm : (Lit.int .i64 most).wf = true)
    (hE : (s1.err ≠ 0 ∧ E = s1.err) ∨ (s1.err = 0 ∧ most < 0 ∧ E = 4) ∨ (s1.err = 0 ∧ 0 ≤ most ∧ most < (n : Int) ∧ E = 4) ∨ (s1.err = 0 ∧ 0 ≤ most ∧ (n : Int) ≤ most ∧ s1.b.length < s1.at_ + n ∧ E = 2)) :
    Calls Try.prog 91 #[rsV A c s, .int .i64 most] w fun e w' => e = .returned (.tuple #[.slice none 0 0, rsV A c { s with err := E }]) ∧ Below w.heap.size w w' := by
  have h' := h
  obtain ⟨h1, h2, h3, h4, h5⟩ := h
  obtain ⟨hm1, hm2⟩ := bounds_i64 hm
  have hsb : s1.b = s.b := by have := varR_b s; rw [hv] at this; exact this
  have hsa : s1.at_ ≤ s.b.length := by have := varR_at s h4; rw [hv] at this; exact this
  have hV := fun (w : World) (hh : RsOk w A c s) => refVarR_c A c s w hh
  rw [hv] at hV
  unfold rsV at hV
  simp only [hsb] at hV hE
  have HV := Lib.hid hV; clear hV hv
  have hR : ∀ o1 o2, RsOk ((w.alloc o1).alloc o2) A c s := fun o1 o2 => ⟨(h1.alloc o1).alloc o2, h2, h3, h4, h5⟩
  have HR := Lib.hid hR; clear hR h' h1
  have HSB := Lib.hid hsb; clear hsb
  unfold rsV
  rcases hE with ⟨he, rfl⟩ | ⟨he, hl, rfl⟩ | ⟨he, hl0, hl, rfl⟩ | ⟨he, hl0, hl1, hl, rfl⟩
  · have e0 : (((s1.err : Nat) : Int) != 0) = true := by rw [bne_iff_ne]; omega
    clear he
    go_enter Try.func91, Try.ntmps91
    go_wp2_with (fail)
    refine (HV.out _ (HR.out _ _)).mono ?_
    rintro e w1 ⟨rfl, hb1⟩
    have z := hb1.size
    simp only [World.size_alloc] at z hb1
    have x0 := box3 ((hb1.block w.heap.size (by omega)).trans (heap2_old w _ _))
    have x1 := box3 ((hb1.block (w.heap.size + 1) (by omega)).trans (heap2_new w _ _))
    obtain ⟨⟨a0, a1, a2⟩, b0, b1, b2⟩ := x0
    obtain ⟨⟨d0, d1, d2⟩, f0, f1, f2⟩ := x1
    have hB : Below w.heap.size w w1 := (((Below.refl _ _).alloc (Nat.le_refl _) _).alloc (by simp) _).trans (hb1.mono (by omega))
    have z1 : w.heap.size < w1.heap.size := by omega
    have z2 : w.heap.size + 1 < w1.heap.size := by omega
    have hsub := IntWalk.u64_in ((s.b.length : Int) - (s1.at_ : Int)) ⟨by omega, by omega⟩
    go_wp2_with (fail)
    go_region
    all_goals
      go_wp2
      refine bodyPost_ret (v := .tuple #[.slice none 0 0, .agg #[.slice A s.b.length c, .int .i64 (s.at_ : Int), .int .i64 (s1.err : Int)]]) (by simp [results, Try.results91, go_sem, d0, d1, d2, z1, z2]) rfl ?_
      exact ⟨rfl, by go_grown⟩
  · have e0 : (((s1.err : Nat) : Int) != 0) = false := by rw [bne_eq_false_iff_eq]; omega
    clear he
    go_enter Try.func91, Try.ntmps91
    go_wp2_with (fail)
    refine (HV.out _ (HR.out _ _)).mono ?_
    rintro e w1 ⟨rfl, hb1⟩
    have z := hb1.size
    simp only [World.size_alloc] at z hb1
    have x0 := box3 ((hb1.block w.heap.size (by omega)).trans (heap2_old w _ _))
    have x1 := box3 ((hb1.block (w.heap.size + 1) (by omega)).trans (heap2_new w _ _))
    obtain ⟨⟨a0, a1, a2⟩, b0, b1, b2⟩ := x0
    obtain ⟨⟨d0, d1, d2⟩, f0, f1, f2⟩ := x1
    have hB : Below w.heap.size w w1 := (((Below.refl _ _).alloc (Nat.le_refl _) _).alloc (by simp) _).trans (hb1.mono (by omega))
    have z1 : w.heap.size < w1.heap.size := by omega
    have z2 : w.heap.size + 1 < w1.heap.size := by omega
    have hsub := IntWalk.u64_in ((s.b.length : Int) - (s1.at_ : Int)) ⟨by omega, by omega⟩
    go_wp2_with (fail)
    go_region
    all_goals
      go_wp2
      refine bodyPost_ret (v := .tuple #[.slice none 0 0, .agg #[.slice A s.b.length c, .int .i64 (s.at_ : Int), .int .i64 (4 : Int)]]) (by simp [results, Try.results91, go_sem, d0, d1, d2, z1, z2]) rfl ?_
      exact ⟨rfl, by go_grown⟩
  · have e0 : (((s1.err : Nat) : Int) != 0) = false := by rw [bne_eq_false_iff_eq]; omega
    clear he
    go_enter Try.func91, Try.ntmps91
    go_wp2_with (fail)
    refine (HV.out _ (HR.out _ _)).mono ?_
    rintro e w1 ⟨rfl, hb1⟩
    have z := hb1.size
    simp only [World.size_alloc] at z hb1
    have x0 := box3 ((hb1.block w.heap.size (by omega)).trans (heap2_old w _ _))
    have x1 := box3 ((hb1.block (w.heap.size + 1) (by omega)).trans (heap2_new w _ _))
    obtain ⟨⟨a0, a1, a2⟩, b0, b1, b2⟩ := x0
    obtain ⟨⟨d0, d1, d2⟩, f0, f1, f2⟩ := x1
    have hB : Below w.heap.size w w1 := (((Below.refl _ _).alloc (Nat.le_refl _) _).alloc (by simp) _).trans (hb1.mono (by omega))
    have z1 : w.heap.size < w1.heap.size := by omega
    have z2 : w.heap.size + 1 < w1.heap.size := by omega
    have hsub := IntWalk.u64_in ((s.b.length : Int) - (s1.at_ : Int)) ⟨by omega, by omega⟩
    go_wp2_with (fail)
    go_region
    all_goals
      go_wp2
      refine bodyPost_ret (v := .tuple #[.slice none 0 0, .agg #[.slice A s.b.length c, .int .i64 (s.at_ : Int), .int .i64 (4 : Int)]]) (by simp [results, Try.results91, go_sem, d0, d1, d2, z1, z2]) rfl ?_
      exact ⟨rfl, by go_grown⟩
  · have e0 : (((s1.err : Nat) : Int) != 0) = false := by rw [bne_eq_false_iff_eq]; omega
    clear he
    have hl' : (s.b.length : Int) - (s1.at_ : Int) < (n : Int) := by omega
    go_enter Try.func91, Try.ntmps91
    go_wp2_with (fail)
    refine (HV.out _ (HR.out _ _)).mono ?_
    rintro e w1 ⟨rfl, hb1⟩
    have z := hb1.size
    simp only [World.size_alloc] at z hb1
    have x0 := box3 ((hb1.block w.heap.size (by omega)).trans (heap2_old w _ _))
    have x1 := box3 ((hb1.block (w.heap.size + 1) (by omega)).trans (heap2_new w _ _))
    obtain ⟨⟨a0, a1, a2⟩, b0, b1, b2⟩ := x0
    obtain ⟨⟨d0, d1, d2⟩, f0, f1, f2⟩ := x1
    have hB : Below w.heap.size w w1 := (((Below.refl _ _).alloc (Nat.le_refl _) _).alloc (by simp) _).trans (hb1.mono (by omega))
    have z1 : w.heap.size < w1.heap.size := by omega
    have z2 : w.heap.size + 1 < w1.heap.size := by omega
    have hsub := IntWalk.u64_in ((s.b.length : Int) - (s1.at_ : Int)) ⟨by omega, by omega⟩
    go_wp2_with (fail)
    go_region
    all_goals
      go_wp2
      refine bodyPost_ret (v := .tuple #[.slice none 0 0, .agg #[.slice A s.b.length c, .int .i64 (s.at_ : Int), .int .i64 (2 : Int)]]) (by simp [results, Try.results91, go_sem, d0, d1, d2, z1, z2]) rfl ?_
      exact ⟨rfl, by go_grown⟩

set_option maxRecDepth 100000 in
set_option maxHeartbeats 1000000 in
theorem refText_yes (A : Option Addr) (c : Nat) (s s1 : RS) (n : Nat) (most : Int) (w : World) (h : RsOk w A c s) (hv : varR s = (n, s1)) (hm : (Lit.int .i64 most).wf = true)
    (he : s1.err = 0) (hl0 : 0 ≤ most) (hl1 : (n : Int) ≤ most) (hl : s1.at_ + n ≤ s1.b.length) :
    Calls Try.prog 91 #[rsV A c s, .int .i64 most] w fun e w' => ∃ v, e = .returned (.tuple #[v, rsV A c { s1 with at_ := s1.at_ + n }]) ∧ OwnB w' w.heap.size v ((s1.b.drop s1.at_).take n) ∧ Below w.heap.size w w' := by
  obtain ⟨h1, h2, h3, h4, h5⟩ := h
  obtain ⟨hm1, hm2⟩ := bounds_i64 hm
  have hsb : s1.b = s.b := by have := varR_b s; rw [hv] at this; exact this
  have hsa : s1.at_ ≤ s.b.length := by have := varR_at s h4; rw [hv] at this; exact this
  have hV := fun (w : World) (hh : RsOk w A c s) => refVarR_c A c s w hh
  rw [hv] at hV
  have ht : takeR s1 (n : Int) = ((s1.b.drop s1.at_).take n, { s1 with at_ := s1.at_ + n }) := by
    rw [takeR, if_neg (by omega), if_neg (by omega), if_neg (by omega)]; rfl
  have hT := fun (w : World) (hh : RsOk w A c s1) => refTake_c A c s1 (n : Int) w hh (WalkArith.wf_i64 (by omega))
  rw [ht] at hT
  unfold rsV at hV hT
  simp only [hsb] at hV hT hl
  have HV := Lib.hid hV; clear hV hv ht
  have HT := Lib.hid hT; clear hT
  have hR : ∀ o1 o2, RsOk ((w.alloc o1).alloc o2) A c s := fun o1 o2 => ⟨(h1.alloc o1).alloc o2, h2, h3, h4, h5⟩
  have hR1 : ∀ w1, Below w.heap.size w w1 → RsOk w1 A c s1 := fun w1 hb => ⟨by rw [hsb]; exact h1.below hb, by rw [hsb]; exact h2, h3, by rw [hsb]; exact hsa, by rw [hsb]; exact h5⟩
  have HR := Lib.hid hR; clear hR h1
  have HR1 := Lib.hid hR1; clear hR1
  have e0 : (((s1.err : Nat) : Int) != 0) = false := by rw [bne_eq_false_iff_eq]; omega
  have hl' : (n : Int) ≤ (s.b.length : Int) - (s1.at_ : Int) := by omega
  unfold rsV
  simp only [hsb]
  have HSB := Lib.hid hsb; clear hsb he
  go_enter Try.func91, Try.ntmps91
  go_wp2_with (fail)
  refine (HV.out _ (HR.out _ _)).mono ?_
  rintro e w1 ⟨rfl, hb1⟩
  have z := hb1.size
  simp only [World.size_alloc] at z hb1
  have x0 := box3 ((hb1.block w.heap.size (by omega)).trans (heap2_old w _ _))
  obtain ⟨⟨a0, a1, a2⟩, b0, b1, b2⟩ := x0
  have hB : Below w.heap.size w w1 := (((Below.refl _ _).alloc (Nat.le_refl _) _).alloc (by simp) _).trans (hb1.mono (by omega))
  have z1 : w.heap.size < w1.heap.size := by omega
  have z2 : w.heap.size + 1 < w1.heap.size := by omega
  have hsub := IntWalk.u64_in ((s.b.length : Int) - (s1.at_ : Int)) ⟨by omega, by omega⟩
  go_wp2_with (fail)
  have hBa : Below w.heap.size w (w1.alloc (.cells #[.slice A s.b.length c, .int .i64 (s1.at_ : Int), .int .i64 (s1.err : Int)] 142)) := hB.alloc hB.size _
  refine (HT.out _ (HR1.out _ hBa)).mono ?_
  rintro e w2 ⟨v, rfl, ho, hb2⟩
  have y := hb2.size
  simp only [World.size_alloc] at y hb2 ho
  have x1 := box3 ((hb2.block (w.heap.size + 1) (by omega)).trans ((Below.heap_alloc _ _ _ z2).trans ((hb1.block (w.heap.size + 1) (by omega)).trans (heap2_new w _ _))))
  obtain ⟨⟨d0, d1, d2⟩, f0, f1, f2⟩ := x1
  have hB2 : Below w.heap.size w w2 := hBa.trans (hb2.mono (by omega))
  have HO := Lib.hid ho; clear ho
  go_wp2_with (fail)
  refine bodyPost_ret (v := .tuple #[v, .agg #[.slice A s.b.length c, .int .i64 ((s1.at_ + n : Nat) : Int), .int .i64 (s1.err : Int)]]) (by simp [results, Try.results91, go_sem, d0, d1, d2]) rfl ?_
  refine ⟨v, rfl, ?_, by go_grown⟩
  exact Own.low (Own.setBelow (Own.setBelow (Own.setBelow HO.out (by show w.heap.size + 1 < _; omega) _) (by show w.heap.size + 1 < _; omega) _) (by show w.heap.size + 1 < _; omega) _) (by omega)

theorem refTextR_c (A : Option Addr) (c : Nat) (s : RS) (most : Int) (w : World) (h : RsOk w A c s) (hm : (Lit.int .i64 most).wf = true) :
    Calls Try.prog 91 #[rsV A c s, .int .i64 most] w fun e w' => ∃ v, e = .returned (.tuple #[v, rsV A c (textR s most).2]) ∧ OwnB w' w.heap.size v (textR s most).1 ∧ Below w.heap.size w w' := by
  by_cases h0 : s.err = 0
  · cases hg : varGo (s.b.drop s.at_) 0 with
    | bad e =>
      have hv : varR s = (0, { s with err := e }) := by rw [varR, if_neg (by omega), hg]
      have ht : textR s most = ([], { s with err := e }) := by rw [textR, if_neg (by omega), hg]
      rw [ht]
      refine (refText_no A c s _ 0 most e w h hv hm (.inl ⟨by rcases varGo_err hg with rfl | rfl <;> simp, rfl⟩)).mono ?_
      rintro e w' ⟨rfl, h1⟩
      exact ⟨_, rfl, Own.nil_ _ _ _, h1⟩
    | ok n k =>
      have hv : varR s = (n, { s with at_ := s.at_ + k }) := by rw [varR, if_neg (by omega), hg]
      by_cases hl : most < 0 ∨ most < (n : Int)
      · have ht : textR s most = ([], { s with err := 4 }) := by rw [textR, if_neg (by omega), hg]; exact if_pos hl
        rw [ht]
        refine (refText_no A c s _ n most 4 w h hv hm (by
          rcases Int.lt_or_le most 0 with hq | hq
          · exact .inr (.inl ⟨h0, hq, rfl⟩)
          · exact .inr (.inr (.inl ⟨h0, hq, by omega, rfl⟩)))).mono ?_
        rintro e w' ⟨rfl, h1⟩
        exact ⟨_, rfl, Own.nil_ _ _ _, h1⟩
      · by_cases hs : s.b.length < s.at_ + k + n
        · have ht : textR s most = ([], { s with err := 2 }) := by rw [textR, if_neg (by omega), hg]; exact (if_neg hl).trans (if_pos hs)
          rw [ht]
          refine (refText_no A c s _ n most 2 w h hv hm (.inr (.inr (.inr ⟨h0, by omega, by omega, hs, rfl⟩)))).mono ?_
          rintro e w' ⟨rfl, h1⟩
          exact ⟨_, rfl, Own.nil_ _ _ _, h1⟩
        · have ht : textR s most = ((s.b.drop (s.at_ + k)).take n, { s with at_ := s.at_ + k + n }) := by rw [textR, if_neg (by omega), hg]; exact (if_neg hl).trans (if_neg hs)
          rw [ht]
          exact refText_yes A c s _ n most w h hv hm h0 (by omega) (by omega) (by show s.at_ + k + n ≤ s.b.length; omega)
  · have hv : varR s = (0, s) := if_pos h0
    have ht : textR s most = ([], s) := if_pos h0
    rw [ht]
    refine (refText_no A c s s 0 most s.err w h hv hm (.inl ⟨h0, rfl⟩)).mono ?_
    rintro e w' ⟨rfl, h1⟩
    exact ⟨_, rfl, Own.nil_ _ _ _, h1⟩
end Go.Proofs.Ytgnciejbhaebeaa

/- Events as plain data: which may be. Conditions: none. -/
namespace Go.Proofs.Ytgnciejbhaebeaa
open Go Go.RowKit

/-- An event. -/
structure Ev where
  k : Int
  t : List UInt8
  x : Int
  y : Int
  b : Int
deriving DecidableEq
def mayP (k x y b : Int) (n : Nat) : Prop :=
  (k = 1 ∧ x = 0 ∧ y = 0 ∧ b = 0 ∧ 1 ≤ n ∧ n ≤ 8) ∨ (k = 2 ∧ x = 0 ∧ y = 0 ∧ b = 0 ∧ n ≤ 64) ∨
  (k = 3 ∧ n = 0 ∧ 0 ≤ x ∧ x < 80 ∧ 0 ≤ y ∧ y < 24 ∧ 0 ≤ b ∧ b ≤ 255) ∨ (k = 4 ∧ n = 0 ∧ b = 0 ∧ 1 ≤ x ∧ x ≤ 80 ∧ 1 ≤ y ∧ y ≤ 24)
instance (k x y b : Int) (n : Nat) : Decidable (mayP k x y b n) := by unfold mayP; exact inferInstance
def mayB (k x y b : Int) (n : Nat) : Bool := decide (mayP k x y b n)
def Ev.may (e : Ev) : Bool := mayB e.k e.x e.y e.b e.t.length
/-- An event in memory: its five cells. -/
structure EvV where
  k : Int
  A : Option Addr
  n : Nat
  c : Nat
  x : Int
  y : Int
  b : Int
def EvV.cells (e : EvV) : List Value := [.int .i64 e.k, .slice e.A e.n e.c, .int .i64 e.x, .int .i64 e.y, .int .i64 e.b]
end Go.Proofs.Ytgnciejbhaebeaa

/- Events read: the plain functions. Conditions: none. -/
namespace Go.Proofs.Ytgnciejbhaebeaa
open Go Go.RowKit

/-- A number in a version's way. -/
def getR (f : Bool) (s : RS) (size : Int) : Nat × RS := if f then numR s size else varR s
theorem getR_b (f : Bool) (s : RS) (z : Int) : (getR f s z).2.b = s.b ∧ (getR f s z).2.gA = s.gA := by
  unfold getR
  cases f
  · rw [if_neg (by decide)]
    unfold varR
    split
    · exact ⟨rfl, rfl⟩
    · split <;> exact ⟨rfl, rfl⟩
  · rw [if_pos rfl]
    unfold numR
    split
    · exact ⟨rfl, rfl⟩
    · split
      · exact ⟨rfl, rfl⟩
      · split <;> exact ⟨rfl, rfl⟩
theorem getR_at (f : Bool) (s : RS) (z : Int) (h : s.at_ ≤ s.b.length) : (getR f s z).2.at_ ≤ s.b.length := by
  unfold getR
  cases f
  · rw [if_neg (by decide)]
    exact varR_at s h
  · rw [if_pos rfl]
    unfold numR
    split
    · exact h
    · split
      · exact h
      · split
        · exact h
        · show s.at_ + z.toNat ≤ _; omega
theorem getR_u64 (f : Bool) (s : RS) (z : Int) : U64 (getR f s z).1 := by
  have h0 : U64 0 := by unfold U64; omega
  unfold getR
  cases f
  · rw [if_neg (by decide)]
    unfold varR
    split
    · exact h0
    · split
      · exact h0
      · rename_i n k hv
        exact (varGo_u64 hv).1
  · rw [if_pos rfl]
    unfold numR
    split
    · exact h0
    · split
      · exact h0
      · split
        · exact h0
        · refine beN_u64 ?_
          rw [List.length_take]; omega
theorem getR_err {f : Bool} {s : RS} (z : Int) (h : s.err ≠ 0) : getR f s z = (0, s) := by
  unfold getR
  cases f
  · rw [if_neg (by decide), varR, if_pos h]
  · rw [if_pos rfl, numR, if_pos h]
theorem getR_zero {f : Bool} {s : RS} {z : Int} (h : (getR f s z).2.err ≠ 0) : (getR f s z).1 = 0 := by
  unfold getR at h ⊢
  cases f
  · rw [if_neg (by decide)] at h ⊢
    unfold varR at h ⊢
    split
    · rfl
    · rename_i he
      rw [if_neg he] at h
      split
      · rfl
      · rename_i n k hv
        rw [hv] at h
        exact absurd h he
  · rw [if_pos rfl] at h ⊢
    unfold numR at h ⊢
    split
    · rfl
    · rename_i he
      rw [if_neg he] at h
      split
      · rfl
      · rename_i h1
        rw [if_neg h1] at h
        split
        · rfl
        · rename_i h2
          rw [if_neg h2] at h
          exact absurd h he
theorem takeR_b (s : RS) (n : Int) : (takeR s n).2.b = s.b ∧ (takeR s n).2.gA = s.gA := by
  unfold takeR
  split
  · exact ⟨rfl, rfl⟩
  · split
    · exact ⟨rfl, rfl⟩
    · split <;> exact ⟨rfl, rfl⟩
theorem takeR_at (s : RS) (n : Int) (h : s.at_ ≤ s.b.length) : (takeR s n).2.at_ ≤ s.b.length := by
  unfold takeR
  split
  · exact h
  · split
    · exact h
    · split
      · exact h
      · show s.at_ + n.toNat ≤ _; omega
theorem takeR_err {s : RS} (n : Int) (h : s.err ≠ 0) : takeR s n = ([], s) := by rw [takeR, if_pos h]

def ev0 : Ev := ⟨0, [], 0, 0, 0⟩
def mostN (k : Nat) : Nat := if k = 1 then 8 else 64
/-- An event read: the error, the event, the reader behind it. -/
def evR (f : Bool) (s : RS) : Nat × Ev × RS :=
  if (getR f s 1).2.err ≠ 0 then ((getR f s 1).2.err, ev0, (getR f s 1).2)
  else if (getR f s 1).1 < 1 ∨ 4 < (getR f s 1).1 then (3, ev0, (getR f s 1).2)
  else if (getR f s 1).1 < 3 then
    (let b := getR f (getR f s 1).2 1
     if b.2.err ≠ 0 then (b.2.err, ev0, b.2) else if mostN (getR f s 1).1 < b.1 then (3, ev0, b.2)
     else if (takeR b.2 b.1).2.err ≠ 0 then ((takeR b.2 b.1).2.err, ev0, (takeR b.2 b.1).2)
     else if Ev.may ⟨(getR f s 1).1, (takeR b.2 b.1).1, 0, 0, 0⟩ = false then (3, ev0, (takeR b.2 b.1).2)
     else (0, ⟨(getR f s 1).1, (takeR b.2 b.1).1, 0, 0, 0⟩, (takeR b.2 b.1).2))
  else
    (let x := getR f (getR f s 1).2 1
     let y := getR f x.2 1
     let z := if (getR f s 1).1 = 3 then getR f y.2 1 else (0, y.2)
     if z.2.err ≠ 0 then (z.2.err, ev0, z.2) else if 255 < x.1 ∨ 255 < y.1 ∨ 255 < z.1 then (3, ev0, z.2)
     else if Ev.may ⟨(getR f s 1).1, [], x.1, y.1, z.1⟩ = false then (3, ev0, z.2)
     else (0, ⟨(getR f s 1).1, [], x.1, y.1, z.1⟩, z.2))
/-- So many events, one behind the other. -/
def goR (f : Bool) : Nat → RS → List Ev → Nat × List Ev × RS
  | 0, s, acc => (0, acc, s)
  | n + 1, s, acc => if (evR f s).1 ≠ 0 then ((evR f s).1, [], (evR f s).2.2) else goR f n (evR f s).2.2 (acc ++ [(evR f s).2.1])
/-- A batch read: its number, its events, the error. -/
def decR (ver : Int) (bs : List UInt8) (gA : Option Addr) : Nat × List Ev × Nat :=
  if ver < 1 ∨ 3 < ver then (0, [], 1) else
  (let f := decide (ver = 1)
   let a := getR f ⟨bs, 0, 0, gA⟩ 8
   let b := getR f a.2 1
   if b.2.err ≠ 0 then (0, [], b.2.err) else if b.1 = 0 ∨ 16 < b.1 then (0, [], 3)
   else if (goR f b.1 b.2 []).1 ≠ 0 then (0, [], (goR f b.1 b.2 []).1)
   else if (goR f b.1 b.2 []).2.2.at_ < (goR f b.1 b.2 []).2.2.b.length then (0, [], 6)
   else (a.1, (goR f b.1 b.2 []).2.1, 0))
/-- The same reader elsewhere. -/
def RS.at (s : RS) (g : Option Addr) : RS := { s with gA := g }
theorem varR_g (s : RS) (g : Option Addr) : varR (s.at g) = ((varR s).1, (varR s).2.at g) := by
  unfold varR RS.at
  simp only
  split
  · rfl
  · split <;> rfl
theorem numR_g (s : RS) (g : Option Addr) (z : Int) : numR (s.at g) z = ((numR s z).1, (numR s z).2.at g) := by
  unfold numR RS.at
  simp only
  split
  · rfl
  · split
    · rfl
    · split <;> rfl
theorem getR_g (f : Bool) (s : RS) (g : Option Addr) (z : Int) : getR f (s.at g) z = ((getR f s z).1, (getR f s z).2.at g) := by
  unfold getR
  cases f
  · rw [if_neg (by decide), if_neg (by decide)]; exact varR_g s g
  · rw [if_pos rfl, if_pos rfl]; exact numR_g s g z
theorem takeR_g (s : RS) (g : Option Addr) (n : Int) : takeR (s.at g) n = ((takeR s n).1, (takeR s n).2.at g) := by
  unfold takeR RS.at
  simp only
  split
  · rfl
  · split
    · rfl
    · split <;> rfl
theorem at_err (s : RS) (g : Option Addr) : (s.at g).err = s.err := rfl
theorem evR_g (f : Bool) (s : RS) (g : Option Addr) : evR f (s.at g) = ((evR f s).1, (evR f s).2.1, (evR f s).2.2.at g) := by
  unfold evR
  simp only [getR_g, takeR_g, at_err]
  split
  · rfl
  · split
    · rfl
    · split
      · split
        · rfl
        · split
          · rfl
          · split
            · rfl
            · split <;> rfl
      · by_cases h3 : (getR f s 1).1 = 3
        · simp only [if_pos h3, getR_g, at_err]
          split
          · rfl
          · split
            · rfl
            · split <;> rfl
        · simp only [if_neg h3, at_err]
          split
          · rfl
          · split
            · rfl
            · split <;> rfl
theorem goR_g (f : Bool) (g : Option Addr) : ∀ (n : Nat) (s : RS) (acc : List Ev), goR f n (s.at g) acc = ((goR f n s acc).1, (goR f n s acc).2.1, (goR f n s acc).2.2.at g)
  | 0, s, acc => rfl
  | n + 1, s, acc => by
    rw [goR, goR, evR_g]
    simp only
    split
    · rfl
    · exact goR_g f g n _ _
theorem decR_g (ver : Int) (bs : List UInt8) (g g' : Option Addr) : decR ver bs g = decR ver bs g' := by
  have h : ∀ g, decR ver bs g = decR ver bs none := by
    intro g
    unfold decR
    split
    · rfl
    · have e : (⟨bs, 0, 0, g⟩ : RS) = (⟨bs, 0, 0, none⟩ : RS).at g := rfl
      simp only [e, getR_g, goR_g, at_err]
      rfl
  rw [h g, h g']
end Go.Proofs.Ytgnciejbhaebeaa

/- Events in memory: rows of five cells each, with their texts; which blocks they lie in; what stays. Conditions: none. -/
namespace Go.Proofs.Ytgnciejbhaebeaa
open Go Go.RowKit

/-! ### What stays outside a set of blocks -/
structure Keeps (S : Nat → Prop) (w w' : World) : Prop where
  os : w'.os = w.os
  tape : w'.tape = w.tape
  output : w'.output = w.output
  size : w.heap.size ≤ w'.heap.size
  block : ∀ k, k < w.heap.size → ¬ S k → w'.heap[k]? = w.heap[k]?
theorem Keeps.refl (S : Nat → Prop) (w : World) : Keeps S w w := ⟨rfl, rfl, rfl, Nat.le_refl _, fun _ _ _ => rfl⟩
theorem Keeps.trans {S : Nat → Prop} {a b c : World} (h : Keeps S a b) (k : Keeps S b c) : Keeps S a c :=
  ⟨k.os.trans h.os, k.tape.trans h.tape, k.output.trans h.output, Nat.le_trans h.size k.size, fun i hi hs => (k.block i (Nat.lt_of_lt_of_le hi h.size) hs).trans (h.block i hi hs)⟩
theorem Keeps.of_below {B : Nat} {w w' : World} (h : Below B w w') (S : Nat → Prop) (hS : ∀ k, k < w.heap.size → ¬ S k → k < B) : Keeps S w w' :=
  ⟨h.os, h.tape, h.output, h.size, fun k hk hs => h.block k (hS k hk hs)⟩
theorem Keeps.below {B : Nat} {S : Nat → Prop} {w w' : World} (h : Keeps S w w') (hS : ∀ k, k < B → k < w.heap.size ∧ ¬ S k) : Below B w w' :=
  ⟨h.os, h.tape, h.output, h.size, fun k hk => h.block k (hS k hk).1 (hS k hk).2⟩
theorem Keeps.of_grown {r : Option Nat} {w w' : World} (h : w.grownBy w' r) (S : Nat → Prop) (hS : ∀ k, r = some k → S k) : Keeps S w w' :=
  ⟨h.os, h.tape, h.output, h.size, fun k hk hs => h.block k hk (fun e => hs (hS k e.symm))⟩
theorem Keeps.mono {S T : Nat → Prop} {w w' : World} (h : Keeps S w w') (hS : ∀ k, S k → T k) : Keeps T w w' :=
  ⟨h.os, h.tape, h.output, h.size, fun k hk hs => h.block k hk (fun e => hs (hS k e))⟩
theorem Keeps.set (S : Nat → Prop) (w : World) (p : Addr) (u : Value) (h : S p.block) : Keeps S w (w.setCell p u) :=
  ⟨rfl, rfl, rfl, by simp [World.setCell], fun k _ hs => heap_far u (fun e => hs (e ▸ h))⟩
theorem Keeps.drewN {S : Nat → Prop} {w w' : World} (h : Keeps S w w') (n : Nat) : Keeps S w (w'.drewN n) := ⟨h.os, h.tape, h.output, h.size, h.block⟩
theorem Keeps.alloc {S : Nat → Prop} {w w' : World} (h : Keeps S w w') (o : Obj) : Keeps S w (w'.alloc o) :=
  ⟨h.os, h.tape, h.output, Nat.le_trans h.size (by simp), fun k hk hs => (Below.heap_alloc w' o k (Nat.lt_of_lt_of_le hk h.size)).trans (h.block k hk hs)⟩

/-! ### The cells of a row -/
def cellsV (ds : List EvV) : List Value := ds.flatMap EvV.cells
theorem cellsV_cons (d : EvV) (ds : List EvV) : cellsV (d :: ds) = d.cells ++ cellsV ds := rfl
theorem cellsV_append (a b : List EvV) : cellsV (a ++ b) = cellsV a ++ cellsV b := by simp [cellsV]
theorem cellsV_length (ds : List EvV) : (cellsV ds).length = ds.length * 5 := by
  induction ds with
  | nil => rfl
  | cons d ds ih => rw [cellsV_cons, List.length_append, ih]; simp [EvV.cells]; omega
theorem cellsV_get : ∀ (ds : List EvV) (i : Nat) (h : i < ds.length) (j : Nat), j < 5 → (cellsV ds)[i * 5 + j]? = (ds[i].cells)[j]?
  | d :: ds, 0, _, j, hj => by
    rw [cellsV_cons, Nat.zero_mul, Nat.zero_add, List.getElem?_append_left (by simpa [EvV.cells] using hj)]
    rfl
  | d :: ds, i + 1, h, j, hj => by
    rw [cellsV_cons, List.getElem?_append_right (by simp [EvV.cells]; omega)]
    have e : (i + 1) * 5 + j - d.cells.length = i * 5 + j := by simp [EvV.cells]; omega
    rw [e, cellsV_get ds i (by simpa using h) j hj]
    rfl
theorem cellsV_one (ds : List EvV) : ∀ u ∈ cellsV ds, u.oneCell' = true := by
  intro u hu
  obtain ⟨d, _, h⟩ := List.mem_flatMap.1 hu
  simp only [EvV.cells, List.mem_cons, List.not_mem_nil, or_false] at h
  rcases h with rfl | rfl | rfl | rfl | rfl <;> rfl
def EvV.txt (d : EvV) (A : Option Addr) (n c : Nat) : EvV := ⟨d.k, A, n, c, d.x, d.y, d.b⟩
def EvV.x' (d : EvV) (x : Int) : EvV := ⟨d.k, d.A, d.n, d.c, x, d.y, d.b⟩
theorem cellsV_txt : ∀ (ds : List EvV) (i : Nat) (h : i < ds.length) (A : Option Addr) (n c : Nat), (cellsV ds).set (i * 5 + 1) (.slice A n c) = cellsV (ds.set i (ds[i].txt A n c))
  | d :: ds, 0, _, A, n, c => rfl
  | d :: ds, i + 1, h, A, n, c => by
    rw [cellsV_cons, List.set_append_right _ _ (by simp [EvV.cells]; omega)]
    have e : (i + 1) * 5 + 1 - d.cells.length = i * 5 + 1 := by simp [EvV.cells]; omega
    rw [e, cellsV_txt ds i (by simpa using h)]
    rfl
theorem cellsV_x : ∀ (ds : List EvV) (i : Nat) (h : i < ds.length) (x : Int), (cellsV ds).set (i * 5 + 2) (.int .i64 x) = cellsV (ds.set i (ds[i].x' x))
  | d :: ds, 0, _, x => rfl
  | d :: ds, i + 1, h, x => by
    rw [cellsV_cons, List.set_append_right _ _ (by simp [EvV.cells]; omega)]
    have e : (i + 1) * 5 + 2 - d.cells.length = i * 5 + 2 := by simp [EvV.cells]; omega
    rw [e, cellsV_x ds i (by simpa using h)]
    rfl
theorem cellsV_all : ∀ (ds : List EvV) (i : Nat) (_ : i < ds.length) (d' : EvV),
    (((((cellsV ds).set (i * 5) (.int .i64 d'.k)).set (i * 5 + 1) (.slice d'.A d'.n d'.c)).set (i * 5 + 2) (.int .i64 d'.x)).set (i * 5 + 3) (.int .i64 d'.y)).set (i * 5 + 4) (.int .i64 d'.b) = cellsV (ds.set i d')
  | d :: ds, 0, _, d' => rfl
  | d :: ds, i + 1, h, d' => by
    have ih := cellsV_all ds i (by simpa using h) d'
    have e : ∀ j, (i + 1) * 5 + j - d.cells.length = i * 5 + j := by intro j; simp [EvV.cells]; omega
    have e0 : (i + 1) * 5 - d.cells.length = i * 5 := e 0
    rw [cellsV_cons, List.set_append_right _ _ (by simp [EvV.cells]; omega), List.set_append_right _ _ (by simp [EvV.cells]; omega), List.set_append_right _ _ (by simp [EvV.cells]; omega), List.set_append_right _ _ (by simp [EvV.cells]; omega), List.set_append_right _ _ (by simp [EvV.cells]; omega), e0, e 1, e 2, e 3, e 4, ih]
    rfl

/-! ### Texts -/
/-- Bytes to be read, in blocks of a kind. -/
def TxtR (ok : Nat → Prop) (w : World) (A : Option Addr) (n c : Nat) (bs : List UInt8) : Prop :=
  bs.length = n ∧ Rd w A (bs.map bv) ∧ n ≤ c ∧ c ≤ maxLen ∧ (0 < n → ∀ a, A = some a → ok a.block) ∧ n ≤ 140737488355328
/-- Bytes of one's own. -/
def TxtO (ok : Nat → Prop) (w : World) (A : Option Addr) (n c : Nat) (bs : List UInt8) : Prop :=
  bs.length = n ∧ OwnB w 0 (.slice A n c) bs ∧ (∀ a, A = some a → ok a.block) ∧ n ≤ 140737488355328
section
variable {ok ok' : Nat → Prop} {w w' : World} {A : Option Addr} {n c : Nat} {bs : List UInt8}
theorem TxtO.r (h : TxtO ok w A n c bs) : TxtR ok w A n c bs := by
  obtain ⟨h1, h2, h3, h4⟩ := h
  obtain ⟨A', c', e, q1, q2, q3, _⟩ := OwnB.form h2
  injection e with e1 e2 e3
  subst e1 e3 e2
  exact ⟨rfl, q3, q1, q2, fun _ => h3, h4⟩
theorem TxtO.lt (h : TxtO ok w A n c bs) : ∀ a, A = some a → a.block < w.heap.size := by
  intro a e
  subst e
  exact (Own.lt h.2.1 a.block rfl).2
theorem TxtR.frame (h : TxtR ok w A n c bs) (hk : ∀ k, ok k → k < w.heap.size → w'.heap[k]? = w.heap[k]?) (hs : w.heap.size ≤ w'.heap.size) : TxtR ok w' A n c bs := by
  obtain ⟨h1, h2, h3, h4, h5, h6⟩ := h
  refine ⟨h1, ?_, h3, h4, h5, h6⟩
  rcases h2 with h2 | ⟨b, off, rfl, hb, hc⟩
  · exact .inl h2
  · rcases Nat.eq_zero_or_pos n with h0 | h0
    · left
      have : bs = [] := List.eq_nil_of_length_eq_zero (by omega)
      rw [this]; rfl
    · exact Rd.of_blocks (.inr ⟨b, off, rfl, hb, hc⟩) (fun k hk' ⟨o, e⟩ => by
        injection e with e; injection e with e
        subst e
        exact hk b (h5 h0 _ rfl) hk') hs
theorem Own.frameK {B : Nat} {e : TypeId} {s k : Nat} {v : Value} {vs : List Value} (h : w.ownsRow B e s v k vs) (hk : ∀ g, v.ownBlock = some g → w'.heap[g]? = w.heap[g]?) : w'.ownsRow B e s v k vs := by
  refine ⟨h.1, ?_⟩
  rcases h.2 with h2 | ⟨g, cap, cur, rfl, hb, hg, r⟩
  · exact .inl h2
  · exact .inr ⟨g, cap, cur, rfl, hb, (hk g rfl).trans hg, r⟩
theorem TxtO.frame (h : TxtO ok w A n c bs) (hk : ∀ k, ok k → k < w.heap.size → w'.heap[k]? = w.heap[k]?) : TxtO ok w' A n c bs := by
  have hl := h.lt
  obtain ⟨h1, h2, h3, h4⟩ := h
  refine ⟨h1, Own.frameK h2 (fun g e => ?_), h3, h4⟩
  cases A with
  | none => cases e
  | some a =>
    injection e with e
    subst e
    exact hk _ (h3 a rfl) (hl a rfl)
theorem TxtR.weak (h : TxtR ok w A n c bs) (hk : ∀ k, ok k → k < w.heap.size → ok' k) : TxtR ok' w A n c bs := by
  obtain ⟨h1, h2, h3, h4, h5, h6⟩ := h
  refine ⟨h1, h2, h3, h4, fun h0 a e => hk _ (h5 h0 a e) ?_, h6⟩
  rcases h2 with h2 | ⟨b, off, rfl, hb, hc⟩
  · have : bs = [] := by simpa using h2
    subst this
    simp at h1; omega
  · injection e with e; subst e; exact hb
theorem TxtO.weak (h : TxtO ok w A n c bs) (hk : ∀ k, ok k → k < w.heap.size → ok' k) : TxtO ok' w A n c bs :=
  ⟨h.1, h.2.1, fun a e => hk _ (h.2.2.1 a e) (h.lt a e), h.2.2.2⟩
end

/-! ### Events -/
def EvR (ok : Nat → Prop) (w : World) (d : EvV) (e : Ev) : Prop := d.k = e.k ∧ d.x = e.x ∧ d.y = e.y ∧ d.b = e.b ∧ TxtR ok w d.A d.n d.c e.t
def EvO (ok : Nat → Prop) (w : World) (d : EvV) (e : Ev) : Prop := d.k = e.k ∧ d.x = e.x ∧ d.y = e.y ∧ d.b = e.b ∧ TxtO ok w d.A d.n d.c e.t
def OwnV (w : World) (B : Nat) (v : Value) (ds : List EvV) : Prop := w.ownsRow B 36 5 v ds.length (cellsV ds)
/-- Events to be read at an address. -/
structure EvsR (ok : Nat → Prop) (w : World) (A : Option Addr) (ds : List EvV) (es : List Ev) : Prop where
  len : ds.length = es.length
  row : Rd w A (cellsV ds)
  ok_ : 0 < ds.length → ∀ a, A = some a → ok a.block
  each : ∀ i (h1 : i < ds.length) (h2 : i < es.length), EvR ok w ds[i] es[i]
/-- Events of one's own. -/
structure EvsO (ok : Nat → Prop) (w : World) (v : Value) (ds : List EvV) (es : List Ev) : Prop where
  len : ds.length = es.length
  row : OwnV w 0 v ds
  ok_ : ∀ k, v.ownBlock = some k → ok k
  each : ∀ i (h1 : i < ds.length) (h2 : i < es.length), EvO ok w ds[i] es[i]
section
variable {ok ok' : Nat → Prop} {w w' : World} {A : Option Addr} {v : Value} {d : EvV} {e : Ev} {ds : List EvV} {es : List Ev}
theorem EvO.r (h : EvO ok w d e) : EvR ok w d e := ⟨h.1, h.2.1, h.2.2.1, h.2.2.2.1, h.2.2.2.2.r⟩
theorem EvR.frame (h : EvR ok w d e) (hk : ∀ k, ok k → k < w.heap.size → w'.heap[k]? = w.heap[k]?) (hs : w.heap.size ≤ w'.heap.size) : EvR ok w' d e := ⟨h.1, h.2.1, h.2.2.1, h.2.2.2.1, h.2.2.2.2.frame hk hs⟩
theorem EvO.frame (h : EvO ok w d e) (hk : ∀ k, ok k → k < w.heap.size → w'.heap[k]? = w.heap[k]?) : EvO ok w' d e := ⟨h.1, h.2.1, h.2.2.1, h.2.2.2.1, h.2.2.2.2.frame hk⟩
theorem EvR.weak (h : EvR ok w d e) (hk : ∀ k, ok k → k < w.heap.size → ok' k) : EvR ok' w d e := ⟨h.1, h.2.1, h.2.2.1, h.2.2.2.1, h.2.2.2.2.weak hk⟩
theorem EvO.weak (h : EvO ok w d e) (hk : ∀ k, ok k → k < w.heap.size → ok' k) : EvO ok' w d e := ⟨h.1, h.2.1, h.2.2.1, h.2.2.2.1, h.2.2.2.2.weak hk⟩
theorem EvsR.frame (h : EvsR ok w A ds es) (hk : ∀ k, ok k → k < w.heap.size → w'.heap[k]? = w.heap[k]?) (hs : w.heap.size ≤ w'.heap.size) : EvsR ok w' A ds es := by
  refine ⟨h.len, ?_, h.ok_, fun i h1 h2 => (h.each i h1 h2).frame hk hs⟩
  rcases h.row with h2 | ⟨b, off, rfl, hb, hc⟩
  · exact .inl h2
  · rcases Nat.eq_zero_or_pos ds.length with h0 | h0
    · left
      have : ds = [] := List.eq_nil_of_length_eq_zero h0
      rw [this]; rfl
    · exact Rd.of_blocks (.inr ⟨b, off, rfl, hb, hc⟩) (fun k hk' ⟨o, e⟩ => by
        injection e with e; injection e with e
        subst e
        exact hk b (h.ok_ h0 _ rfl) hk') hs
theorem EvsR.weak (h : EvsR ok w A ds es) (hk : ∀ k, ok k → k < w.heap.size → ok' k) : EvsR ok' w A ds es := by
  refine ⟨h.len, h.row, fun h0 a e => hk _ (h.ok_ h0 a e) ?_, fun i h1 h2 => (h.each i h1 h2).weak hk⟩
  rcases h.row with h2 | ⟨b, off, rfl, hb, hc⟩
  · have := congrArg List.length h2
    rw [cellsV_length] at this
    simp at this; omega
  · injection e with e; subst e; exact hb
theorem EvsO.lt (h : EvsO ok w v ds es) : ∀ k, v.ownBlock = some k → k < w.heap.size := fun k e => (World.ownsRow.lt h.row k e).2
theorem EvsO.frame (h : EvsO ok w v ds es) (hk : ∀ k, ok k → k < w.heap.size → w'.heap[k]? = w.heap[k]?) : EvsO ok w' v ds es :=
  ⟨h.len, Own.frameK h.row (fun g e => hk g (h.ok_ g e) (h.lt g e)), h.ok_, fun i h1 h2 => (h.each i h1 h2).frame hk⟩
theorem EvsO.weak (h : EvsO ok w v ds es) (hk : ∀ k, ok k → k < w.heap.size → ok' k) : EvsO ok' w v ds es :=
  ⟨h.len, h.row, fun k e => hk k (h.ok_ k e) (h.lt k e), fun i h1 h2 => (h.each i h1 h2).weak hk⟩
theorem EvsR.below (h : EvsR ok w A ds es) (hb : Below w.heap.size w w') : EvsR ok w' A ds es := h.frame (fun k _ hk => hb.block k hk) hb.size
theorem EvsO.below (h : EvsO ok w v ds es) (hb : Below w.heap.size w w') : EvsO ok w' v ds es := h.frame (fun k _ hk => hb.block k hk)
theorem OwnV.form {B : Nat} (h : OwnV w B v ds) : ∃ A c, v = .slice A ds.length c ∧ ds.length ≤ c ∧ c ≤ maxLen ∧ Rd w A (cellsV ds) ∧ (∀ a, A = some a → B ≤ a.block ∧ a.block < w.heap.size ∧ a.off = 0 ∧ a.spot = none) ∧ (A = none → c = 0) := by
  obtain ⟨hl, h2⟩ := h
  rcases h2 with ⟨rfl, h0⟩ | ⟨g, cap, cur, rfl, hb, hg, hn, hm, hcs, ht⟩
  · obtain rfl : ds = [] := List.eq_nil_of_length_eq_zero h0
    exact ⟨none, 0, rfl, Nat.le_refl _, Nat.zero_le _, .inl rfl, fun a ha => by (cases ha), fun _ => rfl⟩
  · refine ⟨some ⟨g, 0, none⟩, cap, rfl, hn, hm, .inr ⟨g, 0, rfl, (Array.getElem?_eq_some_iff.1 hg).1, fun k hk => ?_⟩, fun a ha => ?_, fun ha => by (cases ha)⟩
    · rw [Nat.zero_add, cell_of_row w g k cur _ (0, 0) hg]
      have h1 : (cellsV ds)[k]? = some (cellsV ds)[k] := List.getElem?_eq_getElem hk
      rw [← h1]
      conv => rhs; rw [← ht]
      rw [List.getElem?_take, if_pos (by omega)]
      simp
    · injection ha with ha; subst ha; exact ⟨hb, (Array.getElem?_eq_some_iff.1 hg).1, rfl, rfl⟩
theorem EvsO.form (h : EvsO ok w v ds es) : ∃ A c, v = .slice A es.length c ∧ es.length ≤ c ∧ c ≤ maxLen ∧ EvsR ok w A ds es := by
  obtain ⟨A, c, e, h1, h2, h3, h4, _⟩ := OwnV.form h.row
  rw [h.len] at e h1
  refine ⟨A, c, e, h1, h2, ⟨h.len, h3, fun _ a ha => h.ok_ _ ?_, fun i g1 g2 => (h.each i g1 g2).r⟩⟩
  rw [e, ha]; rfl
/-- The five cells of an event. -/
theorem EvsR.five (h : EvsR ok w A ds es) (h0 : 0 < es.length) : ∃ b off, A = some ⟨b, off, none⟩ ∧ b < w.heap.size ∧ ok b ∧ ∀ i (h : i < ds.length),
    w.cell? ⟨b, off + i * 5, none⟩ = some (.int .i64 ds[i].k) ∧ w.cell? ⟨b, off + i * 5 + 1, none⟩ = some (.slice ds[i].A ds[i].n ds[i].c) ∧ w.cell? ⟨b, off + i * 5 + 2, none⟩ = some (.int .i64 ds[i].x) ∧
    w.cell? ⟨b, off + i * 5 + 3, none⟩ = some (.int .i64 ds[i].y) ∧ w.cell? ⟨b, off + i * 5 + 4, none⟩ = some (.int .i64 ds[i].b) := by
  have hl := h.len
  have hd : 0 < ds.length := by omega
  obtain ⟨b, off, rfl, hb, hc⟩ := h.row.addr (by rw [cellsV_length]; omega)
  refine ⟨b, off, rfl, hb, h.ok_ hd _ rfl, fun i hi => ?_⟩
  have get : ∀ j, j < 5 → w.cell? ⟨b, off + i * 5 + j, none⟩ = (ds[i].cells)[j]? := by
    intro j hj
    have hlt : i * 5 + j < (cellsV ds).length := by rw [cellsV_length]; omega
    rw [Nat.add_assoc, hc (i * 5 + j) hlt, ← List.getElem?_eq_getElem hlt, cellsV_get ds i hi j hj]
  exact ⟨get 0 (by decide), get 1 (by decide), get 2 (by decide), get 3 (by decide), get 4 (by decide)⟩
/-- One of them. -/
theorem EvsR.at_ (h : EvsR ok w A ds es) (k : Nat) (hk : k < es.length) : ∃ (e : Ev) (b off : Nat) (At : Option Addr) (m cm : Nat), e = es[k] ∧ A = some ⟨b, off, none⟩ ∧ b < w.heap.size ∧ ok b ∧ TxtR ok w At m cm e.t ∧
    w.cell? ⟨b, off + k * 5, none⟩ = some (.int .i64 e.k) ∧ w.cell? ⟨b, off + k * 5 + 1, none⟩ = some (.slice At m cm) ∧ w.cell? ⟨b, off + k * 5 + 2, none⟩ = some (.int .i64 e.x) ∧
    w.cell? ⟨b, off + k * 5 + 3, none⟩ = some (.int .i64 e.y) ∧ w.cell? ⟨b, off + k * 5 + 4, none⟩ = some (.int .i64 e.b) := by
  obtain ⟨b, off, hA, hb, ho, hc⟩ := h.five (by omega)
  have hkd : k < ds.length := by rw [h.len]; exact hk
  obtain ⟨c0, c1, c2, c3, c4⟩ := hc k hkd
  obtain ⟨e0, e2, e3, e4, ht⟩ := h.each k hkd hk
  rw [e0] at c0
  rw [e2] at c2
  rw [e3] at c3
  rw [e4] at c4
  exact ⟨_, b, off, _, _, _, rfl, hA, hb, ho, ht, c0, c1, c2, c3, c4⟩
end
end Go.Proofs.Ytgnciejbhaebeaa

/- Events read: how many there are at most. Conditions: none. -/
namespace Go.Proofs.Ytgnciejbhaebeaa
open Go Go.RowKit

theorem goR_len (f : Bool) : ∀ (n : Nat) (s : RS) (acc : List Ev), (goR f n s acc).2.1.length ≤ acc.length + n
  | 0, s, acc => Nat.le_refl _
  | n + 1, s, acc => by
    rw [goR]
    split
    · exact Nat.zero_le _
    · have := goR_len f n (evR f s).2.2 (acc ++ [(evR f s).2.1])
      rw [List.length_append, List.length_singleton] at this
      omega
theorem decR_len {ver : Int} {bs : List UInt8} {g : Option Addr} {N er : Nat} {l : List Ev} (h : decR ver bs g = (N, l, er)) : l.length ≤ 16 := by
  have h2 : (decR ver bs g).2.1.length ≤ 16 := by
    unfold decR
    split
    · exact Nat.zero_le _
    · simp only
      split
      · exact Nat.zero_le _
      · split
        · exact Nat.zero_le _
        · rename_i hc
          split
          · exact Nat.zero_le _
          · split
            · exact Nat.zero_le _
            · refine Nat.le_trans (goR_len _ _ _ _) ?_
              rw [List.length_nil]
              omega
  rw [h] at h2
  exact h2
theorem EvsO.rd2 {ok : Nat → Prop} {w : World} {A : Option Addr} {n c : Nat} {ds : List EvV} {es : List Ev} (h : EvsO ok w (.slice A n c) ds es) : EvsR ok w A ds es := by
  obtain ⟨A', c', e, -, -, hR⟩ := h.form
  injection e with e1 e2 e3
  subst e1
  exact hR
end Go.Proofs.Ytgnciejbhaebeaa

/- What keys.May and the reference's May answer: whether an event may be. Conditions: none. -/
namespace Go.Proofs.Ytgnciejbhaebeaa
open Go Go.RowKit

set_option maxRecDepth 100000 in
set_option maxHeartbeats 4000000 in
theorem May_c (k x y b : Int) (A : Option Addr) (n c : Nat) (w : World) : Calls Try.prog 22 #[.agg #[.int .i64 k, .slice A n c, .int .i64 x, .int .i64 y, .int .i64 b]] w fun r w' => r = .returned (.bool (mayB k x y b n)) ∧ Below w.heap.size w w' := by
  have kb : Below w.heap.size w (w.alloc (.cells #[.int .i64 k, .slice A n c, .int .i64 x, .int .i64 y, .int .i64 b] 36)) := (Below.refl _ _).alloc (Nat.le_refl _) _
  by_cases k1 : k = 1
  · subst k1
    by_cases h0 : x = 0
    · subst h0
      by_cases h1 : y = 0
      · subst h1
        by_cases h2 : b = 0
        · subst h2
          by_cases h3 : (1 : Int) ≤ (n : Int)
          · skip
            by_cases h4 : ((n : Int) : Int) ≤ 8
            · skip
              have hm : mayB 1 0 0 0 n = true := decide_eq_true (by unfold mayP; omega)
              rw [hm]; clear hm
              have d0 : decide ((1 : Int) ≤ (n : Int)) = true := decide_eq_true (by omega)
              have d1 : decide (((n : Int) : Int) ≤ 8) = true := decide_eq_true (by omega)
              clear h3 h4
              go_enter Try.func22, Try.ntmps22
              go_wp2
              go_ret
              exact ⟨rfl, kb⟩
            · skip
              have hm : mayB 1 0 0 0 n = false := decide_eq_false (by unfold mayP; omega)
              rw [hm]; clear hm
              have d0 : decide ((1 : Int) ≤ (n : Int)) = true := decide_eq_true (by omega)
              have d1 : decide (((n : Int) : Int) ≤ 8) = false := decide_eq_false (by omega)
              clear h3 h4
              go_enter Try.func22, Try.ntmps22
              go_wp2
              go_ret
              exact ⟨rfl, kb⟩
          · skip
            have hm : mayB 1 0 0 0 n = false := decide_eq_false (by unfold mayP; omega)
            rw [hm]; clear hm
            have d0 : decide ((1 : Int) ≤ (n : Int)) = false := decide_eq_false (by omega)
            clear h3
            go_enter Try.func22, Try.ntmps22
            go_wp2
            go_ret
            exact ⟨rfl, kb⟩
        · skip
          have hm : mayB 1 0 0 b n = false := decide_eq_false (by unfold mayP; omega)
          rw [hm]; clear hm
          have d0 : (b == 0) = false := by rw [beq_eq_false_iff_ne]; omega
          clear h2
          go_enter Try.func22, Try.ntmps22
          go_wp2
          go_ret
          exact ⟨rfl, kb⟩
      · skip
        have hm : mayB 1 0 y b n = false := decide_eq_false (by unfold mayP; omega)
        rw [hm]; clear hm
        have d0 : (y == 0) = false := by rw [beq_eq_false_iff_ne]; omega
        clear h1
        go_enter Try.func22, Try.ntmps22
        go_wp2
        go_ret
        exact ⟨rfl, kb⟩
    · skip
      have hm : mayB 1 x y b n = false := decide_eq_false (by unfold mayP; omega)
      rw [hm]; clear hm
      have d0 : (x == 0) = false := by rw [beq_eq_false_iff_ne]; omega
      clear h0
      go_enter Try.func22, Try.ntmps22
      go_wp2
      go_ret
      exact ⟨rfl, kb⟩
  have e1 : (k == 1) = false := by rw [beq_eq_false_iff_ne]; exact k1
  by_cases k2 : k = 2
  · subst k2
    clear k1 e1
    by_cases h0 : x = 0
    · subst h0
      by_cases h1 : y = 0
      · subst h1
        by_cases h2 : b = 0
        · subst h2
          by_cases h3 : ((n : Int) : Int) ≤ 64
          · skip
            have hm : mayB 2 0 0 0 n = true := decide_eq_true (by unfold mayP; omega)
            rw [hm]; clear hm
            have d0 : decide (((n : Int) : Int) ≤ 64) = true := decide_eq_true (by omega)
            clear h3
            go_enter Try.func22, Try.ntmps22
            go_wp2
            go_ret
            exact ⟨rfl, kb⟩
          · skip
            have hm : mayB 2 0 0 0 n = false := decide_eq_false (by unfold mayP; omega)
            rw [hm]; clear hm
            have d0 : decide (((n : Int) : Int) ≤ 64) = false := decide_eq_false (by omega)
            clear h3
            go_enter Try.func22, Try.ntmps22
            go_wp2
            go_ret
            exact ⟨rfl, kb⟩
        · skip
          have hm : mayB 2 0 0 b n = false := decide_eq_false (by unfold mayP; omega)
          rw [hm]; clear hm
          have d0 : (b == 0) = false := by rw [beq_eq_false_iff_ne]; omega
          clear h2
          go_enter Try.func22, Try.ntmps22
          go_wp2
          go_ret
          exact ⟨rfl, kb⟩
      · skip
        have hm : mayB 2 0 y b n = false := decide_eq_false (by unfold mayP; omega)
        rw [hm]; clear hm
        have d0 : (y == 0) = false := by rw [beq_eq_false_iff_ne]; omega
        clear h1
        go_enter Try.func22, Try.ntmps22
        go_wp2
        go_ret
        exact ⟨rfl, kb⟩
    · skip
      have hm : mayB 2 x y b n = false := decide_eq_false (by unfold mayP; omega)
      rw [hm]; clear hm
      have d0 : (x == 0) = false := by rw [beq_eq_false_iff_ne]; omega
      clear h0
      go_enter Try.func22, Try.ntmps22
      go_wp2
      go_ret
      exact ⟨rfl, kb⟩
  have e2 : (k == 2) = false := by rw [beq_eq_false_iff_ne]; exact k2
  by_cases k3 : k = 3
  · subst k3
    clear k1 e1 k2 e2
    by_cases h0 : n = 0
    · subst h0
      by_cases h1 : (0 : Int) ≤ x
      · skip
        by_cases h2 : (x : Int) < 80
        · skip
          by_cases h3 : (0 : Int) ≤ y
          · skip
            by_cases h4 : (y : Int) < 24
            · skip
              by_cases h5 : (0 : Int) ≤ b
              · skip
                by_cases h6 : (b : Int) ≤ 255
                · skip
                  have hm : mayB 3 x y b 0 = true := decide_eq_true (by unfold mayP; omega)
                  rw [hm]; clear hm
                  have d0 : decide ((0 : Int) ≤ x) = true := decide_eq_true (by omega)
                  have d1 : decide ((x : Int) < 80) = true := decide_eq_true (by omega)
                  have d2 : decide ((0 : Int) ≤ y) = true := decide_eq_true (by omega)
                  have d3 : decide ((y : Int) < 24) = true := decide_eq_true (by omega)
                  have d4 : decide ((0 : Int) ≤ b) = true := decide_eq_true (by omega)
                  have d5 : decide ((b : Int) ≤ 255) = true := decide_eq_true (by omega)
                  clear h1 h2 h3 h4 h5 h6
                  go_enter Try.func22, Try.ntmps22
                  go_wp2
                  go_ret
                  exact ⟨rfl, kb⟩
                · skip
                  have hm : mayB 3 x y b 0 = false := decide_eq_false (by unfold mayP; omega)
                  rw [hm]; clear hm
                  have d0 : decide ((0 : Int) ≤ x) = true := decide_eq_true (by omega)
                  have d1 : decide ((x : Int) < 80) = true := decide_eq_true (by omega)
                  have d2 : decide ((0 : Int) ≤ y) = true := decide_eq_true (by omega)
                  have d3 : decide ((y : Int) < 24) = true := decide_eq_true (by omega)
                  have d4 : decide ((0 : Int) ≤ b) = true := decide_eq_true (by omega)
                  have d5 : decide ((b : Int) ≤ 255) = false := decide_eq_false (by omega)
                  clear h1 h2 h3 h4 h5 h6
                  go_enter Try.func22, Try.ntmps22
                  go_wp2
                  go_ret
                  exact ⟨rfl, kb⟩
              · skip
                have hm : mayB 3 x y b 0 = false := decide_eq_false (by unfold mayP; omega)
                rw [hm]; clear hm
                have d0 : decide ((0 : Int) ≤ x) = true := decide_eq_true (by omega)
                have d1 : decide ((x : Int) < 80) = true := decide_eq_true (by omega)
                have d2 : decide ((0 : Int) ≤ y) = true := decide_eq_true (by omega)
                have d3 : decide ((y : Int) < 24) = true := decide_eq_true (by omega)
                have d4 : decide ((0 : Int) ≤ b) = false := decide_eq_false (by omega)
                clear h1 h2 h3 h4 h5
                go_enter Try.func22, Try.ntmps22
                go_wp2
                go_ret
                exact ⟨rfl, kb⟩
            · skip
              have hm : mayB 3 x y b 0 = false := decide_eq_false (by unfold mayP; omega)
              rw [hm]; clear hm
              have d0 : decide ((0 : Int) ≤ x) = true := decide_eq_true (by omega)
              have d1 : decide ((x : Int) < 80) = true := decide_eq_true (by omega)
              have d2 : decide ((0 : Int) ≤ y) = true := decide_eq_true (by omega)
              have d3 : decide ((y : Int) < 24) = false := decide_eq_false (by omega)
              clear h1 h2 h3 h4
              go_enter Try.func22, Try.ntmps22
              go_wp2
              go_ret
              exact ⟨rfl, kb⟩
          · skip
            have hm : mayB 3 x y b 0 = false := decide_eq_false (by unfold mayP; omega)
            rw [hm]; clear hm
            have d0 : decide ((0 : Int) ≤ x) = true := decide_eq_true (by omega)
            have d1 : decide ((x : Int) < 80) = true := decide_eq_true (by omega)
            have d2 : decide ((0 : Int) ≤ y) = false := decide_eq_false (by omega)
            clear h1 h2 h3
            go_enter Try.func22, Try.ntmps22
            go_wp2
            go_ret
            exact ⟨rfl, kb⟩
        · skip
          have hm : mayB 3 x y b 0 = false := decide_eq_false (by unfold mayP; omega)
          rw [hm]; clear hm
          have d0 : decide ((0 : Int) ≤ x) = true := decide_eq_true (by omega)
          have d1 : decide ((x : Int) < 80) = false := decide_eq_false (by omega)
          clear h1 h2
          go_enter Try.func22, Try.ntmps22
          go_wp2
          go_ret
          exact ⟨rfl, kb⟩
      · skip
        have hm : mayB 3 x y b 0 = false := decide_eq_false (by unfold mayP; omega)
        rw [hm]; clear hm
        have d0 : decide ((0 : Int) ≤ x) = false := decide_eq_false (by omega)
        clear h1
        go_enter Try.func22, Try.ntmps22
        go_wp2
        go_ret
        exact ⟨rfl, kb⟩
    · skip
      have hm : mayB 3 x y b n = false := decide_eq_false (by unfold mayP; omega)
      rw [hm]; clear hm
      have d0 : ((n : Int) == 0) = false := by rw [beq_eq_false_iff_ne]; omega
      clear h0
      go_enter Try.func22, Try.ntmps22
      go_wp2
      go_ret
      exact ⟨rfl, kb⟩
  have e3 : (k == 3) = false := by rw [beq_eq_false_iff_ne]; exact k3
  by_cases k4 : k = 4
  · subst k4
    clear k1 e1 k2 e2 k3 e3
    by_cases h0 : n = 0
    · subst h0
      by_cases h1 : b = 0
      · subst h1
        by_cases h2 : (1 : Int) ≤ x
        · skip
          by_cases h3 : (x : Int) ≤ 80
          · skip
            by_cases h4 : (1 : Int) ≤ y
            · skip
              by_cases h5 : (y : Int) ≤ 24
              · skip
                have hm : mayB 4 x y 0 0 = true := decide_eq_true (by unfold mayP; omega)
                rw [hm]; clear hm
                have d0 : decide ((1 : Int) ≤ x) = true := decide_eq_true (by omega)
                have d1 : decide ((x : Int) ≤ 80) = true := decide_eq_true (by omega)
                have d2 : decide ((1 : Int) ≤ y) = true := decide_eq_true (by omega)
                have d3 : decide ((y : Int) ≤ 24) = true := decide_eq_true (by omega)
                clear h2 h3 h4 h5
                go_enter Try.func22, Try.ntmps22
                go_wp2
                go_ret
                exact ⟨rfl, kb⟩
              · skip
                have hm : mayB 4 x y 0 0 = false := decide_eq_false (by unfold mayP; omega)
                rw [hm]; clear hm
                have d0 : decide ((1 : Int) ≤ x) = true := decide_eq_true (by omega)
                have d1 : decide ((x : Int) ≤ 80) = true := decide_eq_true (by omega)
                have d2 : decide ((1 : Int) ≤ y) = true := decide_eq_true (by omega)
                have d3 : decide ((y : Int) ≤ 24) = false := decide_eq_false (by omega)
                clear h2 h3 h4 h5
                go_enter Try.func22, Try.ntmps22
                go_wp2
                go_ret
                exact ⟨rfl, kb⟩
            · skip
              have hm : mayB 4 x y 0 0 = false := decide_eq_false (by unfold mayP; omega)
              rw [hm]; clear hm
              have d0 : decide ((1 : Int) ≤ x) = true := decide_eq_true (by omega)
              have d1 : decide ((x : Int) ≤ 80) = true := decide_eq_true (by omega)
              have d2 : decide ((1 : Int) ≤ y) = false := decide_eq_false (by omega)
              clear h2 h3 h4
              go_enter Try.func22, Try.ntmps22
              go_wp2
              go_ret
              exact ⟨rfl, kb⟩
          · skip
            have hm : mayB 4 x y 0 0 = false := decide_eq_false (by unfold mayP; omega)
            rw [hm]; clear hm
            have d0 : decide ((1 : Int) ≤ x) = true := decide_eq_true (by omega)
            have d1 : decide ((x : Int) ≤ 80) = false := decide_eq_false (by omega)
            clear h2 h3
            go_enter Try.func22, Try.ntmps22
            go_wp2
            go_ret
            exact ⟨rfl, kb⟩
        · skip
          have hm : mayB 4 x y 0 0 = false := decide_eq_false (by unfold mayP; omega)
          rw [hm]; clear hm
          have d0 : decide ((1 : Int) ≤ x) = false := decide_eq_false (by omega)
          clear h2
          go_enter Try.func22, Try.ntmps22
          go_wp2
          go_ret
          exact ⟨rfl, kb⟩
      · skip
        have hm : mayB 4 x y b 0 = false := decide_eq_false (by unfold mayP; omega)
        rw [hm]; clear hm
        have d0 : (b == 0) = false := by rw [beq_eq_false_iff_ne]; omega
        clear h1
        go_enter Try.func22, Try.ntmps22
        go_wp2
        go_ret
        exact ⟨rfl, kb⟩
    · skip
      have hm : mayB 4 x y b n = false := decide_eq_false (by unfold mayP; omega)
      rw [hm]; clear hm
      have d0 : ((n : Int) == 0) = false := by rw [beq_eq_false_iff_ne]; omega
      clear h0
      go_enter Try.func22, Try.ntmps22
      go_wp2
      go_ret
      exact ⟨rfl, kb⟩
  have e4 : (k == 4) = false := by rw [beq_eq_false_iff_ne]; exact k4
  have hm : mayB k x y b n = false := decide_eq_false (by unfold mayP; omega)
  rw [hm]; clear hm
  clear k1 k2 k3 k4
  go_enter Try.func22, Try.ntmps22
  go_wp2
  go_ret
  exact ⟨rfl, kb⟩

set_option maxRecDepth 100000 in
set_option maxHeartbeats 4000000 in
theorem refMay_c (k x y b : Int) (A : Option Addr) (n c : Nat) (w : World) : Calls Try.prog 23 #[.agg #[.int .i64 k, .slice A n c, .int .i64 x, .int .i64 y, .int .i64 b]] w fun r w' => r = .returned (.bool (mayB k x y b n)) ∧ Below w.heap.size w w' := by
  have kb : Below w.heap.size w (w.alloc (.cells #[.int .i64 k, .slice A n c, .int .i64 x, .int .i64 y, .int .i64 b] 36)) := (Below.refl _ _).alloc (Nat.le_refl _) _
  by_cases k1 : k = 1
  · subst k1
    by_cases h0 : x = 0
    · subst h0
      by_cases h1 : y = 0
      · subst h1
        by_cases h2 : b = 0
        · subst h2
          by_cases h3 : n = 0
          · subst h3
            have hm : mayB 1 0 0 0 0 = false := decide_eq_false (by unfold mayP; omega)
            rw [hm]; clear hm
            go_enter Try.func23, Try.ntmps23
            go_wp2
            go_ret
            exact ⟨rfl, kb⟩
          · have hn0 : 0 < n := by omega
            by_cases h4 : ((n : Int) : Int) < 9
            · skip
              have hm : mayB 1 0 0 0 n = true := decide_eq_true (by unfold mayP; omega)
              rw [hm]; clear hm
              have d0 : decide (((n : Int) : Int) < 9) = true := decide_eq_true (by omega)
              clear h3 h4
              go_enter Try.func23, Try.ntmps23
              go_wp2
              go_ret
              exact ⟨rfl, kb⟩
            · skip
              have hm : mayB 1 0 0 0 n = false := decide_eq_false (by unfold mayP; omega)
              rw [hm]; clear hm
              have d0 : decide (((n : Int) : Int) < 9) = false := decide_eq_false (by omega)
              clear h3 h4
              go_enter Try.func23, Try.ntmps23
              go_wp2
              go_ret
              exact ⟨rfl, kb⟩
        · skip
          have hm : mayB 1 0 0 b n = false := decide_eq_false (by unfold mayP; omega)
          rw [hm]; clear hm
          have d0 : (b == 0) = false := by rw [beq_eq_false_iff_ne]; omega
          clear h2
          go_enter Try.func23, Try.ntmps23
          go_wp2
          go_ret
          exact ⟨rfl, kb⟩
      · skip
        have hm : mayB 1 0 y b n = false := decide_eq_false (by unfold mayP; omega)
        rw [hm]; clear hm
        have d0 : (y == 0) = false := by rw [beq_eq_false_iff_ne]; omega
        clear h1
        go_enter Try.func23, Try.ntmps23
        go_wp2
        go_ret
        exact ⟨rfl, kb⟩
    · skip
      have hm : mayB 1 x y b n = false := decide_eq_false (by unfold mayP; omega)
      rw [hm]; clear hm
      have d0 : (x == 0) = false := by rw [beq_eq_false_iff_ne]; omega
      clear h0
      go_enter Try.func23, Try.ntmps23
      go_wp2
      go_ret
      exact ⟨rfl, kb⟩
  have e1 : (k == 1) = false := by rw [beq_eq_false_iff_ne]; exact k1
  by_cases k2 : k = 2
  · subst k2
    clear k1 e1
    by_cases h0 : x = 0
    · subst h0
      by_cases h1 : y = 0
      · subst h1
        by_cases h2 : b = 0
        · subst h2
          by_cases h3 : ((n : Int) : Int) < 65
          · skip
            have hm : mayB 2 0 0 0 n = true := decide_eq_true (by unfold mayP; omega)
            rw [hm]; clear hm
            have d0 : decide (((n : Int) : Int) < 65) = true := decide_eq_true (by omega)
            clear h3
            go_enter Try.func23, Try.ntmps23
            go_wp2
            go_ret
            exact ⟨rfl, kb⟩
          · skip
            have hm : mayB 2 0 0 0 n = false := decide_eq_false (by unfold mayP; omega)
            rw [hm]; clear hm
            have d0 : decide (((n : Int) : Int) < 65) = false := decide_eq_false (by omega)
            clear h3
            go_enter Try.func23, Try.ntmps23
            go_wp2
            go_ret
            exact ⟨rfl, kb⟩
        · skip
          have hm : mayB 2 0 0 b n = false := decide_eq_false (by unfold mayP; omega)
          rw [hm]; clear hm
          have d0 : (b == 0) = false := by rw [beq_eq_false_iff_ne]; omega
          clear h2
          go_enter Try.func23, Try.ntmps23
          go_wp2
          go_ret
          exact ⟨rfl, kb⟩
      · skip
        have hm : mayB 2 0 y b n = false := decide_eq_false (by unfold mayP; omega)
        rw [hm]; clear hm
        have d0 : (y == 0) = false := by rw [beq_eq_false_iff_ne]; omega
        clear h1
        go_enter Try.func23, Try.ntmps23
        go_wp2
        go_ret
        exact ⟨rfl, kb⟩
    · skip
      have hm : mayB 2 x y b n = false := decide_eq_false (by unfold mayP; omega)
      rw [hm]; clear hm
      have d0 : (x == 0) = false := by rw [beq_eq_false_iff_ne]; omega
      clear h0
      go_enter Try.func23, Try.ntmps23
      go_wp2
      go_ret
      exact ⟨rfl, kb⟩
  have e2 : (k == 2) = false := by rw [beq_eq_false_iff_ne]; exact k2
  by_cases k3 : k = 3
  · subst k3
    clear k1 e1 k2 e2
    have pl : ∀ q : Prop, q → q := fun _ h => h
    clear pl
    by_cases px : x = 0
    · subst px
      by_cases py : y = 0
      · subst py
        by_cases h0 : n = 0
        · subst h0
          by_cases h5 : (0 : Int) ≤ b
          · skip
            by_cases h6 : (b : Int) < 256
            · skip
              have hm : mayB 3 0 0 b 0 = true := decide_eq_true (by unfold mayP; omega)
              rw [hm]; clear hm
              have d0 : decide ((0 : Int) ≤ b) = true := decide_eq_true (by omega)
              have d1 : decide ((b : Int) < 256) = true := decide_eq_true (by omega)
              clear h5 h6
              go_enter Try.func23, Try.ntmps23
              go_wp2
              go_ret
              exact ⟨rfl, kb⟩
            · skip
              have hm : mayB 3 0 0 b 0 = false := decide_eq_false (by unfold mayP; omega)
              rw [hm]; clear hm
              have d0 : decide ((0 : Int) ≤ b) = true := decide_eq_true (by omega)
              have d1 : decide ((b : Int) < 256) = false := decide_eq_false (by omega)
              clear h5 h6
              go_enter Try.func23, Try.ntmps23
              go_wp2
              go_ret
              exact ⟨rfl, kb⟩
          · skip
            have hm : mayB 3 0 0 b 0 = false := decide_eq_false (by unfold mayP; omega)
            rw [hm]; clear hm
            have d0 : decide ((0 : Int) ≤ b) = false := decide_eq_false (by omega)
            clear h5
            go_enter Try.func23, Try.ntmps23
            go_wp2
            go_ret
            exact ⟨rfl, kb⟩
        · skip
          have hm : mayB 3 0 0 b n = false := decide_eq_false (by unfold mayP; omega)
          rw [hm]; clear hm
          have d0 : ((n : Int) == 0) = false := by rw [beq_eq_false_iff_ne]; omega
          clear h0
          go_enter Try.func23, Try.ntmps23
          go_wp2
          go_ret
          exact ⟨rfl, kb⟩
      · have py' : (y == 0) = false := by rw [beq_eq_false_iff_ne]; exact py
        by_cases h0 : n = 0
        · subst h0
          by_cases h3 : (0 : Int) ≤ y
          · skip
            by_cases h4 : (y : Int) ≤ 23
            · skip
              by_cases h5 : (0 : Int) ≤ b
              · skip
                by_cases h6 : (b : Int) < 256
                · skip
                  have hm : mayB 3 0 y b 0 = true := decide_eq_true (by unfold mayP; omega)
                  rw [hm]; clear hm
                  have d0 : decide ((0 : Int) ≤ y) = true := decide_eq_true (by omega)
                  have d1 : decide ((y : Int) ≤ 23) = true := decide_eq_true (by omega)
                  have d2 : decide ((0 : Int) ≤ b) = true := decide_eq_true (by omega)
                  have d3 : decide ((b : Int) < 256) = true := decide_eq_true (by omega)
                  clear py h3 h4 h5 h6
                  go_enter Try.func23, Try.ntmps23
                  go_wp2
                  go_ret
                  exact ⟨rfl, kb⟩
                · skip
                  have hm : mayB 3 0 y b 0 = false := decide_eq_false (by unfold mayP; omega)
                  rw [hm]; clear hm
                  have d0 : decide ((0 : Int) ≤ y) = true := decide_eq_true (by omega)
                  have d1 : decide ((y : Int) ≤ 23) = true := decide_eq_true (by omega)
                  have d2 : decide ((0 : Int) ≤ b) = true := decide_eq_true (by omega)
                  have d3 : decide ((b : Int) < 256) = false := decide_eq_false (by omega)
                  clear py h3 h4 h5 h6
                  go_enter Try.func23, Try.ntmps23
                  go_wp2
                  go_ret
                  exact ⟨rfl, kb⟩
              · skip
                have hm : mayB 3 0 y b 0 = false := decide_eq_false (by unfold mayP; omega)
                rw [hm]; clear hm
                have d0 : decide ((0 : Int) ≤ y) = true := decide_eq_true (by omega)
                have d1 : decide ((y : Int) ≤ 23) = true := decide_eq_true (by omega)
                have d2 : decide ((0 : Int) ≤ b) = false := decide_eq_false (by omega)
                clear py h3 h4 h5
                go_enter Try.func23, Try.ntmps23
                go_wp2
                go_ret
                exact ⟨rfl, kb⟩
            · skip
              have hm : mayB 3 0 y b 0 = false := decide_eq_false (by unfold mayP; omega)
              rw [hm]; clear hm
              have d0 : decide ((0 : Int) ≤ y) = true := decide_eq_true (by omega)
              have d1 : decide ((y : Int) ≤ 23) = false := decide_eq_false (by omega)
              clear py h3 h4
              go_enter Try.func23, Try.ntmps23
              go_wp2
              go_ret
              exact ⟨rfl, kb⟩
          · skip
            have hm : mayB 3 0 y b 0 = false := decide_eq_false (by unfold mayP; omega)
            rw [hm]; clear hm
            have d0 : decide ((0 : Int) ≤ y) = false := decide_eq_false (by omega)
            clear py h3
            go_enter Try.func23, Try.ntmps23
            go_wp2
            go_ret
            exact ⟨rfl, kb⟩
        · skip
          have hm : mayB 3 0 y b n = false := decide_eq_false (by unfold mayP; omega)
          rw [hm]; clear hm
          have d0 : ((n : Int) == 0) = false := by rw [beq_eq_false_iff_ne]; omega
          clear py h0
          go_enter Try.func23, Try.ntmps23
          go_wp2
          go_ret
          exact ⟨rfl, kb⟩
    · have px' : (x == 0) = false := by rw [beq_eq_false_iff_ne]; exact px
      by_cases h0 : n = 0
      · subst h0
        by_cases h1 : (0 : Int) ≤ x
        · skip
          by_cases h2 : (x : Int) ≤ 79
          · skip
            by_cases h3 : (0 : Int) ≤ y
            · skip
              by_cases h4 : (y : Int) ≤ 23
              · skip
                by_cases h5 : (0 : Int) ≤ b
                · skip
                  by_cases h6 : (b : Int) < 256
                  · skip
                    have hm : mayB 3 x y b 0 = true := decide_eq_true (by unfold mayP; omega)
                    rw [hm]; clear hm
                    have d0 : decide ((0 : Int) ≤ x) = true := decide_eq_true (by omega)
                    have d1 : decide ((x : Int) ≤ 79) = true := decide_eq_true (by omega)
                    have d2 : decide ((0 : Int) ≤ y) = true := decide_eq_true (by omega)
                    have d3 : decide ((y : Int) ≤ 23) = true := decide_eq_true (by omega)
                    have d4 : decide ((0 : Int) ≤ b) = true := decide_eq_true (by omega)
                    have d5 : decide ((b : Int) < 256) = true := decide_eq_true (by omega)
                    clear px h1 h2 h3 h4 h5 h6
                    go_enter Try.func23, Try.ntmps23
                    go_wp2
                    go_ret
                    exact ⟨rfl, kb⟩
                  · skip
                    have hm : mayB 3 x y b 0 = false := decide_eq_false (by unfold mayP; omega)
                    rw [hm]; clear hm
                    have d0 : decide ((0 : Int) ≤ x) = true := decide_eq_true (by omega)
                    have d1 : decide ((x : Int) ≤ 79) = true := decide_eq_true (by omega)
                    have d2 : decide ((0 : Int) ≤ y) = true := decide_eq_true (by omega)
                    have d3 : decide ((y : Int) ≤ 23) = true := decide_eq_true (by omega)
                    have d4 : decide ((0 : Int) ≤ b) = true := decide_eq_true (by omega)
                    have d5 : decide ((b : Int) < 256) = false := decide_eq_false (by omega)
                    clear px h1 h2 h3 h4 h5 h6
                    go_enter Try.func23, Try.ntmps23
                    go_wp2
                    go_ret
                    exact ⟨rfl, kb⟩
                · skip
                  have hm : mayB 3 x y b 0 = false := decide_eq_false (by unfold mayP; omega)
                  rw [hm]; clear hm
                  have d0 : decide ((0 : Int) ≤ x) = true := decide_eq_true (by omega)
                  have d1 : decide ((x : Int) ≤ 79) = true := decide_eq_true (by omega)
                  have d2 : decide ((0 : Int) ≤ y) = true := decide_eq_true (by omega)
                  have d3 : decide ((y : Int) ≤ 23) = true := decide_eq_true (by omega)
                  have d4 : decide ((0 : Int) ≤ b) = false := decide_eq_false (by omega)
                  clear px h1 h2 h3 h4 h5
                  go_enter Try.func23, Try.ntmps23
                  go_wp2
                  go_ret
                  exact ⟨rfl, kb⟩
              · skip
                have hm : mayB 3 x y b 0 = false := decide_eq_false (by unfold mayP; omega)
                rw [hm]; clear hm
                have d0 : decide ((0 : Int) ≤ x) = true := decide_eq_true (by omega)
                have d1 : decide ((x : Int) ≤ 79) = true := decide_eq_true (by omega)
                have d2 : decide ((0 : Int) ≤ y) = true := decide_eq_true (by omega)
                have d3 : decide ((y : Int) ≤ 23) = false := decide_eq_false (by omega)
                clear px h1 h2 h3 h4
                go_enter Try.func23, Try.ntmps23
                go_wp2
                go_ret
                exact ⟨rfl, kb⟩
            · skip
              have hm : mayB 3 x y b 0 = false := decide_eq_false (by unfold mayP; omega)
              rw [hm]; clear hm
              have d0 : decide ((0 : Int) ≤ x) = true := decide_eq_true (by omega)
              have d1 : decide ((x : Int) ≤ 79) = true := decide_eq_true (by omega)
              have d2 : decide ((0 : Int) ≤ y) = false := decide_eq_false (by omega)
              clear px h1 h2 h3
              go_enter Try.func23, Try.ntmps23
              go_wp2
              go_ret
              exact ⟨rfl, kb⟩
          · skip
            have hm : mayB 3 x y b 0 = false := decide_eq_false (by unfold mayP; omega)
            rw [hm]; clear hm
            have d0 : decide ((0 : Int) ≤ x) = true := decide_eq_true (by omega)
            have d1 : decide ((x : Int) ≤ 79) = false := decide_eq_false (by omega)
            clear px h1 h2
            go_enter Try.func23, Try.ntmps23
            go_wp2
            go_ret
            exact ⟨rfl, kb⟩
        · skip
          have hm : mayB 3 x y b 0 = false := decide_eq_false (by unfold mayP; omega)
          rw [hm]; clear hm
          have d0 : decide ((0 : Int) ≤ x) = false := decide_eq_false (by omega)
          clear px h1
          go_enter Try.func23, Try.ntmps23
          go_wp2
          go_ret
          exact ⟨rfl, kb⟩
      · skip
        have hm : mayB 3 x y b n = false := decide_eq_false (by unfold mayP; omega)
        rw [hm]; clear hm
        have d0 : ((n : Int) == 0) = false := by rw [beq_eq_false_iff_ne]; omega
        clear px h0
        go_enter Try.func23, Try.ntmps23
        go_wp2
        go_ret
        exact ⟨rfl, kb⟩
  have e3 : (k == 3) = false := by rw [beq_eq_false_iff_ne]; exact k3
  by_cases k4 : k = 4
  · subst k4
    clear k1 e1 k2 e2 k3 e3
    have pl : ∀ q : Prop, q → q := fun _ h => h
    clear pl
    by_cases px : x = 0
    · subst px
      by_cases py : y = 0
      · subst py
        by_cases h0 : n = 0
        · subst h0
          by_cases h1 : b = 0
          · subst h1
            have hm : mayB 4 0 0 0 0 = false := decide_eq_false (by unfold mayP; omega)
            rw [hm]; clear hm
            go_enter Try.func23, Try.ntmps23
            go_wp2
            go_ret
            exact ⟨rfl, kb⟩
          · skip
            have hm : mayB 4 0 0 b 0 = false := decide_eq_false (by unfold mayP; omega)
            rw [hm]; clear hm
            have d0 : (b == 0) = false := by rw [beq_eq_false_iff_ne]; omega
            clear h1
            go_enter Try.func23, Try.ntmps23
            go_wp2
            go_ret
            exact ⟨rfl, kb⟩
        · skip
          have hm : mayB 4 0 0 b n = false := decide_eq_false (by unfold mayP; omega)
          rw [hm]; clear hm
          have d0 : ((n : Int) == 0) = false := by rw [beq_eq_false_iff_ne]; omega
          clear h0
          go_enter Try.func23, Try.ntmps23
          go_wp2
          go_ret
          exact ⟨rfl, kb⟩
      · have py' : (y == 0) = false := by rw [beq_eq_false_iff_ne]; exact py
        by_cases h0 : n = 0
        · subst h0
          by_cases h1 : b = 0
          · subst h1
            have hm : mayB 4 0 y 0 0 = false := decide_eq_false (by unfold mayP; omega)
            rw [hm]; clear hm
            clear py
            go_enter Try.func23, Try.ntmps23
            go_wp2
            go_ret
            exact ⟨rfl, kb⟩
          · skip
            have hm : mayB 4 0 y b 0 = false := decide_eq_false (by unfold mayP; omega)
            rw [hm]; clear hm
            have d0 : (b == 0) = false := by rw [beq_eq_false_iff_ne]; omega
            clear py h1
            go_enter Try.func23, Try.ntmps23
            go_wp2
            go_ret
            exact ⟨rfl, kb⟩
        · skip
          have hm : mayB 4 0 y b n = false := decide_eq_false (by unfold mayP; omega)
          rw [hm]; clear hm
          have d0 : ((n : Int) == 0) = false := by rw [beq_eq_false_iff_ne]; omega
          clear py h0
          go_enter Try.func23, Try.ntmps23
          go_wp2
          go_ret
          exact ⟨rfl, kb⟩
    · have px' : (x == 0) = false := by rw [beq_eq_false_iff_ne]; exact px
      by_cases h0 : n = 0
      · subst h0
        by_cases h1 : b = 0
        · subst h1
          by_cases h2 : (0 : Int) < x
          · skip
            by_cases h3 : (x : Int) ≤ 80
            · skip
              by_cases h4 : (0 : Int) < y
              · skip
                by_cases h5 : (y : Int) ≤ 24
                · skip
                  have hm : mayB 4 x y 0 0 = true := decide_eq_true (by unfold mayP; omega)
                  rw [hm]; clear hm
                  have d0 : decide ((0 : Int) < x) = true := decide_eq_true (by omega)
                  have d1 : decide ((x : Int) ≤ 80) = true := decide_eq_true (by omega)
                  have d2 : decide ((0 : Int) < y) = true := decide_eq_true (by omega)
                  have d3 : decide ((y : Int) ≤ 24) = true := decide_eq_true (by omega)
                  clear px h2 h3 h4 h5
                  go_enter Try.func23, Try.ntmps23
                  go_wp2
                  go_ret
                  exact ⟨rfl, kb⟩
                · skip
                  have hm : mayB 4 x y 0 0 = false := decide_eq_false (by unfold mayP; omega)
                  rw [hm]; clear hm
                  have d0 : decide ((0 : Int) < x) = true := decide_eq_true (by omega)
                  have d1 : decide ((x : Int) ≤ 80) = true := decide_eq_true (by omega)
                  have d2 : decide ((0 : Int) < y) = true := decide_eq_true (by omega)
                  have d3 : decide ((y : Int) ≤ 24) = false := decide_eq_false (by omega)
                  clear px h2 h3 h4 h5
                  go_enter Try.func23, Try.ntmps23
                  go_wp2
                  go_ret
                  exact ⟨rfl, kb⟩
              · skip
                have hm : mayB 4 x y 0 0 = false := decide_eq_false (by unfold mayP; omega)
                rw [hm]; clear hm
                have d0 : decide ((0 : Int) < x) = true := decide_eq_true (by omega)
                have d1 : decide ((x : Int) ≤ 80) = true := decide_eq_true (by omega)
                have d2 : decide ((0 : Int) < y) = false := decide_eq_false (by omega)
                clear px h2 h3 h4
                go_enter Try.func23, Try.ntmps23
                go_wp2
                go_ret
                exact ⟨rfl, kb⟩
            · skip
              have hm : mayB 4 x y 0 0 = false := decide_eq_false (by unfold mayP; omega)
              rw [hm]; clear hm
              have d0 : decide ((0 : Int) < x) = true := decide_eq_true (by omega)
              have d1 : decide ((x : Int) ≤ 80) = false := decide_eq_false (by omega)
              clear px h2 h3
              go_enter Try.func23, Try.ntmps23
              go_wp2
              go_ret
              exact ⟨rfl, kb⟩
          · skip
            have hm : mayB 4 x y 0 0 = false := decide_eq_false (by unfold mayP; omega)
            rw [hm]; clear hm
            have d0 : decide ((0 : Int) < x) = false := decide_eq_false (by omega)
            clear px h2
            go_enter Try.func23, Try.ntmps23
            go_wp2
            go_ret
            exact ⟨rfl, kb⟩
        · skip
          have hm : mayB 4 x y b 0 = false := decide_eq_false (by unfold mayP; omega)
          rw [hm]; clear hm
          have d0 : (b == 0) = false := by rw [beq_eq_false_iff_ne]; omega
          clear px h1
          go_enter Try.func23, Try.ntmps23
          go_wp2
          go_ret
          exact ⟨rfl, kb⟩
      · skip
        have hm : mayB 4 x y b n = false := decide_eq_false (by unfold mayP; omega)
        rw [hm]; clear hm
        have d0 : ((n : Int) == 0) = false := by rw [beq_eq_false_iff_ne]; omega
        clear px h0
        go_enter Try.func23, Try.ntmps23
        go_wp2
        go_ret
        exact ⟨rfl, kb⟩
  have e4 : (k == 4) = false := by rw [beq_eq_false_iff_ne]; exact k4
  by_cases px : x = 0
  · subst px
    by_cases py : y = 0
    · subst py
      have hm : mayB k 0 0 b n = false := decide_eq_false (by unfold mayP; omega)
      rw [hm]; clear hm
      clear k1 k2 k3 k4
      go_enter Try.func23, Try.ntmps23
      go_wp2
      go_ret
      exact ⟨rfl, kb⟩
    · have py' : (y == 0) = false := by rw [beq_eq_false_iff_ne]; exact py
      have hm : mayB k 0 y b n = false := decide_eq_false (by unfold mayP; omega)
      rw [hm]; clear hm
      clear k1 k2 k3 k4 py
      go_enter Try.func23, Try.ntmps23
      go_wp2
      go_ret
      exact ⟨rfl, kb⟩
  · have px' : (x == 0) = false := by rw [beq_eq_false_iff_ne]; exact px
    have hm : mayB k x y b n = false := decide_eq_false (by unfold mayP; omega)
    rw [hm]; clear hm
    clear k1 k2 k3 k4 px
    go_enter Try.func23, Try.ntmps23
    go_wp2
    go_ret
    exact ⟨rfl, kb⟩
end Go.Proofs.Ytgnciejbhaebeaa

/- What keys.numbers.put and the reference's lay answer: a number in a version's way; and which event may not be. Conditions: events that can be read. -/
namespace Go.Proofs.Ytgnciejbhaebeaa
open Go Go.RowKit

def putL (f : Bool) (n : Nat) (size : Int) : List UInt8 := if f then numLI n size else varL n

set_option maxRecDepth 100000 in
set_option maxHeartbeats 1000000 in
theorem put_c (f : Bool) (n : Nat) (size : Int) (w : World) (hn : U64 n) :
    Calls Try.prog 60 #[.agg #[.bool f], .int .u64 n, .int .i64 size] w fun r w' => ∃ v, r = .returned v ∧ OwnB w' w.heap.size v (putL f n size) ∧ Below w.heap.size w w' := by
  have k0 : Below w.heap.size w (w.alloc (.cells #[.bool f] 111)) := (Below.refl _ _).alloc (Nat.le_refl _) _
  cases f
  · go_enter Try.func60, Try.ntmps60
    go_wp2_with (fail)
    refine (Var_c n _ hn).mono ?_
    rintro r w1 ⟨v, rfl, ho, hb⟩
    have HO := Lib.hid ho; clear ho
    go_wp2_with (fail)
    go_ret
    exact ⟨_, rfl, Own.low HO.out k0.size, k0.trans (hb.mono k0.size)⟩
  · go_enter Try.func60, Try.ntmps60
    go_wp2_with (fail)
    refine (Num_c n size _ hn).mono ?_
    rintro r w1 ⟨v, rfl, ho, hb⟩
    have HO := Lib.hid ho; clear ho
    go_wp2_with (fail)
    go_ret
    exact ⟨_, rfl, Own.low HO.out k0.size, k0.trans (hb.mono k0.size)⟩

set_option maxRecDepth 100000 in
set_option maxHeartbeats 1000000 in
theorem lay24_c (ver : Int) (n : Nat) (size : Int) (w : World) (hn : U64 n) :
    Calls Try.prog 62 #[.int .i64 ver, .int .u64 n, .int .i64 size] w fun r w' => ∃ v, r = .returned v ∧ OwnB w' w.heap.size v (putL (decide (ver = 1)) n size) ∧ Below w.heap.size w w' := by
  by_cases h1 : ver = 1
  · subst h1
    go_enter Try.func62, Try.ntmps62
    go_wp2_with (fail)
    refine (refNum_c n size _ hn).mono ?_
    rintro r w1 ⟨v, rfl, ho, hb⟩
    have HO := Lib.hid ho; clear ho
    go_wp2_with (fail)
    go_ret
    exact ⟨_, rfl, HO.out, hb⟩
  · have e1 : (ver == 1) = false := by rw [beq_eq_false_iff_ne]; exact h1
    have e2 : decide (ver = 1) = false := decide_eq_false h1
    have E2 := Lib.hid e2; clear e2 h1
    go_enter Try.func62, Try.ntmps62
    go_wp2_with (fail)
    refine (refVar_c n _ hn).mono ?_
    rintro r w1 ⟨v, rfl, ho, hb⟩
    have HO := Lib.hid ho; clear ho
    go_wp2_with (fail)
    go_ret
    exact ⟨_, rfl, by rw [E2.out]; exact HO.out, hb⟩

def mostI (k : Int) : Int := if k = 1 then 8 else if k = 2 then 64 else -1
set_option maxRecDepth 100000 in
theorem most_c (k : Int) (w : World) : Calls Try.prog 61 #[.int .i64 k] w fun r w' => r = .returned (.int .i64 (mostI k)) ∧ w = w' := by
  by_cases h1 : k = 1
  · subst h1
    go_enter Try.func61, Try.ntmps61
    go_wp2
    go_ret
    exact ⟨rfl, rfl⟩
  · by_cases h2 : k = 2
    · subst h2
      go_enter Try.func61, Try.ntmps61
      go_wp2
      go_ret
      exact ⟨rfl, rfl⟩
    · have e1 : (k == 1) = false := by rw [beq_eq_false_iff_ne]; exact h1
      have e2 : (k == 2) = false := by rw [beq_eq_false_iff_ne]; exact h2
      have e3 : mostI k = -1 := by rw [mostI, if_neg h1, if_neg h2]
      rw [e3]
      clear e3 h1 h2
      go_enter Try.func61, Try.ntmps61
      go_wp2
      go_ret
      exact ⟨rfl, rfl⟩

set_option maxRecDepth 100000 in
theorem Enc1_c (k x y b : Int) (A : Option Addr) (n c : Nat) (w : World) :
    Calls Try.prog 59 #[.agg #[.int .i64 k, .slice A n c, .int .i64 x, .int .i64 y, .int .i64 b]] w fun r w' => r = .returned (.bool (!(mayB k x y b n))) ∧ Below w.heap.size w w' := by
  have k0 : Below w.heap.size w (w.alloc (.cells #[.int .i64 k, .slice A n c, .int .i64 x, .int .i64 y, .int .i64 b] 36)) := (Below.refl _ _).alloc (Nat.le_refl _) _
  go_enter Try.func59, Try.ntmps59
  go_wp2_with (fail)
  refine (May_c k x y b A n c _).mono ?_
  rintro r w1 ⟨rfl, hb⟩
  obtain ⟨m, em⟩ : ∃ m, m = mayB k x y b n := ⟨_, rfl⟩
  rw [← em]
  have EM := Lib.hid em; clear em
  cases m <;> (go_wp2_with (fail); go_ret; exact ⟨by rw [← EM.out] <;> rfl, k0.trans (hb.mono k0.size)⟩)

/-- The first event that may not be; -1: there is none. -/
def badGo : Nat → List Ev → Int
  | _, [] => -1
  | k, e :: es => if e.may then badGo (k + 1) es else k
theorem badGo_neg : ∀ (es : List Ev) (k : Nat), (0 ≤ badGo k es) ↔ es.all Ev.may = false
  | [], k => by simp [badGo]
  | e :: es, k => by
    rw [badGo, List.all_cons]
    cases h : e.may
    · simp
    · simpa using badGo_neg es (k + 1)

set_option maxRecDepth 100000 in
set_option maxHeartbeats 2000000 in
theorem IndexF_c (ok : Nat → Prop) (A : Option Addr) (n c : Nat) (ds : List EvV) (es : List Ev) (w : World) (hn : es.length = n) (hr : EvsR ok w A ds es) (hl : n ≤ 140737488355328) :
    Calls Try.prog 82 #[.slice A n c, .func (.func 59) #[] #[]] w fun r w' => r = .returned (.int .i64 (badGo 0 es)) ∧ Below w.heap.size w w' := by
  have HN := Lib.hid hn; clear hn
  obtain ⟨R, eR⟩ : ∃ R, R = badGo 0 es := ⟨_, rfl⟩
  rw [← eR]
  have ER := Lib.hid eR; clear eR
  go_enter Try.func82, Try.ntmps82
  go_wp2_with (fail)
  go_loopw [8] (fun i wr => ∃ (k : Nat), k ≤ n ∧ i = .int .i64 k ∧ Hid (badGo 0 es = badGo k (es.drop k)) ∧ Below w.heap.size w wr) (fun i _ => n - (intOf i).toNat)
  case atStart => exact ⟨0, Nat.zero_le _, rfl, Lib.hid (by rw [List.drop_zero]), Below.refl _ _⟩
  case round =>
    obtain ⟨k, hk, rfl, HG, kb⟩ := hrel
    rcases Nat.lt_or_ge k n with hlt | hge
    · obtain ⟨e, b1, o1, At, m, cm, ee, rfl, hb1, -, tt, c0, ca, cb, cc, cd⟩ := hr.at_ k (by rw [HN.out]; exact hlt)
      obtain ⟨t1, -⟩ := tt
      have hd : es.drop k = es[k]'(by rw [HN.out]; exact hlt) :: es.drop (k + 1) := List.drop_eq_getElem_cons (by rw [HN.out]; exact hlt)
      rw [← ee] at hd
      have hmay : e.may = mayB e.k e.x e.y e.b m := by rw [Ev.may, t1]
      have hg := HG.out
      rw [hd, badGo, hmay] at hg
      have HG2 := Lib.hid hg; clear hg HG hd hmay ee t1
      obtain ⟨z0, t, z2, z3, z4⟩ := e
      simp only at c0 ca cb cc cd HG2
      rw [← kb.cell (p := ⟨b1, _, none⟩) hb1] at c0 ca cb cc cd
      have hlt' : (k : Int) < (n : Int) := by omega
      go_wp2_with (fail)
      refine (Enc1_c z0 z2 z3 z4 At m cm wr).mono ?_
      rintro r w1 ⟨rfl, hb⟩
      have kb1 := kb.trans (hb.mono kb.size)
      clear c0 ca cb cc cd
      obtain ⟨M, eM⟩ : ∃ M, M = mayB z0 z2 z3 z4 m := ⟨_, rfl⟩
      rw [← eM]
      rw [← eM] at HG2
      clear eM
      cases M
      · have hR : R = k := by rw [ER.out, HG2.out]; rfl
        have HRR := Lib.hid hR; clear hR HG2
        go_wp2_with (fail)
        go_ret
        exact ⟨by rw [HRR.out] <;> rfl, kb1⟩
      · have hR : badGo 0 es = badGo (k + 1) (es.drop (k + 1)) := by rw [HG2.out]; rfl
        have HRR := Lib.hid hR; clear hR HG2
        go_wp2_with (fail)
        go_roundw
        case rel => exact ⟨k + 1, by omega, by go_num, HRR, kb1⟩
        case measure => simp [intOf]; omega
    · obtain rfl : n = k := by omega
      have hR : R = -1 := by rw [ER.out, HG.out, ← HN.out, List.drop_length]; rfl
      have HRR := Lib.hid hR; clear hR
      go_wp2_with (fail)
      go_ret
      exact ⟨by rw [HRR.out] <;> rfl, kb⟩
set_option maxRecDepth 100000 in
theorem ContF_c (ok : Nat → Prop) (A : Option Addr) (n c : Nat) (ds : List EvV) (es : List Ev) (w : World) (hn : es.length = n) (hr : EvsR ok w A ds es) (hl : n ≤ 140737488355328) :
    Calls Try.prog 58 #[.slice A n c, .func (.func 59) #[] #[]] w fun r w' => r = .returned (.bool (!es.all Ev.may)) ∧ Below w.heap.size w w' := by
  have hb := badGo_neg es 0
  obtain ⟨R, eR⟩ : ∃ R, R = badGo 0 es := ⟨_, rfl⟩
  rw [← eR] at hb
  have e1 : decide (0 ≤ R) = (!es.all Ev.may) := by
    cases h : es.all Ev.may
    · exact decide_eq_true (hb.2 h)
    · refine decide_eq_false (fun h2 => ?_)
      rw [hb.1 h2] at h; cases h
  have E1 := Lib.hid e1
  have ER := Lib.hid eR
  clear e1 eR hb
  go_enter Try.func58, Try.ntmps58
  go_wp2_with (fail)
  refine (IndexF_c ok A n c ds es w hn hr hl).mono ?_
  rintro r w1 ⟨rfl, hb⟩
  rw [← ER.out]
  go_wp2_with (fail)
  go_ret
  exact ⟨by rw [← E1.out] <;> rfl, hb⟩
end Go.Proofs.Ytgnciejbhaebeaa

/- The bytes of a batch of events, in plain words. Conditions: none. -/
namespace Go.Proofs.Ytgnciejbhaebeaa
open Go Go.RowKit

def evL (f : Bool) (e : Ev) : List UInt8 :=
  putL f e.k.toNat 1 ++ (if e.k = 1 ∨ e.k = 2 then putL f e.t.length 1 ++ e.t else putL f e.x.toNat 1 ++ putL f e.y.toNat 1 ++ (if e.k = 3 then putL f e.b.toNat 1 else []))
def evsL (f : Bool) (es : List Ev) : List UInt8 := (es.map (evL f)).flatten
def encL (f : Bool) (base : Nat) (es : List Ev) : List UInt8 := putL f base 8 ++ putL f es.length 1 ++ evsL f es
def encE (ver : Int) (base : Nat) (es : List Ev) : List UInt8 × Nat :=
  if ver < 1 ∨ 3 < ver ∨ es = [] ∨ es.all Ev.may = false then ([], 1) else if 16 < es.length then ([], 4) else (encL (decide (ver = 1)) base es, 0)
theorem numLI_le (n : Nat) (s : Int) : (numLI n s).length ≤ 8 := by
  unfold numLI
  split
  · rw [numL_length]; omega
  · simp
theorem putL_le (f : Bool) (n : Nat) (s : Int) (h : U64 n) : (putL f n s).length ≤ 10 := by
  unfold putL
  split
  · have := numLI_le n s; omega
  · exact varL_len10 h
theorem may_bounds {e : Ev} (h : e.may = true) : (e.k = 1 ∨ e.k = 2 ∨ e.k = 3 ∨ e.k = 4) ∧ e.t.length ≤ 64 ∧ 0 ≤ e.x ∧ e.x ≤ 80 ∧ 0 ≤ e.y ∧ e.y ≤ 24 ∧ 0 ≤ e.b ∧ e.b ≤ 255 := by
  have := of_decide_eq_true h
  unfold mayP at this
  omega
theorem u64_small {n : Nat} (h : n ≤ 1000000) : U64 n := by unfold U64; omega
theorem evL_le (f : Bool) (e : Ev) (h : e.may = true) : (evL f e).length ≤ 100 := by
  obtain ⟨h0, h1, h2, h3, h4, h5, h6, h7⟩ := may_bounds h
  have p0 := putL_le f e.k.toNat 1 (u64_small (by omega))
  have p1 := putL_le f e.t.length 1 (u64_small (by omega))
  have p2 := putL_le f e.x.toNat 1 (u64_small (by omega))
  have p3 := putL_le f e.y.toNat 1 (u64_small (by omega))
  have p4 := putL_le f e.b.toNat 1 (u64_small (by omega))
  unfold evL
  rw [List.length_append]
  split
  · rw [List.length_append]; omega
  · rw [List.length_append, List.length_append]
    split
    · omega
    · simp only [List.length_nil]; omega
theorem evsL_le (f : Bool) : ∀ (es : List Ev), es.all Ev.may = true → (evsL f es).length ≤ 100 * es.length
  | [], _ => by simp [evsL]
  | e :: es, h => by
    rw [List.all_cons, Bool.and_eq_true] at h
    have h1 := evL_le f e h.1
    have h2 := evsL_le f es h.2
    have e1 : evsL f (e :: es) = evL f e ++ evsL f es := rfl
    rw [e1, List.length_append, List.length_cons]
    omega
theorem evsL_take (f : Bool) (es : List Ev) (k : Nat) (h : k < es.length) : evsL f (es.take (k + 1)) = evsL f (es.take k) ++ evL f es[k] := by
  unfold evsL
  rw [List.take_succ_eq_append_getElem h, List.map_append, List.flatten_append, List.map_cons, List.map_nil, List.flatten_cons, List.flatten_nil, List.append_nil]
def preL (f : Bool) (base n : Nat) (es : List Ev) : List UInt8 := putL f base 8 ++ putL f n 1 ++ evsL f es
theorem preL_le (f : Bool) (base n : Nat) (es : List Ev) (hb : U64 base) (hn : n ≤ 16) (hm : es.all Ev.may = true) (hl : es.length ≤ 16) : (preL f base n es).length ≤ 2000 := by
  have p0 := putL_le f base 8 hb
  have p1 := putL_le f n 1 (u64_small (by omega))
  have p2 := evsL_le f es hm
  unfold preL
  rw [List.length_append, List.length_append]
  omega
theorem all_take {es : List Ev} (h : es.all Ev.may = true) (k : Nat) : (es.take k).all Ev.may = true := by
  rw [List.all_eq_true] at h ⊢
  intro e he
  exact h e (List.mem_of_mem_take he)
end Go.Proofs.Ytgnciejbhaebeaa
