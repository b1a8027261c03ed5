/- Parts one behind the other: What rows.lay answers: the diff by rows. Conditions: as told at each. -/
import Derived.Test.YtipofokinjkclaaDoorPE17

set_option linter.unusedVariables false
set_option linter.unusedSimpArgs false
/- What rows.lay answers: the diff by rows. Conditions: the second screen fits, the first has as many cells. -/
namespace Go.Proofs.YtipofokinjkclaaDoor
open Go Go.RowKit Go.Lib

theorem cellEq_comm (x y : CeD) : cellEq x y = cellEq y x := by
  unfold cellEq
  rw [penEq_comm x y]
  have h1 : decide (x.r = y.r) = decide (y.r = x.r) := decide_eq_decide.2 ⟨Eq.symm, Eq.symm⟩
  have h2 : decide (x.w = y.w) = decide (y.w = x.w) := decide_eq_decide.2 ⟨Eq.symm, Eq.symm⟩
  rw [h1, h2]
theorem sameC_comm : ∀ x y : List CeD, sameC x y = sameC y x
  | [], [] => rfl
  | [], _ :: _ => rfl
  | _ :: _, [] => rfl
  | x :: a, y :: b => by rw [sameC, sameC, cellEq_comm, sameC_comm a b]
theorem Hc.keep {F : List UInt8} {B L : Nat} {a b : World} {j : Nat} {cs : Array Value} {t : TypeId} (h : Hc F B L a b) (hj : a.heap[j]? = some (.cells cs t (0, 0))) (ht : t ≠ 5) : b.heap[j]? = some (.cells cs t (0, 0)) := by
  rcases h.blk j (heap_lt hj) with e | ⟨cs', ds, h1, _⟩
  · exact e.trans hj
  · rw [hj] at h1
    injection h1 with h1
    injection h1 with _ h2
    exact absurd h2 ht
theorem cuts4 (Q A B C D : List UInt8) (k : Nat) (hq : k = Q.length) (ha : A.length = 4) (hb : B.length = 2) (hc : C.length = 2) (hd : D.length = 1) :
    (Q ++ (A ++ B ++ C ++ D)).length = k + 4 + 2 + 2 + 1 ∧ ((Q ++ (A ++ B ++ C ++ D)).drop k).take 4 = A ∧ ((Q ++ (A ++ B ++ C ++ D)).drop (k + 4)).take 2 = B ∧ ((Q ++ (A ++ B ++ C ++ D)).drop (k + 4 + 2)).take 2 = C ∧ ((Q ++ (A ++ B ++ C ++ D)).drop (k + 4 + 2 + 2)).take 1 = D := by
  subst hq
  refine ⟨by simp only [List.length_append]; omega, ?_, ?_, ?_, ?_⟩
  · rw [List.drop_left' rfl, List.append_assoc, List.append_assoc, List.take_left' ha]
  · rw [show Q ++ (A ++ B ++ C ++ D) = (Q ++ A) ++ (B ++ (C ++ D)) by simp only [List.append_assoc], List.drop_left' (by simp only [List.length_append]; omega), List.take_left' hb]
  · rw [show Q ++ (A ++ B ++ C ++ D) = (Q ++ A ++ B) ++ (C ++ D) by simp only [List.append_assoc], List.drop_left' (by simp only [List.length_append]; omega), List.take_left' hc]
  · rw [show Q ++ (A ++ B ++ C ++ D) = (Q ++ A ++ B ++ C) ++ D by simp only [List.append_assoc], List.drop_left' (by simp only [List.length_append]; omega), List.take_of_length_le (by omega)]
theorem or_one {f0 : Nat} (h : f0 = 0 ∨ f0 = 4) : bits BinOp.or .u8 (f0 : Int) 1 = ((f0 + 1 : Nat) : Int) := by rcases h with rfl | rfl <;> kernel_rfl
theorem or_two {F : Nat} (h : F = 0 ∨ F = 4 ∨ F = 1 ∨ F = 5) : bits BinOp.or .u8 (F : Int) 2 = ((F + 2 : Nat) : Int) := by rcases h with rfl | rfl | rfl | rfl <;> kernel_rfl
theorem and_two {F : Nat} (h : F = 0 ∨ F = 4 ∨ F = 1 ∨ F = 5) (t : Bool) : (bits BinOp.and .u8 ((F + (if t then 2 else 0) : Nat) : Int) 2 != 0) = t := by rcases h with rfl | rfl | rfl | rfl <;> cases t <;> kernel_rfl
set_option maxRecDepth 100000 in
set_option maxHeartbeats 16000000 in
theorem lay_c (a b : ScD) (A1 : Option Addr) (n1 c1 : Nat) (L1 : Option Addr) (m1 k1 : Nat) (A : Option Addr) (n c : Nat) (L : Option Addr) (m cm : Nat) (C R f0 : Nat) (w : World)
    (ha : ScR w a A1 n1 c1 L1 m1 k1) (hb : ScR w b A n c L m cm) (hf : Fit16 b C R) (hce : ∀ d ∈ b.cells, CeN d) (hal : a.cells.length = C * R) (h0 : f0 = 0 ∨ f0 = 4) :
    Calls Tryd.prog 48 #[.agg (scC a A1 n1 c1 L1 m1 k1), .agg (scC b A n c L m cm), .int .u8 (f0 : Int)] w fun e w' => ∃ v, e = .returned v ∧ OwnB w' w.heap.size v (layB a b f0) ∧ Below w.heap.size w w' := by
  obtain ⟨X, eX⟩ : ∃ X, X = scC a A1 n1 c1 L1 m1 k1 := ⟨_, rfl⟩
  obtain ⟨Y, eY⟩ : ∃ Y, Y = scC b A n c L m cm := ⟨_, rfl⟩
  rw [← eX, ← eY]
  obtain ⟨Z, eZ⟩ : ∃ Z, layB a b f0 = Z := ⟨_, rfl⟩
  rw [eZ]
  have EZ := Lib.hid eZ
  obtain ⟨W0, eW0⟩ : ∃ W0, W0 = (w.alloc (.cells X 25)).alloc (.cells Y 25) := ⟨_, rfl⟩
  obtain ⟨p, ep⟩ : ∃ p, p = w.heap.size := ⟨_, rfl⟩
  obtain ⟨q, eq⟩ : ∃ q, q = w.heap.size + 1 := ⟨_, rfl⟩
  have hb0 : Below w.heap.size w W0 := by rw [eW0]; exact ((Below.refl _ _).alloc (Nat.le_refl _) _).alloc (by simp) _
  have HP0 : Hid (ScB W0 p a A1 n1 c1 L1 m1 k1) := Lib.hid (by rw [eW0, ep, eX]; exact (Below.heap_alloc _ _ _ (by simp)).trans (heap_alloc_new _ _))
  have HQ0 : Hid (ScB W0 q b A n c L m cm) := Lib.hid (by rw [eW0, eq, eY]; exact heap_alloc2_new _ _ _)
  have EW0 := Lib.hid eW0
  have EP := Lib.hid ep
  have EQ := Lib.hid eq
  have HB0 := Lib.hid hb0
  have HRA := Lib.hid (ha.below hb0)
  have HRB := Lib.hid (hb.below hb0)
  have HF := Lib.hid hf
  have HCE := Lib.hid hce
  have HAL := Lib.hid hal
  have HSZ : Hid (p < W0.heap.size ∧ q < W0.heap.size ∧ w.heap.size ≤ W0.heap.size) := Lib.hid ⟨heap_lt HP0.out, heap_lt HQ0.out, hb0.size⟩
  clear eX eY eZ eW0 ep eq hb0 ha hb hf hce hal
  go_enter Tryd.func48, Tryd.ntmps48
  go_upto_region 1 with (fail)
  rw [← EW0.out, ← EQ.out, ← EP.out]
  have x5 : W0.cell? ⟨q, 5, none⟩ = some (.bool b.hid) := HQ0.out.nine.2.2.2.2.2.1
  go_upto_if 14 with (fail)
  clear x5
  obtain ⟨F1, eF1⟩ : ∃ F, F = f0 + (if b.hid then 1 else 0) := ⟨_, rfl⟩
  have EF1 := Lib.hid eF1
  have HF1 : Hid (F1 = 0 ∨ F1 = 4 ∨ F1 = 1 ∨ F1 = 5) := Lib.hid (by rw [eF1]; rcases h0 with rfl | rfl <;> cases b.hid <;> decide)
  clear eF1
  go_cut [2] (fun s2 wx => s2 = .int .u8 (F1 : Int) ∧ Hid (wx = W0))
  case first =>
    have hor := or_one h0
    cases hb : b.hid
    · have e1 : Hid ((f0 : Int) = (F1 : Int)) := Lib.hid (by rw [EF1.out, hb]; rfl)
      clear hb
      go_wp2_with (fail)
      go_meet
      exact ⟨by rw [e1.out], Lib.hid rfl⟩
    · have e1 : Hid ((f0 : Int) + 1 = (F1 : Int)) := Lib.hid (by rw [EF1.out, hb]; rfl)
      clear hb
      go_wp2_with (fail)
      go_meet
      exact ⟨by first | rw [← e1.out] | (rw [← e1.out]; rfl), Lib.hid rfl⟩
  case rest =>
  obtain ⟨rfl, hwc⟩ := hcut
  obtain rfl := hwc.out.symm
  clear hwc h0
  obtain ⟨TE, eTE⟩ : ∃ t, (b.title.toList == a.title.toList) = t := ⟨_, rfl⟩
  have HTE := Lib.hid eTE
  have x7 : W0.cell? ⟨q, 7, none⟩ = some (.string b.title) := HQ0.out.nine.2.2.2.2.2.2.2.1
  have y7 : W0.cell? ⟨p, 7, none⟩ = some (.string a.title) := HP0.out.nine.2.2.2.2.2.2.2.1
  go_upto_if 21 with (fail)
  clear x7 y7 eTE
  obtain ⟨F2, eF2⟩ : ∃ F, F = F1 + (if (!TE) then 2 else 0) := ⟨_, rfl⟩
  have EF2 := Lib.hid eF2
  have HF2 : Hid (F2 ≤ 7) := Lib.hid (by rw [eF2]; rcases HF1.out with h | h | h | h <;> rw [h] <;> cases TE <;> decide)
  have EFL : Hid (flagsN f0 b.hid (!TE) = F2) := Lib.hid (by rw [flags_hid, eF2, EF1.out])
  have HAN : Hid ((bits BinOp.and .u8 (F2 : Int) 2 != 0) = !TE) := Lib.hid (by rw [eF2]; exact and_two HF1.out (!TE))
  clear eF2
  clear EW0
  go_cut [2] (fun s2 wx => s2 = .int .u8 (F2 : Int) ∧ Hid (wx = W0))
  case first =>
    have hor := or_two HF1.out
    cases TE
    · have e1 : Hid ((F1 : Int) + 2 = (F2 : Int)) := Lib.hid (by rw [EF2.out]; rfl)
      go_wp2_with (fail)
      go_meet
      exact ⟨by first | rw [← e1.out] | (rw [← e1.out]; rfl), Lib.hid rfl⟩
    · have e1 : Hid ((F1 : Int) = (F2 : Int)) := Lib.hid (by rw [EF2.out]; rfl)
      go_wp2_with (fail)
      go_meet
      exact ⟨by rw [e1.out], Lib.hid rfl⟩
  case rest =>
  obtain ⟨rfl, hwc⟩ := hcut
  obtain rfl := hwc.out.symm
  clear hwc
  obtain ⟨X0, eX0⟩ : ∃ x : Nat, b.x = (x : Int) := ⟨b.x.toNat, by have := HF.out.x0; omega⟩
  obtain ⟨Y0, eY0⟩ : ∃ y : Nat, b.y = (y : Int) := ⟨b.y.toNat, by have := HF.out.y0; omega⟩
  have HXY : Hid (X0 < C ∧ Y0 < R) := Lib.hid (by have h1 := HF.out.x1; have h2 := HF.out.y1; rw [eX0] at h1; rw [eY0] at h2; omega)
  have EX0 := Lib.hid eX0
  have EY0 := Lib.hid eY0
  have x0 : W0.cell? ⟨q, 0, none⟩ = some (.int .i64 (C : Int)) := by rw [← HF.out.c]; exact HQ0.out.nine.1
  have x1 : W0.cell? ⟨q, 1, none⟩ = some (.int .i64 (R : Int)) := by rw [← HF.out.r]; exact HQ0.out.nine.2.1
  have x3 : W0.cell? ⟨q, 3, none⟩ = some (.int .i64 (X0 : Int)) := by rw [← eX0]; exact HQ0.out.nine.2.2.2.1
  have x4 : W0.cell? ⟨q, 4, none⟩ = some (.int .i64 (Y0 : Int)) := by rw [← eY0]; exact HQ0.out.nine.2.2.2.2.1
  have hw0 : IntKind.u8.wrap (C : Int) = (C : Int) := IntWalk.u8_in _ ⟨by omega, by have := HF.out.c2; omega⟩
  have hw1 : IntKind.u8.wrap (R : Int) = (R : Int) := IntWalk.u8_in _ ⟨by omega, by have := HF.out.r2; omega⟩
  have hw3 : IntKind.u8.wrap (X0 : Int) = (X0 : Int) := IntWalk.u8_in _ ⟨by omega, by have := HXY.out.1; have := HF.out.c2; omega⟩
  have hw4 : IntKind.u8.wrap (Y0 : Int) = (Y0 : Int) := IntWalk.u8_in _ ⟨by omega, by have := HXY.out.2; have := HF.out.r2; omega⟩
  have HD5 : Hid (OwnB (W0.alloc (.cells #[.int .u8 (C : Int), .int .u8 (R : Int), .int .u8 (X0 : Int), .int .u8 (Y0 : Int), .int .u8 (F2 : Int)] 5)) W0.heap.size (.slice (some ⟨W0.heap.size, 0, none⟩) 5 5) [lo C, lo R, lo X0, lo Y0, lo F2]) := Lib.hid (by
    have c2 := HF.out.c2; have r2 := HF.out.r2; have hx := HXY.out; have h5 := HF2.out
    refine OwnB_lit W0 [lo C, lo R, lo X0, lo Y0, lo F2] _ ?_ 5 rfl (by simp)
    simp only [List.map_cons, List.map_nil]
    rw [← int_lo (x := (C : Int)) (n := C) (by omega), ← int_lo (x := (R : Int)) (n := R) (by omega), ← int_lo (x := (X0 : Int)) (n := X0) (by omega), ← int_lo (x := (Y0 : Int)) (n := Y0) (by omega), ← int_lo (x := (F2 : Int)) (n := F2) (by omega)])
  clear eX0 eY0
  have han := HAN.out
  go_upto_if 40 with (fail)
  clear x0 x1 x3 x4 hw0 hw1 hw3 hw4 han
  obtain ⟨W5, eW5⟩ : ∃ W, W = W0.alloc (.cells #[.int .u8 (C : Int), .int .u8 (R : Int), .int .u8 (X0 : Int), .int .u8 (Y0 : Int), .int .u8 (F2 : Int)] 5) := ⟨_, rfl⟩
  rw [← eW5] at HD5 ⊢
  have HK5 : Hid (Below W0.heap.size W0 W5) := Lib.hid (by rw [eW5]; exact (Below.refl _ _).alloc (Nat.le_refl _) _)
  clear eW5
  obtain ⟨HH, eHH⟩ : ∃ H, H = [lo C, lo R, lo X0, lo Y0, lo F2] ++ ttlB (!TE) b.title := ⟨_, rfl⟩
  have EHH := Lib.hid eHH
  have HHL : Hid (HH.length ≤ 70) := Lib.hid (by have := HF.out.tl; rw [eHH, List.length_append]; unfold ttlB; split <;> simp [strB_len] <;> omega)
  have EHD : Hid (headB a b f0 = HH) := Lib.hid (by
    rw [headB, HTE.out, EFL.out, eHH, HF.out.c, HF.out.r, EX0.out, EY0.out]; rfl)
  clear eHH
  obtain ⟨B0, eB0⟩ : ∃ B, B = W0.heap.size := ⟨_, rfl⟩
  rw [← eB0] at HK5
  obtain ⟨V5, eV5⟩ : ∃ V, V = Value.slice (some ⟨W0.heap.size, 0, none⟩) 5 5 := ⟨_, rfl⟩
  rw [← eV5, ← eB0] at HD5
  rw [← eV5]
  have HZ5 : Hid (B0 ≤ W5.heap.size) := Lib.hid (by rw [eB0]; exact HK5.out.size)
  have HB00 : Hid (w.heap.size ≤ B0 ∧ p < B0 ∧ q < B0) := Lib.hid (by rw [eB0]; exact ⟨HSZ.out.2.2, HSZ.out.1, HSZ.out.2.1⟩)
  have EB0 := Lib.hid eB0
  clear eV5 eB0
  go_cut [7] (fun s8 wx => Hid (OwnB wx B0 s8 HH) ∧ Hid (Below B0 W0 wx))
  case first =>
    cases TE
    rotate_left
    · have e1 : Hid ([lo C, lo R, lo X0, lo Y0, lo F2] = HH) := Lib.hid (by rw [EHH.out]; exact (List.append_nil _).symm)
      go_wp2_with (fail)
      go_meet
      exact ⟨Lib.hid (by rw [← e1.out]; exact HD5.out), HK5⟩
    · have e1 : Hid (([lo C, lo R, lo X0, lo Y0, lo F2] ++ [lo b.title.size]) ++ strB b.title = HH) := Lib.hid (by rw [EHH.out, List.append_assoc]; rfl)
      have hq5 : ScB W5 q b A n c L m cm := (HK5.out.block q HB00.out.2.2).trans HQ0.out
      have x7 : W5.cell? ⟨q, 7, none⟩ = some (.string b.title) := hq5.nine.2.2.2.2.2.2.2.1
      have hts : b.title.size ≤ 64 := HF.out.tl
      have hwt : IntKind.u8.wrap (b.title.size : Int) = (b.title.size : Int) := IntWalk.u8_in _ ⟨by omega, by omega⟩
      have HLT : Hid (Value.int .u8 (b.title.size : Int) = bv (lo b.title.size)) := Lib.hid (int_lo (by rw [Nat.mod_eq_of_lt (by omega)]))
      clear hq5
      go_upto_region 7 with (fail)
      have HX7 : Hid (OutV HH B0 5 5 W5.drew V5) := Lib.hid (by
        have h := OutV.of (F := HH) (L := 5) HD5.out ⟨ttlB true b.title, EHH.out⟩ (Nat.le_refl _) (by simp)
        exact h)
      have HQ5 : Hid (ScB W5 q b A n c L m cm) := Lib.hid ((HK5.out.block q HB00.out.2.2).trans HQ0.out)
      have HHN : Hid (HH.length = 6 + b.title.size ∧ (HH.drop 5).take 1 = [lo b.title.size] ∧ (HH.drop 6).take b.title.size = strB b.title) := Lib.hid (by
        rw [← e1.out]
        refine ⟨by simp [strB_len]; omega, rfl, ?_⟩
        show (strB b.title).take b.title.size = strB b.title
        exact List.take_of_length_le (by rw [strB_len]; exact Nat.le_refl _))
      clear x7
      refine wp_region_rht (F := HH) (B := B0) (L := 5) 130 10 [Rh.out 5, Rh.eq (.pointer (some ⟨q, 7, none⟩)), Rh.eq (.string b.title), Rh.eq (.int .i64 (b.title.size : Int)), Rh.eq (.int .u8 (b.title.size : Int)), Rh.small [lo b.title.size], Rh.out 6, Rh.eq (.pointer (some ⟨q, 7, none⟩)), Rh.eq (.string b.title), Rh.out (6 + b.title.size)] [41, 42, 43, 44, 45, 46, 47, 48, 49, 50, 7] (by kernel_rfl) rfl (by kernel_rfl) (by kernel_rfl) (by decide) (by kernel_rfl) (by kernel_rfl) ?_ ?_
      · simp only [List.take_succ_cons, List.take_zero]
        repeat (first | exact AllFrom.nil_ | (refine AllFrom.cons_ (by rfl) ?_ ?_; rotate_left))
        · intro f_ w' g_ hF hD
          have h7 : f_ 7 = V5 := hF 7 (by kernel_rfl)
          rw [if_pos (wanted_none rfl)]
          clear hF hD
          exact gives_val (by simp only [execOp, evF, h7]; first | rfl | go_simp) ⟨Hc.refl _ _ _ _, (Rh.out (F := HH) (B := B0) (L := 5) 5).mono HX7.out g_⟩
        · intro f_ w' g_ hF hD
          have h4 : f_ 4 = .pointer (some ⟨q, 0, none⟩) := hF 4 (by kernel_rfl)
          rw [if_pos (wanted_none rfl)]
          clear hF hD
          exact gives_val (by simp only [execOp, evF, h4]; first | rfl | go_simp) ⟨Hc.refl _ _ _ _, rfl⟩
        · intro f_ w' g_ hF hD
          have h42 : f_ 42 = (.pointer (some ⟨q, 7, none⟩)) := hD 1 42 (by kernel_rfl) rfl
          rw [if_pos (wanted_none rfl)]
          clear hF hD
          have cl : w'.cell? ⟨q, 7, none⟩ = some (.string b.title) := (show ScB w' q b A n c L m cm from (g_.low.block q HB00.out.2.2).trans HQ5.out).nine.2.2.2.2.2.2.2.1
          exact gives_val (by simp only [execOp, evF, h42]; go_simp) ⟨Hc.refl _ _ _ _, rfl⟩
        · intro f_ w' g_ hF hD
          have h43 : f_ 43 = (.string b.title) := hD 2 43 (by kernel_rfl) rfl
          rw [if_pos (wanted_none rfl)]
          clear hF hD
          exact gives_val (by simp only [execOp, List.map_toArray, List.map_cons, List.map_nil, evF, h43]; go_simp; simp only [evF, h43]; rw [run_len_string _ _ _ _ Tryd.underlying9]; rfl) ⟨Hc.refl _ _ _ _, rfl⟩
        · intro f_ w' g_ hF hD
          have h44 : f_ 44 = (.int .i64 (b.title.size : Int)) := hD 3 44 (by kernel_rfl) rfl
          rw [if_pos (wanted_none rfl)]
          clear hF hD
          exact gives_val (by simp only [execOp, evF, h44]; first | rfl | go_simp) ⟨Hc.refl _ _ _ _, rfl⟩
        · intro f_ w' g_ hF hD
          have h45 : f_ 45 = (.int .u8 (b.title.size : Int)) := hD 4 45 (by kernel_rfl) rfl
          rw [if_pos (wanted_none rfl)]
          clear hF hD
          have hBw : B0 ≤ w'.heap.size := Nat.le_trans HZ5.out g_.low.size
          exact gives_lit1 (.tmp 45) rfl _ (lo b.title.size) (by simp only [evF, h45]) HLT.out (by decide) hBw
        · intro f_ w' g_ hF hD
          have q41 := hD 0 41 (by kernel_rfl) rfl
          have q46 := hD 5 46 (by kernel_rfl) rfl
          rw [if_pos (wanted_none rfl)]
          clear hF hD
          have hBw : B0 ≤ w'.heap.size := Nat.le_trans HZ5.out g_.low.size
          exact gives_app (.tmp 41) (.tmp 46) rfl 5 1 [lo b.title.size] rfl q41 q46 HHN.out.2.1 (by decide) (by decide) hBw
        · intro f_ w' g_ hF hD
          have h4 : f_ 4 = .pointer (some ⟨q, 0, none⟩) := hF 4 (by kernel_rfl)
          rw [if_pos (wanted_none rfl)]
          clear hF hD
          exact gives_val (by simp only [execOp, evF, h4]; first | rfl | go_simp) ⟨Hc.refl _ _ _ _, rfl⟩
        · intro f_ w' g_ hF hD
          have h48 : f_ 48 = (.pointer (some ⟨q, 7, none⟩)) := hD 7 48 (by kernel_rfl) rfl
          rw [if_pos (wanted_none rfl)]
          clear hF hD
          have cl : w'.cell? ⟨q, 7, none⟩ = some (.string b.title) := (show ScB w' q b A n c L m cm from (g_.low.block q HB00.out.2.2).trans HQ5.out).nine.2.2.2.2.2.2.2.1
          exact gives_val (by simp only [execOp, evF, h48]; go_simp) ⟨Hc.refl _ _ _ _, rfl⟩
        · intro f_ w' g_ hF hD
          have q47 := hD 6 47 (by kernel_rfl) rfl
          have h49 : f_ 49 = (.string b.title) := hD 8 49 (by kernel_rfl) rfl
          rw [if_pos (wanted_none rfl)]
          clear hF hD
          have hBw : B0 ≤ w'.heap.size := Nat.le_trans HZ5.out g_.low.size
          exact gives_appStr (.tmp 47) (.tmp 49) rfl 6 b.title.size b.title rfl q47 (by simp only [evF, h49]) HHN.out.2.2 (by omega) (by decide) hBw
      intro f_ w7 gg hD
      have h7 : OutV HH B0 5 (6 + b.title.size) w7 (f_ 50) := hD 9 50 (by decide) rfl
      simp only [List.drop_succ_cons, List.drop_zero, putAll, List.setIfInBounds_toArray, List.set_cons_zero, List.set_cons_succ]
      have HO7 : Hid (OwnB w7 B0 (f_ 50) HH) := Lib.hid (by have h := h7.own; rw [List.take_of_length_le (by rw [HHN.out.1]; exact Nat.le_refl _)] at h; exact h)
      have HK7 : Hid (Below B0 W0 w7) := Lib.hid ((below_drewN HK5.out 1).trans gg.low)
      generalize f_ 41 = d41
      generalize f_ 42 = d42
      generalize f_ 43 = d43
      generalize f_ 44 = d44
      generalize f_ 45 = d45
      generalize f_ 46 = d46
      generalize f_ 47 = d47
      generalize f_ 48 = d48
      generalize f_ 49 = d49
      generalize f_ 50 = d50 at HO7 ⊢
      generalize f_ 7 = d7
      clear hD gg h7
      go_wp2_with (fail)
      go_meet
      exact ⟨HO7, HK7⟩
  case rest =>
  obtain ⟨W9, eW9⟩ : ∃ x, x = wc := ⟨_, rfl⟩
  rw [← eW9] at hcut ⊢
  obtain ⟨HO9, HK9⟩ := hcut
  clear eW9
  obtain ⟨A8, c8, e8, hn8, hm8, r8, hA8⟩ := OwnB.form HO9.out
  obtain ⟨hl, ehl⟩ : ∃ k, k = HH.length := ⟨_, rfl⟩
  rw [← ehl] at e8
  subst e8
  have EHL := Lib.hid ehl
  have HHL5 : Hid (5 ≤ hl ∧ hl ≤ 70) := Lib.hid ⟨by rw [ehl, EHH.out, List.length_append]; simp, by rw [ehl]; exact HHL.out⟩
  have HZ9 : Hid (B0 ≤ W9.heap.size) := Lib.hid (by rw [EB0.out]; exact HK9.out.size)
  have HZE : Hid (Value.int .u8 0 = bv (lo 0)) := Lib.hid rfl
  have hl1 : HH.length + 1 ≤ 140737488355328 := by have := HHL.out; omega
  clear ehl hn8 hm8 r8 hA8 HD5 HK5 HZ5
  go_upto_region 10 with (first
    | (at_builtin; (refine wpList_appB1 _ rfl (.tmp 53) (.tmp 54) rfl B0 _ _ rfl HO9.out (.int .u8 0) rfl (lo 0) HZE.out hl1 HZ9.out ?_); intro v6 w6 h6 hg6 _; have hk6 : Below B0 W9 w6 := ((Below.refl _ _).alloc HZ9.out _).grown hg6 (Nat.le_trans HZ9.out (by simp)) (fun k e => (Own.lt HO9.out k e).1); have HO6 := Lib.hid h6; have HK6 := Lib.hid (HK9.out.trans hk6); clear h6 hg6 hk6))
  clear hl1 HO9 HK9 HZ9
  obtain ⟨T, eT⟩ : ∃ T, T = rowsT C a.cells b.cells := ⟨_, rfl⟩
  have ET := Lib.hid eT
  have HTL : Hid (∀ y, y ≤ R → (T y).1 ≤ y ∧ (T y).2.length ≤ 20000) := Lib.hid (fun y hy => by
    have h1 := rowsT_le C a.cells b.cells y
    have h2 := rowsT_length C a.cells b.cells y
    have h3 := Nat.mul_le_mul (show y ≤ 24 by have := HF.out.r2; omega) (show C * 9 + 1 ≤ 721 by have := HF.out.c2; omega)
    have := HF.out.r2
    rw [eT]; omega)
  have EZ9 : Hid (HH ++ [lo (T R).1] ++ (T R).2 = Z) := Lib.hid (by
    rw [← EZ.out, layB, EHD.out, HF.out.c, HF.out.r, eT, Int.toNat_natCast, Int.toNat_natCast, List.append_assoc]; rfl)
  have HO0 : Hid (OwnB w6 B0 v6 (HH ++ [lo (T 0).1] ++ (T 0).2)) := Lib.hid (by rw [eT]; show OwnB w6 B0 v6 (HH ++ [lo 0] ++ []); rw [List.append_nil]; exact HO6.out)
  have x1 : w6.cell? ⟨q, 1, none⟩ = some (.int .i64 (R : Int)) := by rw [← HF.out.r]; exact (show ScB w6 q b A n c L m cm from (HK6.out.block q HB00.out.2.2).trans HQ0.out).nine.2.1
  clear eT EZ EHH EHD HO6 HTE HHL EF1 EF2 HF1 HF2 EFL HAN
  go_wp2_with (fail)
  clear x1
  go_loopw [7, 58] (fun v i wr => ∃ y : Nat, y ≤ R ∧ i = .int .i64 y ∧ Hid (OwnB wr B0 v (HH ++ [lo (T y).1] ++ (T y).2)) ∧ Hid (Below B0 W0 wr)) (fun _ i _ => R - (intOf i).toNat)
  case atStart => exact ⟨0, Nat.zero_le _, rfl, HO0, HK6⟩
  case round =>
    clear HO0 HK6
    obtain ⟨y, hy, rfl, HO, HK⟩ := hrel
    have hr2 : R ≤ 24 := HF.out.r2
    have hc2 : C ≤ 80 := HF.out.c2
    have HW : Hid (Below W0.heap.size W0 wr) := Lib.hid (by rw [← EB0.out]; exact HK.out)
    have HBW : Hid (B0 ≤ wr.heap.size) := Lib.hid (by rw [EB0.out]; exact HK.out.size)
    rcases Nat.lt_or_ge y R with hlt | hge
    · have hlt' : (y : Int) < (R : Int) := by omega
      have hq := (show ScB wr q b A n c L m cm from (HK.out.block q HB00.out.2.2).trans HQ0.out)
      have hp := (show ScB wr p a A1 n1 c1 L1 m1 k1 from (HK.out.block p HB00.out.2.1).trans HP0.out)
      have x0 : wr.cell? ⟨q, 0, none⟩ = some (.int .i64 (C : Int)) := by rw [← HF.out.c]; exact hq.nine.1
      have x2 : wr.cell? ⟨q, 2, none⟩ = some (.slice A n c) := hq.nine.2.2.1
      have y2 : wr.cell? ⟨p, 2, none⟩ = some (.slice A1 n1 c1) := hp.nine.2.2.1
      have hle : (y + 1) * C ≤ C * R := by rw [Nat.mul_comm C R]; exact Nat.mul_le_mul_right C hlt
      have HLA : Hid ((y + 1) * C ≤ a.cells.length ∧ (y + 1) * C ≤ b.cells.length) := Lib.hid ⟨by rw [HAL.out]; exact hle, by rw [HF.out.len]; exact hle⟩
      have hmx : C * R ≤ 1920 := Nat.mul_le_mul hc2 hr2
      obtain ⟨l, el⟩ : ∃ l, l = y * C := ⟨_, rfl⟩
      have hl1 : (y + 1) * C = l + C := by rw [el, Nat.add_mul, Nat.one_mul]
      have hl2 : l + C ≤ 1920 := by omega
      have e1 : (y : Int) * (C : Int) = (l : Int) := by rw [el]; exact (Int.natCast_mul y C).symm
      have e2 : ((y : Int) + 1) * (C : Int) = ((l + C : Nat) : Int) := by rw [← hl1, Int.natCast_mul]; rfl
      have HLL : Hid (l + C ≤ n1 ∧ l + C ≤ n) := Lib.hid ⟨by rw [← HRA.out.hn, ← hl1]; exact HLA.out.1, by rw [← HRB.out.hn, ← hl1]; exact HLA.out.2⟩
      have ELL := Lib.hid el
      have HRL : Hid ((rowAt C y a.cells).length = C ∧ (rowAt C y b.cells).length = C) := Lib.hid ⟨rowAt_length HLA.out.1, rowAt_length HLA.out.2⟩
      have HRW : Hid ((b.cells.drop l).take (l + C - l) = rowAt C y b.cells ∧ (a.cells.drop l).take (l + C - l) = rowAt C y a.cells ∧ l + C - l = C) := Lib.hid ⟨by rw [rowAt, el]; congr 1; omega, by rw [rowAt, el]; congr 1; omega, by omega⟩
      obtain ⟨SB, eSB⟩ : ∃ t, sameC (rowAt C y a.cells) (rowAt C y b.cells) = t := ⟨_, rfl⟩
      have HSB : Hid (sameC (rowAt C y b.cells) (rowAt C y a.cells) = SB) := Lib.hid (by rw [sameC_comm]; exact eSB)
      have HTY : Hid (T (y + 1) = if SB then T y else ((T y).1 + 1, (T y).2 ++ (lo y :: cellsB (rowAt C y b.cells)))) := Lib.hid (by rw [ET.out, rowsT, eSB])
      have hh1 : l + C ≤ n1 := HLL.out.1
      have hh2 : l + C ≤ n := HLL.out.2
      have hnc1 : n1 ≤ c1 := HRA.out.nc
      have hnc2 : n ≤ c := HRB.out.nc
      clear hle hmx hl1 el eSB hq hp
      go_upto_region 14 with (refine wpList_cutC2 _ W0 rfl (.tmp 62) (.tmp 66) (.tmp 71) rfl A n c rfl b.cells HRB.out.hn HRB.out.rd hnc2 _ _ rfl rfl l (l + C) rfl rfl (Nat.le_add_right _ _) hh2 ?_; intro B1 hB1; rw [HRW.out.1] at hB1; rw [HRW.out.2.2]; have HB1 := Lib.hid hB1; clear hB1)
      cases SB
      rotate_left
      · go_wp2_with (first
          | (refine wpList_cutC2 _ W0 rfl (.tmp 75) (.tmp 79) (.tmp 84) rfl A1 n1 c1 rfl a.cells HRA.out.hn HRA.out.rd hnc1 _ _ rfl rfl l (l + C) rfl rfl (Nat.le_add_right _ _) hh1 ?_; intro B2 hB2; rw [HRW.out.2.1] at hB2; rw [HRW.out.2.2]; have HB2 := Lib.hid hB2; clear hB2)
          | (go_at_call 87; (refine (equalC_c B1 C _ (rowAt C y b.cells) B2 C _ (rowAt C y a.cells) wr HRL.out.2 (RdC.below HB1.out HW.out) HRL.out.1 (RdC.below HB2.out HW.out) (by omega)).mono ?_); rintro _ w2 ⟨rfl, hb2⟩; rw [HSB.out]; have HO2 := Lib.hid (OwnB.below_ HO.out hb2); have HK2 := Lib.hid (HK.out.trans (hb2.mono HBW.out)); clear hb2))
        go_roundw
        case rel => exact ⟨y + 1, by omega, by go_num, Lib.hid (by rw [HTY.out]; exact HO2.out), HK2⟩
        case measure => simp [intOf]; omega
      · go_upto_region 15 with (first
          | (refine wpList_cutC2 _ W0 rfl (.tmp 75) (.tmp 79) (.tmp 84) rfl A1 n1 c1 rfl a.cells HRA.out.hn HRA.out.rd hnc1 _ _ rfl rfl l (l + C) rfl rfl (Nat.le_add_right _ _) hh1 ?_; intro B2 hB2; rw [HRW.out.2.1] at hB2; rw [HRW.out.2.2]; have HB2 := Lib.hid hB2; clear hB2)
          | (go_at_call 87; (refine (equalC_c B1 C _ (rowAt C y b.cells) B2 C _ (rowAt C y a.cells) wr HRL.out.2 (RdC.below HB1.out HW.out) HRL.out.1 (RdC.below HB2.out HW.out) (by omega)).mono ?_); rintro _ w2 ⟨rfl, hb2⟩; rw [HSB.out]; have HO2 := Lib.hid (OwnB.below_ HO.out hb2); have HK2 := Lib.hid (HK.out.trans (hb2.mono HBW.out)); clear hb2))
        clear x0 x2 y2 e1 e2 hh1 hh2 hnc1 hnc2 HLA HAL
        obtain ⟨N0, eN0⟩ : ∃ k, k = (T y).1 := ⟨_, rfl⟩
        obtain ⟨P0, eP0⟩ : ∃ k, k = (T y).2 := ⟨_, rfl⟩
        have HNP : Hid (N0 ≤ y ∧ P0.length ≤ 20000) := Lib.hid (by rw [eN0, eP0]; exact HTL.out y hy)
        have HTY2 : Hid (T (y + 1) = (N0 + 1, P0 ++ (lo y :: cellsB (rowAt C y b.cells)))) := Lib.hid (by rw [HTY.out, eN0, eP0]; rfl)
        rw [← eN0, ← eP0] at HO2
        obtain ⟨A2, k2, e2, hn2, hm2, r2, hA2⟩ := OwnB.form HO2.out
        obtain ⟨m2, em2⟩ : ∃ k, k = (HH ++ [lo N0] ++ P0).length := ⟨_, rfl⟩
        rw [← em2] at e2
        subst e2
        obtain ⟨g2, hg2⟩ : ∃ g, A2 = some ⟨g, 0, none⟩ := by
          cases hA : A2 with
          | none =>
            rcases r2 with h | ⟨_, _, h, _⟩
            · have := congrArg List.length h; simp at this
            · rw [hA] at h; cases h
          | some ad => obtain ⟨_, _, h1, h2⟩ := hA2 ad hA; obtain ⟨bb, oo, ss⟩ := ad; cases h1; cases h2; exact ⟨bb, rfl⟩
        subst hg2
        have hml : hl < (HH ++ [lo N0] ++ P0).length := by rw [List.length_append, List.length_append, EHL.out, List.length_cons, List.length_nil]; omega
        have hml2 : (hl : Int) < (m2 : Int) := by rw [em2]; omega
        have hml3 : hl < m2 := by rw [em2]; exact hml
        have hget : (HH ++ [lo N0] ++ P0)[hl] = lo N0 := by
          rw [List.getElem_append_left (by rw [List.length_append, EHL.out]; simp), List.getElem_append_right (by rw [EHL.out]; exact Nat.le_refl _)]
          simp [EHL.out]
        have z0 : w2.cell? ⟨g2, hl, none⟩ = some (.int .u8 (N0 : Int)) := by
          rw [HO2.out.cell hl hml, hget, int_lo (x := (N0 : Int)) (n := N0) (by rw [Nat.mod_eq_of_lt (by have := HNP.out; omega)])]
        have f0 := HO2.out.free hl
        have hwn : IntKind.u8.wrap ((N0 : Int) + 1) = (N0 : Int) + 1 := IntWalk.u8_in _ ⟨by omega, by have := HNP.out; omega⟩
        have HEM := Lib.hid em2
        clear em2 hn2 hm2 r2 hA2 eN0 eP0 hml hget HTY HO HK HW HBW
        go_upto_region 16 with (fail)
        obtain ⟨W3, eW3⟩ : ∃ W, W = w2.setCell ⟨g2, hl, none⟩ (.int .u8 ((N0 : Int) + 1)) := ⟨_, rfl⟩
        rw [← eW3]
        have HO3 : Hid (OwnB W3 B0 (.slice (some ⟨g2, 0, none⟩) m2 k2) (HH ++ [lo (N0 + 1)] ++ P0)) := Lib.hid (by
          have h := HO2.out.set hl (lo (N0 + 1))
          rw [List.append_assoc, List.set_append_right _ _ (by rw [EHL.out]; exact Nat.le_refl _), EHL.out, Nat.sub_self] at h
          rw [eW3, int_lo (x := (N0 : Int) + 1) (n := N0 + 1) (by rw [Nat.mod_eq_of_lt (by have := HNP.out; omega)]; rfl), List.append_assoc]
          rw [EHL.out]
          exact h)
        have hgB : B0 ≤ g2 := (Own.lt HO2.out g2 rfl).1
        have HK3 : Hid (Below B0 W0 W3) := Lib.hid (by rw [eW3]; exact below_set HK2.out g2 _ _ hgB)
        have HZ3 : Hid (B0 ≤ W3.heap.size) := Lib.hid (by rw [EB0.out]; exact HK3.out.size)
        have hwy : IntKind.u8.wrap (y : Int) = (y : Int) := IntWalk.u8_in _ ⟨by omega, by omega⟩
        have HLY : Hid (Value.int .u8 (y : Int) = bv (lo y)) := Lib.hid (int_lo (by rw [Nat.mod_eq_of_lt (by omega)]))
        have hlen3 : (HH ++ [lo (N0 + 1)] ++ P0).length + 1 ≤ 140737488355328 := by have h1 := HHL5.out.2; have h2 := HNP.out.2; have h3 := EHL.out; simp only [List.length_append, List.length_cons, List.length_nil]; omega
        clear eW3 hgB z0 f0 hwn HO2 HK2 hml2 hml3
        go_upto_region 17 with (first
          | (at_builtin; (refine wpList_appB1 _ rfl (.tmp 93) (.tmp 96) rfl B0 _ _ rfl HO3.out (.int .u8 (y : Int)) rfl (lo y) HLY.out hlen3 HZ3.out ?_); intro v6 w6 h6 hg6 _; have hk6 : Below B0 W3 w6 := ((Below.refl _ _).alloc HZ3.out _).grown hg6 (Nat.le_trans HZ3.out (by simp)) (fun k e => (Own.lt HO3.out k e).1); have HO6 := Lib.hid h6; have HK6 := Lib.hid (HK3.out.trans hk6); clear h6 hg6 hk6))
        clear hwy hlen3 HO3 HK3 HZ3
        obtain ⟨Q0, eQ0⟩ : ∃ Q, Q = HH ++ [lo (N0 + 1)] ++ P0 ++ [lo y] := ⟨_, rfl⟩
        have HQL : Hid (7 ≤ Q0.length ∧ Q0.length ≤ 30000) := Lib.hid (by have h1 := HHL5.out; have h2 := HNP.out.2; have h3 := EHL.out; rw [eQ0]; simp only [List.length_append, List.length_cons, List.length_nil]; omega)
        have EQ0 := Lib.hid eQ0
        rw [← eQ0] at HO6
        clear eQ0
        go_wp2_with (fail)
        go_loopw [7, 100] (fun v i wr => ∃ x : Nat, x ≤ C ∧ i = .int .i64 x ∧ Hid (OwnB wr B0 v (Q0 ++ cellsB ((rowAt C y b.cells).take x))) ∧ Hid (Below B0 W0 wr)) (fun _ i _ => C - (intOf i).toNat)
        case atStart => exact ⟨0, Nat.zero_le _, rfl, Lib.hid (by show OwnB w6 B0 v6 (Q0 ++ []); rw [List.append_nil]; exact HO6.out), HK6⟩
        case round =>
          clear HO6 HK6
          obtain ⟨x, hx, rfl, HO, HK⟩ := hrel
          have HW : Hid (Below W0.heap.size W0 wr) := Lib.hid (by rw [← EB0.out]; exact HK.out)
          have HBW : Hid (B0 ≤ wr.heap.size) := Lib.hid (by rw [EB0.out]; exact HK.out.size)
          rcases Nat.lt_or_ge x C with hxl | hxg
          · have hxl' : (x : Int) < (C : Int) := by omega
            have hxr : x < (rowAt C y b.cells).length := by rw [HRL.out.2]; exact hxl
            obtain ⟨bb, off, hA, hbl, hcd⟩ := RdC.cellsAt (RdC.below HB1.out HW.out) x hxr
            subst hA
            obtain ⟨d, ed⟩ : ∃ d, d = (rowAt C y b.cells)[x] := ⟨_, rfl⟩
            rw [← ed] at hcd
            have HCD := Lib.hid hcd
            have hdn : CeN d := HCE.out d (by rw [ed]; exact List.mem_of_mem_drop (List.mem_of_mem_take (List.getElem_mem _)))
            have HTK : Hid (cellsB ((rowAt C y b.cells).take x) ++ cellB d = cellsB ((rowAt C y b.cells).take (x + 1))) := Lib.hid (by
              rw [List.take_succ_eq_append_getElem hxr, cellsB_snoc, ed])
            have HLX : Hid ((cellsB ((rowAt C y b.cells).take x)).length ≤ 720) := Lib.hid (by rw [cellsB_length, List.length_take]; omega)
            obtain ⟨r, er⟩ : ∃ r : Nat, d.r = (r : Int) := ⟨d.r.toNat, by have := hdn.r0; omega⟩
            obtain ⟨f, ef⟩ : ∃ f : Nat, d.fg = (f : Int) := ⟨d.fg.toNat, by have := hdn.f0; omega⟩
            obtain ⟨g, eg⟩ : ∃ g : Nat, d.bg = (g : Int) := ⟨d.bg.toNat, by have := hdn.b0; omega⟩
            obtain ⟨t, et⟩ : ∃ t : Nat, d.at_ = (t : Int) := ⟨d.at_.toNat, by have := hdn.a0; omega⟩
            have hB : r ≤ 1114111 ∧ f ≤ 65535 ∧ g ≤ 65535 ∧ t ≤ 255 := by have := hdn.r1; have := hdn.f1; have := hdn.b1; have := hdn.a1; omega
            have ER := Lib.hid er
            have EF := Lib.hid ef
            have EG := Lib.hid eg
            have ET_ := Lib.hid et
            have HCB : Hid (cellB d = numL r 4 ++ numL f 2 ++ numL g 2 ++ [lo t]) := Lib.hid (by rw [cellB, er, ef, eg, et]; rfl)
            obtain ⟨k0, ek0⟩ : ∃ k, k = (Q0 ++ cellsB ((rowAt C y b.cells).take x)).length := ⟨_, rfl⟩
            have hk0 : 7 ≤ k0 ∧ k0 ≤ 31000 := by have h1 := HQL.out; have h2 := HLX.out; rw [ek0, List.length_append]; omega
            obtain ⟨FF, eFF⟩ : ∃ F, F = (Q0 ++ cellsB ((rowAt C y b.cells).take x)) ++ (numL r 4 ++ numL f 2 ++ numL g 2 ++ [lo t]) := ⟨_, rfl⟩
            have HFF : Hid (FF.length = k0 + 4 + 2 + 2 + 1 ∧ (FF.drop k0).take 4 = numL r 4 ∧ (FF.drop (k0 + 4)).take 2 = numL f 2 ∧ (FF.drop (k0 + 4 + 2)).take 2 = numL g 2 ∧ (FF.drop (k0 + 4 + 2 + 2)).take 1 = [lo t]) := Lib.hid (by
              rw [eFF]; exact cuts4 _ _ _ _ _ k0 ek0 (numL_length _ _) (numL_length _ _) (numL_length _ _) rfl)
            have EFF : Hid (FF = Q0 ++ cellsB ((rowAt C y b.cells).take (x + 1))) := Lib.hid (by rw [eFF, ← HCB.out, List.append_assoc, HTK.out])
            have HLO : Hid (Value.int .u8 (t : Int) = bv (lo t)) := Lib.hid (int_lo (by rw [Nat.mod_eq_of_lt (by omega)]))
            clear er ef eg et hdn ed hcd
            go_upto_region 20 with (first
              | (refine wpList_load_cells rfl 47 (.tmp 102) rfl ⟨bb, off + x * 6, none⟩ rfl d.cells d.val rfl _ (cells_load HCD.out) Tryd.underlying47 rfl (info_cell.trans rfl) ?_)
              | (refine wpList_store_rowTo rfl 47 (.tmp 12) (.tmp 103) rfl rfl wr.heap.size d.arr rfl rfl 47 _ (heap_alloc_new wr _) (info_cell.trans rfl) rfl (CeD.one d) ?_))
            obtain ⟨e, ee⟩ : ∃ e, e = wr.heap.size := ⟨_, rfl⟩
            obtain ⟨W6, eW6⟩ : ∃ W, W = (wr.alloc (.cells #[.int .i32 0, .int .u8 0, .int .u32 0, .int .u32 0, .int .u8 0, .int .u16 0] 47)).setRow wr.heap.size d.arr := ⟨_, rfl⟩
            have HE6 : Hid (W6.heap[e]? = some (.cells d.arr 47 (0, 0))) := Lib.hid (by rw [eW6, ee]; exact setRow_heap _ _ _ _ _ _ (heap_alloc_new wr _))
            have hl6 : Below wr.heap.size wr W6 := by rw [eW6]; exact below_setRow ((Below.refl _ _).alloc (Nat.le_refl _) _) (Nat.le_refl _) _
            have HK6 : Hid (Below B0 W0 W6) := Lib.hid (HK.out.trans (hl6.mono HBW.out))
            have HZ6 : Hid (B0 ≤ W6.heap.size) := Lib.hid (by rw [EB0.out]; exact HK6.out.size)
            have HX6 : Hid (OutV FF B0 7 k0 W6.drew u7) := Lib.hid (by
              have h := OutV.of (F := FF) (L := 7) (OwnB.below_ HO.out hl6) ⟨_, eFF⟩ (by rw [← ek0]; exact hk0.1) (by rw [← ek0]; omega)
              rw [← ek0] at h
              exact h)
            have hwr : IntKind.u64.wrap (r : Int) = (r : Int) := IntWalk.u64_in _ ⟨by omega, by omega⟩
            have hwf : IntKind.u64.wrap (f : Int) = (f : Int) := IntWalk.u64_in _ ⟨by omega, by omega⟩
            have hwg : IntKind.u64.wrap (g : Int) = (g : Int) := IntWalk.u64_in _ ⟨by omega, by omega⟩
            rw [← eW6, ← ee]
            clear eFF ek0 hl6 ee eW6 HO HK HW HBW hbl HB1 HB2
            refine wp_region_rht (F := FF) (B := B0) (L := 7) 130 23 [Rh.out k0, Rh.eq (.pointer (some ⟨e, 0, none⟩)), Rh.eq (.int .i32 (r : Int)), Rh.eq (.int .u64 (r : Int)), Rh.small (numL r 4), Rh.out (k0 + 4), Rh.eq (.pointer (some ⟨e, 2, none⟩)), Rh.eq (.pointer (some ⟨e, 2, none⟩)), Rh.eq (.int .u32 (f : Int)), Rh.eq (.int .u64 (f : Int)), Rh.small (numL f 2), Rh.out (k0 + 4 + 2), Rh.eq (.pointer (some ⟨e, 2, none⟩)), Rh.eq (.pointer (some ⟨e, 3, none⟩)), Rh.eq (.int .u32 (g : Int)), Rh.eq (.int .u64 (g : Int)), Rh.small (numL g 2), Rh.out (k0 + 4 + 2 + 2), Rh.eq (.pointer (some ⟨e, 2, none⟩)), Rh.eq (.pointer (some ⟨e, 4, none⟩)), Rh.eq (.int .u8 (t : Int)), Rh.small [lo t], Rh.out (k0 + 4 + 2 + 2 + 1)] [104, 105, 106, 107, 108, 109, 110, 111, 112, 113, 114, 115, 116, 117, 118, 119, 120, 121, 122, 123, 124, 125, 126, 7] (by kernel_rfl) rfl (by kernel_rfl) (by kernel_rfl) (by decide) (by kernel_rfl) (by kernel_rfl) ?_ ?_
            · simp only [List.take_succ_cons, List.take_zero]
              repeat (first | exact AllFrom.nil_ | (refine AllFrom.cons_ (by rfl) ?_ ?_; rotate_left))
              · intro f_ w' g_ hF hD
                have h7 : f_ 7 = u7 := hF 7 (by kernel_rfl)
                rw [if_pos (wanted_none rfl)]
                clear hF hD
                exact gives_val (by simp only [execOp, evF, h7]; first | rfl | go_simp) ⟨Hc.refl _ _ _ _, (Rh.out (F := FF) (B := B0) (L := 7) k0).mono HX6.out g_⟩
              · intro f_ w' g_ hF hD
                have h12 : f_ 12 = .pointer (some ⟨e, 0, none⟩) := hF 12 (by kernel_rfl)
                rw [if_pos (wanted_none rfl)]
                clear hF hD
                exact gives_val (by simp only [execOp, evF, h12]; first | rfl | go_simp) ⟨Hc.refl _ _ _ _, rfl⟩
              · intro f_ w' g_ hF hD
                have h105 : f_ 105 = (.pointer (some ⟨e, 0, none⟩)) := hD 1 105 (by kernel_rfl) rfl
                rw [if_pos (wanted_none rfl)]
                clear hF hD
                have he : w'.heap[e]? = some (.cells d.arr 47 (0, 0)) := g_.keep HE6.out (by decide)
                have cl : w'.cell? ⟨e, 0, none⟩ = some (.int .i32 (r : Int)) := by rw [← ER.out]; exact heap_cell he 0
                exact gives_val (by simp only [execOp, evF, h105]; go_simp) ⟨Hc.refl _ _ _ _, rfl⟩
              · intro f_ w' g_ hF hD
                have h106 : f_ 106 = (.int .i32 (r : Int)) := hD 2 106 (by kernel_rfl) rfl
                rw [if_pos (wanted_none rfl)]
                clear hF hD
                exact gives_val (by simp only [execOp, evF, h106]; first | rfl | go_simp) ⟨Hc.refl _ _ _ _, rfl⟩
              · intro f_ w' g_ hF hD
                have h107 : f_ 107 = (.int .u64 (r : Int)) := hD 3 107 (by kernel_rfl) rfl
                rw [if_pos (wanted_none rfl)]
                clear hF hD
                have hBw : B0 ≤ w'.heap.size := Nat.le_trans HZ6.out g_.low.size
                exact gives_num (.tmp 107) (.const (.int .i64 4)) _ rfl r 4 4 (by simp only [evF, h107]) rfl rfl (u64_small (by omega)) (by decide) (by decide) hBw (by decide)
              · intro f_ w' g_ hF hD
                have q104 := hD 0 104 (by kernel_rfl) rfl
                have q108 := hD 4 108 (by kernel_rfl) rfl
                rw [if_pos (wanted_none rfl)]
                clear hF hD
                have hBw : B0 ≤ w'.heap.size := Nat.le_trans HZ6.out g_.low.size
                exact gives_app (.tmp 104) (.tmp 108) rfl (k0) 4 (numL r 4) (numL_length _ _) q104 q108 HFF.out.2.1 (by omega) (by decide) hBw
              · intro f_ w' g_ hF hD
                have h12 : f_ 12 = .pointer (some ⟨e, 0, none⟩) := hF 12 (by kernel_rfl)
                rw [if_pos (wanted_none rfl)]
                clear hF hD
                exact gives_val (by simp only [execOp, evF, h12]; first | rfl | go_simp) ⟨Hc.refl _ _ _ _, rfl⟩
              · intro f_ w' g_ hF hD
                have h110 : f_ 110 = (.pointer (some ⟨e, 2, none⟩)) := hD 6 110 (by kernel_rfl) rfl
                rw [if_pos (wanted_none rfl)]
                clear hF hD
                exact gives_val (by simp only [execOp, evF, h110]; first | rfl | go_simp) ⟨Hc.refl _ _ _ _, rfl⟩
              · intro f_ w' g_ hF hD
                have h111 : f_ 111 = (.pointer (some ⟨e, 2, none⟩)) := hD 7 111 (by kernel_rfl) rfl
                rw [if_pos (wanted_none rfl)]
                clear hF hD
                have he : w'.heap[e]? = some (.cells d.arr 47 (0, 0)) := g_.keep HE6.out (by decide)
                have cl : w'.cell? ⟨e, 2, none⟩ = some (.int .u32 (f : Int)) := by rw [← EF.out]; exact heap_cell he 2
                exact gives_val (by simp only [execOp, evF, h111]; go_simp) ⟨Hc.refl _ _ _ _, rfl⟩
              · intro f_ w' g_ hF hD
                have h112 : f_ 112 = (.int .u32 (f : Int)) := hD 8 112 (by kernel_rfl) rfl
                rw [if_pos (wanted_none rfl)]
                clear hF hD
                exact gives_val (by simp only [execOp, evF, h112]; first | rfl | go_simp) ⟨Hc.refl _ _ _ _, rfl⟩
              · intro f_ w' g_ hF hD
                have h113 : f_ 113 = (.int .u64 (f : Int)) := hD 9 113 (by kernel_rfl) rfl
                rw [if_pos (wanted_none rfl)]
                clear hF hD
                have hBw : B0 ≤ w'.heap.size := Nat.le_trans HZ6.out g_.low.size
                exact gives_num (.tmp 113) (.const (.int .i64 2)) _ rfl f 2 2 (by simp only [evF, h113]) rfl rfl (u64_small (by omega)) (by decide) (by decide) hBw (by decide)
              · intro f_ w' g_ hF hD
                have q109 := hD 5 109 (by kernel_rfl) rfl
                have q114 := hD 10 114 (by kernel_rfl) rfl
                rw [if_pos (wanted_none rfl)]
                clear hF hD
                have hBw : B0 ≤ w'.heap.size := Nat.le_trans HZ6.out g_.low.size
                exact gives_app (.tmp 109) (.tmp 114) rfl (k0 + 4) 2 (numL f 2) (numL_length _ _) q109 q114 HFF.out.2.2.1 (by omega) (by decide) hBw
              · intro f_ w' g_ hF hD
                have h12 : f_ 12 = .pointer (some ⟨e, 0, none⟩) := hF 12 (by kernel_rfl)
                rw [if_pos (wanted_none rfl)]
                clear hF hD
                exact gives_val (by simp only [execOp, evF, h12]; first | rfl | go_simp) ⟨Hc.refl _ _ _ _, rfl⟩
              · intro f_ w' g_ hF hD
                have h116 : f_ 116 = (.pointer (some ⟨e, 2, none⟩)) := hD 12 116 (by kernel_rfl) rfl
                rw [if_pos (wanted_none rfl)]
                clear hF hD
                exact gives_val (by simp only [execOp, evF, h116]; first | rfl | go_simp) ⟨Hc.refl _ _ _ _, rfl⟩
              · intro f_ w' g_ hF hD
                have h117 : f_ 117 = (.pointer (some ⟨e, 3, none⟩)) := hD 13 117 (by kernel_rfl) rfl
                rw [if_pos (wanted_none rfl)]
                clear hF hD
                have he : w'.heap[e]? = some (.cells d.arr 47 (0, 0)) := g_.keep HE6.out (by decide)
                have cl : w'.cell? ⟨e, 3, none⟩ = some (.int .u32 (g : Int)) := by rw [← EG.out]; exact heap_cell he 3
                exact gives_val (by simp only [execOp, evF, h117]; go_simp) ⟨Hc.refl _ _ _ _, rfl⟩
              · intro f_ w' g_ hF hD
                have h118 : f_ 118 = (.int .u32 (g : Int)) := hD 14 118 (by kernel_rfl) rfl
                rw [if_pos (wanted_none rfl)]
                clear hF hD
                exact gives_val (by simp only [execOp, evF, h118]; first | rfl | go_simp) ⟨Hc.refl _ _ _ _, rfl⟩
              · intro f_ w' g_ hF hD
                have h119 : f_ 119 = (.int .u64 (g : Int)) := hD 15 119 (by kernel_rfl) rfl
                rw [if_pos (wanted_none rfl)]
                clear hF hD
                have hBw : B0 ≤ w'.heap.size := Nat.le_trans HZ6.out g_.low.size
                exact gives_num (.tmp 119) (.const (.int .i64 2)) _ rfl g 2 2 (by simp only [evF, h119]) rfl rfl (u64_small (by omega)) (by decide) (by decide) hBw (by decide)
              · intro f_ w' g_ hF hD
                have q115 := hD 11 115 (by kernel_rfl) rfl
                have q120 := hD 16 120 (by kernel_rfl) rfl
                rw [if_pos (wanted_none rfl)]
                clear hF hD
                have hBw : B0 ≤ w'.heap.size := Nat.le_trans HZ6.out g_.low.size
                exact gives_app (.tmp 115) (.tmp 120) rfl (k0 + 4 + 2) 2 (numL g 2) (numL_length _ _) q115 q120 HFF.out.2.2.2.1 (by omega) (by decide) hBw
              · intro f_ w' g_ hF hD
                have h12 : f_ 12 = .pointer (some ⟨e, 0, none⟩) := hF 12 (by kernel_rfl)
                rw [if_pos (wanted_none rfl)]
                clear hF hD
                exact gives_val (by simp only [execOp, evF, h12]; first | rfl | go_simp) ⟨Hc.refl _ _ _ _, rfl⟩
              · intro f_ w' g_ hF hD
                have h122 : f_ 122 = (.pointer (some ⟨e, 2, none⟩)) := hD 18 122 (by kernel_rfl) rfl
                rw [if_pos (wanted_none rfl)]
                clear hF hD
                exact gives_val (by simp only [execOp, evF, h122]; first | rfl | go_simp) ⟨Hc.refl _ _ _ _, rfl⟩
              · intro f_ w' g_ hF hD
                have h123 : f_ 123 = (.pointer (some ⟨e, 4, none⟩)) := hD 19 123 (by kernel_rfl) rfl
                rw [if_pos (wanted_none rfl)]
                clear hF hD
                have he : w'.heap[e]? = some (.cells d.arr 47 (0, 0)) := g_.keep HE6.out (by decide)
                have cl : w'.cell? ⟨e, 4, none⟩ = some (.int .u8 (t : Int)) := by rw [← ET_.out]; exact heap_cell he 4
                exact gives_val (by simp only [execOp, evF, h123]; go_simp) ⟨Hc.refl _ _ _ _, rfl⟩
              · intro f_ w' g_ hF hD
                have h124 : f_ 124 = (.int .u8 (t : Int)) := hD 20 124 (by kernel_rfl) rfl
                rw [if_pos (wanted_none rfl)]
                clear hF hD
                have hBw : B0 ≤ w'.heap.size := Nat.le_trans HZ6.out g_.low.size
                exact gives_lit1 (.tmp 124) rfl _ (lo t) (by simp only [evF, h124]) HLO.out (by decide) hBw
              · intro f_ w' g_ hF hD
                have q121 := hD 17 121 (by kernel_rfl) rfl
                have q125 := hD 21 125 (by kernel_rfl) rfl
                rw [if_pos (wanted_none rfl)]
                clear hF hD
                have hBw : B0 ≤ w'.heap.size := Nat.le_trans HZ6.out g_.low.size
                exact gives_app (.tmp 121) (.tmp 125) rfl (k0 + 4 + 2 + 2) 1 [lo t] rfl q121 q125 HFF.out.2.2.2.2 (by omega) (by decide) hBw
            intro f_ w7 gg hD
            have h7 : OutV FF B0 7 (k0 + 4 + 2 + 2 + 1) w7 (f_ 126) := hD 22 126 (by decide) rfl
            simp only [List.drop_succ_cons, List.drop_zero, putAll, List.setIfInBounds_toArray, List.set_cons_zero, List.set_cons_succ]
            have HO7 : Hid (OwnB w7 B0 (f_ 126) (Q0 ++ cellsB ((rowAt C y b.cells).take (x + 1)))) := Lib.hid (by have h := h7.own; rw [List.take_of_length_le (by rw [HFF.out.1]; exact Nat.le_refl _), EFF.out] at h; exact h)
            have HK7 : Hid (Below B0 W0 w7) := Lib.hid ((below_drewN HK6.out 1).trans gg.low)
            generalize f_ 104 = d104
            generalize f_ 105 = d105
            generalize f_ 106 = d106
            generalize f_ 107 = d107
            generalize f_ 108 = d108
            generalize f_ 109 = d109
            generalize f_ 110 = d110
            generalize f_ 111 = d111
            generalize f_ 112 = d112
            generalize f_ 113 = d113
            generalize f_ 114 = d114
            generalize f_ 115 = d115
            generalize f_ 116 = d116
            generalize f_ 117 = d117
            generalize f_ 118 = d118
            generalize f_ 119 = d119
            generalize f_ 120 = d120
            generalize f_ 121 = d121
            generalize f_ 122 = d122
            generalize f_ 123 = d123
            generalize f_ 124 = d124
            generalize f_ 125 = d125
            generalize f_ 126 = d126 at HO7 ⊢
            generalize f_ 7 = d7
            clear hD gg h7
            go_wp2_with (fail)
            go_roundw
            case rel => exact ⟨x + 1, by omega, by go_num, HO7, HK7⟩
            case measure => simp [intOf]; omega
          · obtain rfl : C = x := by omega
            have hge' : ¬ ((C : Int) < (C : Int)) := by omega
            have HOE : Hid (OwnB wr B0 _ (HH ++ [lo (T (y + 1)).1] ++ (T (y + 1)).2)) := Lib.hid (by
              have h := HO.out
              rw [List.take_of_length_le (by rw [HRL.out.2]; exact Nat.le_refl _), EQ0.out] at h
              rw [HTY2.out]
              simp only [List.append_assoc, List.cons_append, List.nil_append] at h ⊢
              exact h)
            clear hxg hx HO
            go_wp2_with (fail)
            go_roundw
            case rel => exact ⟨y + 1, by omega, by go_num, HOE, HK⟩
            case measure => simp [intOf]; omega
    · obtain rfl : R = y := by omega
      have hge' : ¬ ((R : Int) < (R : Int)) := by omega
      go_wp2_with (fail)
      go_ret
      exact ⟨_, rfl, by rw [← EZ9.out]; exact Own.low HO.out HB00.out.1, HB0.out.trans (HK.out.mono HB00.out.1)⟩
end Go.Proofs.YtipofokinjkclaaDoor

