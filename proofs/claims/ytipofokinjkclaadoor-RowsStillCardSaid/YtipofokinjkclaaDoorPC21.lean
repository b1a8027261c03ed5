/- Parts one behind the other: What the reference's diff (16) answers: the diff by rows; Regions whose appends of bytes stand in a chain beside operations that float: the bytes that come are known; what each operation yields stays true as they come. Conditions: as told at each. -/
import Derived.Test.YtipofokinjkclaaDoorPC20
import Derived.Test.YtipofokinjkclaaDoorPC9
import Derived.Deep.DeepCutAuto
import Derived.Test.YtipofokinjkclaaDoorPC4
import Derived.Test.YtipofokinjkclaaDoorPC1
import Derived.Laws.Append

set_option linter.unusedVariables false
set_option linter.unusedSimpArgs false
/- What the reference's diff (16) answers: the diff by rows. Conditions: the second screen fits, the first has as many cells. -/
namespace Go.Proofs.YtipofokinjkclaaDoor
open Go Go.RowKit Go.Lib

theorem gives_cutC {o : Oper} {f : Nat → Value} {w : World} {K : Value → World → Prop} (x lo hi : Operand) (ho : o.op = .slice 22 x (some lo) (some hi) none) (A : Option Addr) (n c : Nat) (hx : evF f x = .slice A n c)
    (U V : Int) (hlo : evF f lo = .int .i64 U) (hhi : evF f hi = .int .i64 V) (l h : Nat) (hU : U = (l : Int)) (hV : V = (h : Int)) (h1 : l ≤ h) (h2 : h ≤ n) (hc : n ≤ c) (ds : List CeD) (hl : ds.length = n) (hr : RdC w A ds)
    (hK : ∀ A', RdC w A' ((ds.drop l).take (h - l)) → K (.slice A' (h - l) (c - l)) w) : Gives Tryd.prog o f w K := by
  subst hU hV
  have g1 : (l : Int) ≤ (h : Int) := by omega
  have g2 : (h : Int) ≤ (c : Int) := by omega
  have hcut := hr.cut (l := l) (h := h) (m := c) (by omega) h1 (by omega)
  unfold Gives execOp
  simp only [ho, Option.map_some, Option.map_none, hx, hlo, hhi]
  go_simp
  exact hK _ hcut
/-- Cells that can be read, as a value. -/
def Rl.rdc (C : Nat) (ds : List CeD) : Rl := ⟨fun w v => ∃ A c, v = .slice A C c ∧ RdC w A ds, fun ⟨A, c, e, r⟩ g => ⟨A, c, e, RdC.below r g⟩⟩
theorem OwnB.below_ {w w' : World} {B : Nat} {v : Value} {bs : List UInt8} (h : OwnB w B v bs) (hb : Below w.heap.size w w') : OwnB w' B v bs := Own.below h hb
theorem rowAt_get {C y x l : Nat} {ds : List CeD} (h : x < (rowAt C y ds).length) (e : l = y * C) (h2 : l + x < ds.length) : (rowAt C y ds)[x] = ds[l + x] := by
  subst e
  have h3 : (rowAt C y ds)[x]? = ds[y * C + x]? := by
    have hx : x < C := by unfold rowAt at h; rw [List.length_take] at h; omega
    unfold rowAt
    rw [List.getElem?_take, if_pos hx, List.getElem?_drop]
  rw [List.getElem?_eq_getElem h, List.getElem?_eq_getElem h2] at h3
  injection h3
theorem flags_hid (f0 : Nat) (h t : Bool) : flagsN f0 h t = f0 + (if h then 1 else 0) + (if t then 2 else 0) := rfl
set_option maxRecDepth 100000 in
set_option maxHeartbeats 16000000 in
theorem diff_c (a b : ScD) (A1 : Option Addr) (n1 c1 : Nat) (L1 : Option Addr) (m1 k1 : Nat) (A : Option Addr) (n c : Nat) (L : Option Addr) (m cm : Nat) (C R f0 : Nat) (w : World)
    (ha : ScR w a A1 n1 c1 L1 m1 k1) (hb : ScR w b A n c L m cm) (hf : Fit16 b C R) (hce : ∀ d ∈ b.cells, CeN d) (hal : a.cells.length = C * R) (h0 : f0 ≤ 4) :
    Calls Tryd.prog 49 #[.agg (scC a A1 n1 c1 L1 m1 k1), .agg (scC b A n c L m cm), .int .i64 (f0 : Int)] w fun e w' => ∃ v, e = .returned v ∧ OwnB w' w.heap.size v (layB a b f0) ∧ Below w.heap.size w w' := by
  obtain ⟨X, eX⟩ : ∃ X, X = scC a A1 n1 c1 L1 m1 k1 := ⟨_, rfl⟩
  obtain ⟨Y, eY⟩ : ∃ Y, Y = scC b A n c L m cm := ⟨_, rfl⟩
  rw [← eX, ← eY]
  obtain ⟨Z, eZ⟩ : ∃ Z, layB a b f0 = Z := ⟨_, rfl⟩
  rw [eZ]
  have EZ := Lib.hid eZ
  obtain ⟨W0, eW0⟩ : ∃ W0, W0 = (w.alloc (.cells X 25)).alloc (.cells Y 25) := ⟨_, rfl⟩
  obtain ⟨p, ep⟩ : ∃ p, p = w.heap.size := ⟨_, rfl⟩
  obtain ⟨q, eq⟩ : ∃ q, q = w.heap.size + 1 := ⟨_, rfl⟩
  have hb0 : Below w.heap.size w W0 := by rw [eW0]; exact ((Below.refl _ _).alloc (Nat.le_refl _) _).alloc (by simp) _
  have HP0 : Hid (ScB W0 p a A1 n1 c1 L1 m1 k1) := Lib.hid (by rw [eW0, ep, eX]; exact (Below.heap_alloc _ _ _ (by simp)).trans (heap_alloc_new _ _))
  have HQ0 : Hid (ScB W0 q b A n c L m cm) := Lib.hid (by rw [eW0, eq, eY]; exact heap_alloc2_new _ _ _)
  have EW0 := Lib.hid eW0
  have EP := Lib.hid ep
  have EQ := Lib.hid eq
  have HB0 := Lib.hid hb0
  have HRA := Lib.hid (ha.below hb0)
  have HRB := Lib.hid (hb.below hb0)
  have HF := Lib.hid hf
  have HCE := Lib.hid hce
  have HAL := Lib.hid hal
  have HSZ : Hid (p < W0.heap.size ∧ q < W0.heap.size ∧ w.heap.size ≤ W0.heap.size) := Lib.hid ⟨heap_lt HP0.out, heap_lt HQ0.out, hb0.size⟩
  clear eX eY eZ eW0 ep eq hb0 ha hb hf hce hal
  go_enter Tryd.func49, Tryd.ntmps49
  go_upto_region 1 with (fail)
  rw [← EW0.out, ← EQ.out, ← EP.out]
  have x5 : W0.cell? ⟨q, 5, none⟩ = some (.bool b.hid) := HQ0.out.nine.2.2.2.2.2.1
  go_upto_if 14 with (fail)
  clear x5
  obtain ⟨F1, eF1⟩ : ∃ F, F = f0 + (if b.hid then 1 else 0) := ⟨_, rfl⟩
  have EF1 := Lib.hid eF1
  have HF1 : Hid (F1 ≤ 5) := Lib.hid (by rw [eF1]; split <;> omega)
  clear eF1
  go_cut [2] (fun s2 wx => s2 = .int .i64 (F1 : Int) ∧ Hid (wx = W0))
  case first =>
    cases hb : b.hid
    · have e1 : Hid ((f0 : Int) = (F1 : Int)) := Lib.hid (by rw [EF1.out, hb]; rfl)
      clear hb
      go_wp2_with (fail)
      go_meet
      exact ⟨by rw [e1.out], Lib.hid rfl⟩
    · have e1 : Hid ((f0 : Int) + 1 = (F1 : Int)) := Lib.hid (by rw [EF1.out, hb]; rfl)
      clear hb
      go_wp2_with (fail)
      go_meet
      exact ⟨by rw [← e1.out], Lib.hid rfl⟩
  case rest =>
  obtain ⟨rfl, hwc⟩ := hcut
  obtain rfl := hwc.out.symm
  clear hwc
  obtain ⟨TE, eTE⟩ : ∃ t, (b.title.toList == a.title.toList) = t := ⟨_, rfl⟩
  have HTE := Lib.hid eTE
  have x7 : W0.cell? ⟨q, 7, none⟩ = some (.string b.title) := HQ0.out.nine.2.2.2.2.2.2.2.1
  have y7 : W0.cell? ⟨p, 7, none⟩ = some (.string a.title) := HP0.out.nine.2.2.2.2.2.2.2.1
  go_upto_if 22 with (fail)
  clear x7 y7 eTE
  obtain ⟨F2, eF2⟩ : ∃ F, F = F1 + (if (!TE) then 2 else 0) := ⟨_, rfl⟩
  have EF2 := Lib.hid eF2
  have HF2 : Hid (F2 ≤ 7) := Lib.hid (by have := HF1.out; rw [eF2]; split <;> omega)
  have EFL : Hid (flagsN f0 b.hid (!TE) = F2) := Lib.hid (by rw [flags_hid, eF2, EF1.out])
  clear eF2
  clear EW0
  go_cut [2] (fun s2 wx => s2 = .int .i64 (F2 : Int) ∧ Hid (wx = W0))
  case first =>
    have hf1 : F1 ≤ 5 := HF1.out
    cases TE
    · have e1 : Hid ((F1 : Int) + 2 = (F2 : Int)) := Lib.hid (by rw [EF2.out]; rfl)
      go_wp2_with (fail)
      go_meet
      exact ⟨by rw [← e1.out], Lib.hid rfl⟩
    · have e1 : Hid ((F1 : Int) = (F2 : Int)) := Lib.hid (by rw [EF2.out]; rfl)
      go_wp2_with (fail)
      go_meet
      exact ⟨by rw [e1.out], Lib.hid rfl⟩
  case rest =>
  obtain ⟨rfl, hwc⟩ := hcut
  obtain rfl := hwc.out.symm
  clear hwc
  obtain ⟨X0, eX0⟩ : ∃ x : Nat, b.x = (x : Int) := ⟨b.x.toNat, by have := HF.out.x0; omega⟩
  obtain ⟨Y0, eY0⟩ : ∃ y : Nat, b.y = (y : Int) := ⟨b.y.toNat, by have := HF.out.y0; omega⟩
  have HXY : Hid (X0 < C ∧ Y0 < R) := Lib.hid (by have h1 := HF.out.x1; have h2 := HF.out.y1; rw [eX0] at h1; rw [eY0] at h2; omega)
  have EX0 := Lib.hid eX0
  have EY0 := Lib.hid eY0
  have x0 : W0.cell? ⟨q, 0, none⟩ = some (.int .i64 (C : Int)) := by rw [← HF.out.c]; exact HQ0.out.nine.1
  have x1 : W0.cell? ⟨q, 1, none⟩ = some (.int .i64 (R : Int)) := by rw [← HF.out.r]; exact HQ0.out.nine.2.1
  have x3 : W0.cell? ⟨q, 3, none⟩ = some (.int .i64 (X0 : Int)) := by rw [← eX0]; exact HQ0.out.nine.2.2.2.1
  have x4 : W0.cell? ⟨q, 4, none⟩ = some (.int .i64 (Y0 : Int)) := by rw [← eY0]; exact HQ0.out.nine.2.2.2.2.1
  have hw0 : IntKind.u8.wrap (C : Int) = (C : Int) := IntWalk.u8_in _ ⟨by omega, by have := HF.out.c2; omega⟩
  have hw1 : IntKind.u8.wrap (R : Int) = (R : Int) := IntWalk.u8_in _ ⟨by omega, by have := HF.out.r2; omega⟩
  have hw3 : IntKind.u8.wrap (X0 : Int) = (X0 : Int) := IntWalk.u8_in _ ⟨by omega, by have := HXY.out.1; have := HF.out.c2; omega⟩
  have hw4 : IntKind.u8.wrap (Y0 : Int) = (Y0 : Int) := IntWalk.u8_in _ ⟨by omega, by have := HXY.out.2; have := HF.out.r2; omega⟩
  have hw5 : IntKind.u8.wrap (F2 : Int) = (F2 : Int) := IntWalk.u8_in _ ⟨by omega, by have := HF2.out; omega⟩
  have HD5 : Hid (OwnB (W0.alloc (.cells #[.int .u8 (C : Int), .int .u8 (R : Int), .int .u8 (X0 : Int), .int .u8 (Y0 : Int), .int .u8 (F2 : Int)] 5)) W0.heap.size (.slice (some ⟨W0.heap.size, 0, none⟩) 5 5) [lo C, lo R, lo X0, lo Y0, lo F2]) := Lib.hid (by
    have c2 := HF.out.c2; have r2 := HF.out.r2; have hx := HXY.out; have h5 := HF2.out
    refine OwnB_lit W0 [lo C, lo R, lo X0, lo Y0, lo F2] _ ?_ 5 rfl (by simp)
    simp only [List.map_cons, List.map_nil]
    rw [← int_lo (x := (C : Int)) (n := C) (by omega), ← int_lo (x := (R : Int)) (n := R) (by omega), ← int_lo (x := (X0 : Int)) (n := X0) (by omega), ← int_lo (x := (Y0 : Int)) (n := Y0) (by omega), ← int_lo (x := (F2 : Int)) (n := F2) (by omega)])
  clear eX0 eY0
  go_upto_if 40 with (fail)
  clear x0 x1 x3 x4 hw0 hw1 hw3 hw4 hw5
  obtain ⟨W5, eW5⟩ : ∃ W, W = W0.alloc (.cells #[.int .u8 (C : Int), .int .u8 (R : Int), .int .u8 (X0 : Int), .int .u8 (Y0 : Int), .int .u8 (F2 : Int)] 5) := ⟨_, rfl⟩
  rw [← eW5] at HD5 ⊢
  have HK5 : Hid (Below W0.heap.size W0 W5) := Lib.hid (by rw [eW5]; exact (Below.refl _ _).alloc (Nat.le_refl _) _)
  clear eW5
  obtain ⟨HH, eHH⟩ : ∃ H, H = [lo C, lo R, lo X0, lo Y0, lo F2] ++ ttlB (!TE) b.title := ⟨_, rfl⟩
  have EHH := Lib.hid eHH
  have HHL : Hid (HH.length ≤ 70) := Lib.hid (by have := HF.out.tl; rw [eHH, List.length_append]; unfold ttlB; split <;> simp [strB_len] <;> omega)
  have EHD : Hid (headB a b f0 = HH) := Lib.hid (by
    rw [headB, HTE.out, EFL.out, eHH, HF.out.c, HF.out.r, EX0.out, EY0.out]; rfl)
  clear eHH
  obtain ⟨B0, eB0⟩ : ∃ B, B = W0.heap.size := ⟨_, rfl⟩
  rw [← eB0] at HK5
  obtain ⟨V5, eV5⟩ : ∃ V, V = Value.slice (some ⟨W0.heap.size, 0, none⟩) 5 5 := ⟨_, rfl⟩
  rw [← eV5, ← eB0] at HD5
  rw [← eV5]
  have HZ5 : Hid (B0 ≤ W5.heap.size) := Lib.hid (by rw [eB0]; exact HK5.out.size)
  have HB00 : Hid (w.heap.size ≤ B0 ∧ p < B0 ∧ q < B0) := Lib.hid (by rw [eB0]; exact ⟨HSZ.out.2.2, HSZ.out.1, HSZ.out.2.1⟩)
  have EB0 := Lib.hid eB0
  clear eV5 eB0
  go_cut [8] (fun s8 wx => Hid (OwnB wx B0 s8 HH) ∧ Hid (Below B0 W0 wx))
  case first =>
    cases TE
    rotate_left
    · have e1 : Hid ([lo C, lo R, lo X0, lo Y0, lo F2] = HH) := Lib.hid (by rw [EHH.out]; exact (List.append_nil _).symm)
      go_wp2_with (fail)
      go_meet
      exact ⟨Lib.hid (by rw [← e1.out]; exact HD5.out), HK5⟩
    · have e1 : Hid (([lo C, lo R, lo X0, lo Y0, lo F2] ++ [lo b.title.size]) ++ strB b.title = HH) := Lib.hid (by rw [EHH.out, List.append_assoc]; rfl)
      have hq5 : ScB W5 q b A n c L m cm := (HK5.out.block q HB00.out.2.2).trans HQ0.out
      have x7 : W5.cell? ⟨q, 7, none⟩ = some (.string b.title) := hq5.nine.2.2.2.2.2.2.2.1
      have hts : b.title.size ≤ 64 := HF.out.tl
      have hwt : IntKind.u8.wrap (b.title.size : Int) = (b.title.size : Int) := IntWalk.u8_in _ ⟨by omega, by omega⟩
      have HLT : Hid (Value.int .u8 (b.title.size : Int) = bv (lo b.title.size)) := Lib.hid (int_lo (by rw [Nat.mod_eq_of_lt (by omega)]))
      clear hq5
      go_wp2_with (first
        | (at_builtin; (refine wpList_appB1 _ rfl (.tmp 41) (.tmp 46) rfl B0 _ _ rfl HD5.out (.int .u8 (b.title.size : Int)) rfl (lo b.title.size) HLT.out (by simp) HZ5.out ?_); intro v6 w6 h6 hg6 _; have hk6 : Below B0 W5 w6 := ((Below.refl _ _).alloc HZ5.out _).grown hg6 (Nat.le_trans HZ5.out (by simp)) (fun k e => (Own.lt HD5.out k e).1); have HD6 := Lib.hid h6; have HK6 := Lib.hid (HK5.out.trans hk6); have HZ6 : Hid (B0 ≤ w6.heap.size) := Lib.hid (Nat.le_trans HZ5.out hk6.size); have x7' : w6.cell? ⟨q, 7, none⟩ = some (.string b.title) := (show ScB w6 q b A n c L m cm from (HK6.out.block q HB00.out.2.2).trans HQ0.out).nine.2.2.2.2.2.2.2.1; clear h6 hg6 hk6)
        | (at_builtin; (refine wpList_appStr _ rfl (.tmp 48) (.tmp 50) rfl B0 _ _ rfl HD6.out b.title rfl (by simp; omega) HZ6.out ?_); intro v8 w8 h8 hg8; have HD8 := Lib.hid h8; have HK8 := Lib.hid (HK6.out.grown hg8 HZ6.out (fun k e => (Own.lt HD6.out k e).1)); clear h8 hg8))
      go_meet
      exact ⟨Lib.hid (by rw [← e1.out]; exact HD8.out), HK8⟩
  case rest =>
  obtain ⟨W9, eW9⟩ : ∃ x, x = wc := ⟨_, rfl⟩
  rw [← eW9] at hcut ⊢
  obtain ⟨HO9, HK9⟩ := hcut
  clear eW9
  obtain ⟨V8, eV8⟩ : ∃ V, V = u8 := ⟨_, rfl⟩
  rw [← eV8] at HO9 ⊢
  clear eV8 HD5 HK5 HZ5 EF1 EF2 HF1 HF2 EFL
  have hW9 : B0 ≤ W9.heap.size := by rw [EB0.out]; exact HK9.out.size
  obtain ⟨base, eb⟩ : ∃ B, B = W9.heap.size := ⟨_, rfl⟩
  rw [← eb] at hW9
  have HBB : Hid (B0 ≤ base ∧ p < base ∧ q < base) := Lib.hid ⟨hW9, Nat.lt_of_lt_of_le HB00.out.2.1 hW9, Nat.lt_of_lt_of_le HB00.out.2.2 hW9⟩
  have HR9 : Hid (OwnB (W9.alloc (.cells #[] 5)) base (.slice (some ⟨base, 0, none⟩) 0 0) []) := Lib.hid (by rw [eb]; exact OwnB_lit W9 [] #[] rfl 0 rfl (by simp))
  have HL9 : Hid (Below base W9 (W9.alloc (.cells #[] 5))) := Lib.hid (by rw [eb]; exact (Below.refl _ _).alloc (Nat.le_refl _) _)
  have HP9 : Hid (ScB W9 p a A1 n1 c1 L1 m1 k1) := Lib.hid ((HK9.out.block p HB00.out.2.1).trans HP0.out)
  have HQ9 : Hid (ScB W9 q b A n c L m cm) := Lib.hid ((HK9.out.block q HB00.out.2.2).trans HQ0.out)
  have HB9 : Hid (Below W0.heap.size W0 W9) := Lib.hid (by rw [← EB0.out]; exact HK9.out)
  have HRA9 : Hid (ScR W9 a A1 n1 c1 L1 m1 k1) := Lib.hid (HRA.out.below HB9.out)
  have HRB9 : Hid (ScR W9 b A n c L m cm) := Lib.hid (HRB.out.below HB9.out)
  have EBW : Hid (base = W9.heap.size) := Lib.hid eb
  obtain ⟨T, eT⟩ : ∃ T, T = rowsT C a.cells b.cells := ⟨_, rfl⟩
  have ET := Lib.hid eT
  have HTL : Hid (∀ y, y ≤ R → (T y).1 ≤ 24 ∧ (T y).2.length ≤ 20000) := Lib.hid (fun y hy => by
    have h1 := rowsT_le C a.cells b.cells y
    have h2 := rowsT_length C a.cells b.cells y
    have h3 := Nat.mul_le_mul (show y ≤ 24 by have := HF.out.r2; omega) (show C * 9 + 1 ≤ 721 by have := HF.out.c2; omega)
    have := HF.out.r2
    rw [eT]; omega)
  have EZ9 : Hid (HH ++ [lo (T R).1] ++ (T R).2 = Z) := Lib.hid (by
    rw [← EZ.out, layB, EHD.out, HF.out.c, HF.out.r, eT, Int.toNat_natCast, Int.toNat_natCast, List.append_assoc]; rfl)
  clear hW9 eT HP0 HQ0 HRA HRB HB9 EZ EHH EHD
  go_upto_region 11 with (fail)
  rw [← eb]
  clear eb
  go_wp2_with (fail)
  go_loopw [9, 10, 11, 12] (fun v nn i z wr => ∃ y : Nat, y ≤ R ∧ i = .int .i64 y ∧ nn = .int .i64 ((T y).1 : Int) ∧ Hid (OwnB wr base v (T y).2) ∧ Hid (Below base W9 wr)) (fun _ _ i _ _ => R - (intOf i).toNat)
  case atStart => exact ⟨0, Nat.zero_le _, rfl, by rw [ET.out]; rfl, Lib.hid (by rw [ET.out]; exact HR9.out), HL9⟩
  case round =>
    obtain ⟨y, hy, rfl, rfl, HO, HK⟩ := hrel
    have hr2 : R ≤ 24 := HF.out.r2
    have hc2 : C ≤ 80 := HF.out.c2
    have HQ : Hid (ScB wr q b A n c L m cm) := Lib.hid ((HK.out.block q HBB.out.2.2).trans HQ9.out)
    have HP : Hid (ScB wr p a A1 n1 c1 L1 m1 k1) := Lib.hid ((HK.out.block p HBB.out.2.1).trans HP9.out)
    have HW : Hid (Below W9.heap.size W9 wr) := Lib.hid (by rw [← EBW.out]; exact HK.out)
    have HBW : Hid (base ≤ wr.heap.size) := Lib.hid (by rw [EBW.out]; exact HW.out.size)
    have x0 : wr.cell? ⟨q, 0, none⟩ = some (.int .i64 (C : Int)) := by rw [← HF.out.c]; exact HQ.out.nine.1
    have x1 : wr.cell? ⟨q, 1, none⟩ = some (.int .i64 (R : Int)) := by rw [← HF.out.r]; exact HQ.out.nine.2.1
    have x2 : wr.cell? ⟨q, 2, none⟩ = some (.slice A n c) := HQ.out.nine.2.2.1
    rcases Nat.lt_or_ge y R with hlt | hge
    · have hlt' : (y : Int) < (R : Int) := by omega
      have hle : (y + 1) * C ≤ C * R := by rw [Nat.mul_comm C R]; exact Nat.mul_le_mul_right C hlt
      have HLA : Hid ((y + 1) * C ≤ a.cells.length ∧ (y + 1) * C ≤ b.cells.length) := Lib.hid ⟨by rw [HAL.out]; exact hle, by rw [HF.out.len]; exact hle⟩
      have hmx : C * R ≤ 1920 := Nat.mul_le_mul hc2 hr2
      obtain ⟨l, el⟩ : ∃ l, l = y * C := ⟨_, rfl⟩
      have hl1 : (y + 1) * C = l + C := by rw [el, Nat.add_mul, Nat.one_mul]
      have hl2 : l + C ≤ 1920 := by omega
      have e1 : (y : Int) * (C : Int) = (l : Int) := by rw [el]; exact (Int.natCast_mul y C).symm
      have HLL : Hid (l + C ≤ n1 ∧ l + C ≤ n) := Lib.hid ⟨by rw [← HRA9.out.hn, ← hl1]; exact HLA.out.1, by rw [← HRB9.out.hn, ← hl1]; exact HLA.out.2⟩
      have ELL := Lib.hid el
      have HRL : Hid ((rowAt C y a.cells).length = C ∧ (rowAt C y b.cells).length = C) := Lib.hid ⟨rowAt_length HLA.out.1, rowAt_length HLA.out.2⟩
      obtain ⟨SB, eSB⟩ : ∃ t, sameC (rowAt C y a.cells) (rowAt C y b.cells) = t := ⟨_, rfl⟩
      have HSB := Lib.hid eSB
      have HRA2 := Lib.hid (HRA9.out.below HW.out)
      have HRB2 := Lib.hid (HRB9.out.below HW.out)
      have hls := e1
      clear hle hmx hl1 el eSB
      go_upto_region 15 with (fail)
      refine wp_region_rw 123 [Rl.eq (.pointer (some ⟨p, 2, none⟩)), Rl.eq (.slice A1 n1 c1), Rl.eq (.int .i64 (y : Int)), Rl.eq (.pointer (some ⟨q, 0, none⟩)), Rl.eq (.int .i64 (C : Int)), Rl.eq (.int .i64 (l : Int)), Rl.eq (.int .i64 (y : Int)), Rl.eq (.pointer (some ⟨q, 0, none⟩)), Rl.eq (.int .i64 (C : Int)), Rl.eq (.int .i64 (l : Int)), Rl.eq (.pointer (some ⟨q, 0, none⟩)), Rl.eq (.int .i64 (C : Int)), Rl.eq (.int .i64 ((l : Int) + (C : Int))), Rl.rdc C (rowAt C y a.cells), Rl.eq (.pointer (some ⟨q, 2, none⟩)), Rl.eq (.slice A n c), Rl.eq (.int .i64 (y : Int)), Rl.eq (.pointer (some ⟨q, 0, none⟩)), Rl.eq (.int .i64 (C : Int)), Rl.eq (.int .i64 (l : Int)), Rl.eq (.int .i64 (y : Int)), Rl.eq (.pointer (some ⟨q, 0, none⟩)), Rl.eq (.int .i64 (C : Int)), Rl.eq (.int .i64 (l : Int)), Rl.eq (.pointer (some ⟨q, 0, none⟩)), Rl.eq (.int .i64 (C : Int)), Rl.eq (.int .i64 ((l : Int) + (C : Int))), Rl.rdc C (rowAt C y b.cells), Rl.eq (.bool SB), Rl.eq (.bool (!SB))] [59, 60, 61, 62, 63, 64, 65, 66, 67, 68, 69, 70, 71, 72, 73, 74, 75, 76, 77, 78, 79, 80, 81, 82, 83, 84, 85, 86, 87, 88] (by kernel_rfl) rfl (by kernel_rfl) (by kernel_rfl) ?_ ?_
      · repeat (first | exact AllFrom.nil_ | (refine AllFrom.cons_ (by rfl) ?_ ?_; rotate_left))
        · intro f_ w' g_ hF hD
          have h3 : f_ 3 = .pointer (some ⟨p, 0, none⟩) := hF 3 (by kernel_rfl)
          rw [if_pos (wanted_none rfl)]
          clear hF hD
          exact gives_val (by simp only [execOp, evF, h3]; first | rfl | go_simp) ⟨Gr.refl _, rfl⟩
        · intro f_ w' g_ hF hD
          have h59 : f_ 59 = (.pointer (some ⟨p, 2, none⟩)) := hD 0 59 (by kernel_rfl) rfl
          rw [if_pos (wanted_none rfl)]
          clear hF hD
          have kg : Below wr.heap.size wr w' := (below_drewN (Below.refl _ _) 1).trans g_
          have cl : w'.cell? ⟨p, 2, none⟩ = some (.slice A1 n1 c1) := (HP.out.below kg).nine.2.2.1
          exact gives_val (by simp only [execOp, evF, h59]; go_simp) ⟨Gr.refl _, rfl⟩
        · intro f_ w' g_ hF hD
          have h11 : f_ 11 = .int .i64 (y : Int) := hF 11 (by kernel_rfl)
          rw [if_pos (wanted_none rfl)]
          clear hF hD
          exact gives_val (by simp only [execOp, evF, h11]; first | rfl | go_simp) ⟨Gr.refl _, rfl⟩
        · intro f_ w' g_ hF hD
          have h4 : f_ 4 = .pointer (some ⟨q, 0, none⟩) := hF 4 (by kernel_rfl)
          rw [if_pos (wanted_none rfl)]
          clear hF hD
          exact gives_val (by simp only [execOp, evF, h4]; first | rfl | go_simp) ⟨Gr.refl _, rfl⟩
        · intro f_ w' g_ hF hD
          have h62 : f_ 62 = (.pointer (some ⟨q, 0, none⟩)) := hD 3 62 (by kernel_rfl) rfl
          rw [if_pos (wanted_none rfl)]
          clear hF hD
          have kg : Below wr.heap.size wr w' := (below_drewN (Below.refl _ _) 1).trans g_
          have cl : w'.cell? ⟨q, 0, none⟩ = some (.int .i64 (C : Int)) := by rw [← HF.out.c]; exact (HQ.out.below kg).nine.1
          exact gives_val (by simp only [execOp, evF, h62]; go_simp) ⟨Gr.refl _, rfl⟩
        · intro f_ w' g_ hF hD
          have h61 : f_ 61 = (.int .i64 (y : Int)) := hD 2 61 (by kernel_rfl) rfl
          have h63 : f_ 63 = (.int .i64 (C : Int)) := hD 4 63 (by kernel_rfl) rfl
          rw [if_pos (wanted_none rfl)]
          clear hF hD
          exact gives_val (by simp only [execOp, evF, h61, h63]; go_simp; exact IntWalk.i64_in _ ⟨by omega, by omega⟩) ⟨Gr.refl _, rfl⟩
        · intro f_ w' g_ hF hD
          have h11 : f_ 11 = .int .i64 (y : Int) := hF 11 (by kernel_rfl)
          rw [if_pos (wanted_none rfl)]
          clear hF hD
          exact gives_val (by simp only [execOp, evF, h11]; first | rfl | go_simp) ⟨Gr.refl _, rfl⟩
        · intro f_ w' g_ hF hD
          have h4 : f_ 4 = .pointer (some ⟨q, 0, none⟩) := hF 4 (by kernel_rfl)
          rw [if_pos (wanted_none rfl)]
          clear hF hD
          exact gives_val (by simp only [execOp, evF, h4]; first | rfl | go_simp) ⟨Gr.refl _, rfl⟩
        · intro f_ w' g_ hF hD
          have h66 : f_ 66 = (.pointer (some ⟨q, 0, none⟩)) := hD 7 66 (by kernel_rfl) rfl
          rw [if_pos (wanted_none rfl)]
          clear hF hD
          have kg : Below wr.heap.size wr w' := (below_drewN (Below.refl _ _) 1).trans g_
          have cl : w'.cell? ⟨q, 0, none⟩ = some (.int .i64 (C : Int)) := by rw [← HF.out.c]; exact (HQ.out.below kg).nine.1
          exact gives_val (by simp only [execOp, evF, h66]; go_simp) ⟨Gr.refl _, rfl⟩
        · intro f_ w' g_ hF hD
          have h65 : f_ 65 = (.int .i64 (y : Int)) := hD 6 65 (by kernel_rfl) rfl
          have h67 : f_ 67 = (.int .i64 (C : Int)) := hD 8 67 (by kernel_rfl) rfl
          rw [if_pos (wanted_none rfl)]
          clear hF hD
          exact gives_val (by simp only [execOp, evF, h65, h67]; go_simp; exact IntWalk.i64_in _ ⟨by omega, by omega⟩) ⟨Gr.refl _, rfl⟩
        · intro f_ w' g_ hF hD
          have h4 : f_ 4 = .pointer (some ⟨q, 0, none⟩) := hF 4 (by kernel_rfl)
          rw [if_pos (wanted_none rfl)]
          clear hF hD
          exact gives_val (by simp only [execOp, evF, h4]; first | rfl | go_simp) ⟨Gr.refl _, rfl⟩
        · intro f_ w' g_ hF hD
          have h69 : f_ 69 = (.pointer (some ⟨q, 0, none⟩)) := hD 10 69 (by kernel_rfl) rfl
          rw [if_pos (wanted_none rfl)]
          clear hF hD
          have kg : Below wr.heap.size wr w' := (below_drewN (Below.refl _ _) 1).trans g_
          have cl : w'.cell? ⟨q, 0, none⟩ = some (.int .i64 (C : Int)) := by rw [← HF.out.c]; exact (HQ.out.below kg).nine.1
          exact gives_val (by simp only [execOp, evF, h69]; go_simp) ⟨Gr.refl _, rfl⟩
        · intro f_ w' g_ hF hD
          have h68 : f_ 68 = (.int .i64 (l : Int)) := hD 9 68 (by kernel_rfl) rfl
          have h70 : f_ 70 = (.int .i64 (C : Int)) := hD 11 70 (by kernel_rfl) rfl
          rw [if_pos (wanted_none rfl)]
          clear hF hD
          exact gives_val (by simp only [execOp, evF, h68, h70]; go_simp; exact IntWalk.i64_in _ ⟨by omega, by omega⟩) ⟨Gr.refl _, rfl⟩
        · intro f_ w' g_ hF hD
          have h60 : f_ 60 = (.slice A1 n1 c1) := hD 1 60 (by kernel_rfl) rfl
          have h64 : f_ 64 = (.int .i64 (l : Int)) := hD 5 64 (by kernel_rfl) rfl
          have h71 : f_ 71 = (.int .i64 ((l : Int) + (C : Int))) := hD 12 71 (by kernel_rfl) rfl
          rw [if_pos (wanted_none rfl)]
          clear hF hD
          have kg : Below wr.heap.size wr w' := (below_drewN (Below.refl _ _) 1).trans g_
          refine gives_cutC (.tmp 60) (.tmp 64) (.tmp 71) rfl A1 n1 c1 (by simp only [evF, h60, h64, h71]) (l : Int) ((l : Int) + (C : Int)) (by simp only [evF, h60, h64, h71]) (by simp only [evF, h60, h64, h71]) l (l + C) rfl (by push_cast; rfl) (Nat.le_add_right _ _) HLL.out.1 HRA2.out.nc a.cells HRA2.out.hn (RdC.below HRA2.out.rd kg) ?_
          intro A' hA'
          rw [Nat.add_sub_cancel_left] at hA' ⊢
          exact ⟨Gr.refl _, A', _, rfl, by rw [rowAt, ← ELL.out]; exact hA'⟩
        · intro f_ w' g_ hF hD
          have h4 : f_ 4 = .pointer (some ⟨q, 0, none⟩) := hF 4 (by kernel_rfl)
          rw [if_pos (wanted_none rfl)]
          clear hF hD
          exact gives_val (by simp only [execOp, evF, h4]; first | rfl | go_simp) ⟨Gr.refl _, rfl⟩
        · intro f_ w' g_ hF hD
          have h73 : f_ 73 = (.pointer (some ⟨q, 2, none⟩)) := hD 14 73 (by kernel_rfl) rfl
          rw [if_pos (wanted_none rfl)]
          clear hF hD
          have kg : Below wr.heap.size wr w' := (below_drewN (Below.refl _ _) 1).trans g_
          have cl : w'.cell? ⟨q, 2, none⟩ = some (.slice A n c) := (HQ.out.below kg).nine.2.2.1
          exact gives_val (by simp only [execOp, evF, h73]; go_simp) ⟨Gr.refl _, rfl⟩
        · intro f_ w' g_ hF hD
          have h11 : f_ 11 = .int .i64 (y : Int) := hF 11 (by kernel_rfl)
          rw [if_pos (wanted_none rfl)]
          clear hF hD
          exact gives_val (by simp only [execOp, evF, h11]; first | rfl | go_simp) ⟨Gr.refl _, rfl⟩
        · intro f_ w' g_ hF hD
          have h4 : f_ 4 = .pointer (some ⟨q, 0, none⟩) := hF 4 (by kernel_rfl)
          rw [if_pos (wanted_none rfl)]
          clear hF hD
          exact gives_val (by simp only [execOp, evF, h4]; first | rfl | go_simp) ⟨Gr.refl _, rfl⟩
        · intro f_ w' g_ hF hD
          have h76 : f_ 76 = (.pointer (some ⟨q, 0, none⟩)) := hD 17 76 (by kernel_rfl) rfl
          rw [if_pos (wanted_none rfl)]
          clear hF hD
          have kg : Below wr.heap.size wr w' := (below_drewN (Below.refl _ _) 1).trans g_
          have cl : w'.cell? ⟨q, 0, none⟩ = some (.int .i64 (C : Int)) := by rw [← HF.out.c]; exact (HQ.out.below kg).nine.1
          exact gives_val (by simp only [execOp, evF, h76]; go_simp) ⟨Gr.refl _, rfl⟩
        · intro f_ w' g_ hF hD
          have h75 : f_ 75 = (.int .i64 (y : Int)) := hD 16 75 (by kernel_rfl) rfl
          have h77 : f_ 77 = (.int .i64 (C : Int)) := hD 18 77 (by kernel_rfl) rfl
          rw [if_pos (wanted_none rfl)]
          clear hF hD
          exact gives_val (by simp only [execOp, evF, h75, h77]; go_simp; exact IntWalk.i64_in _ ⟨by omega, by omega⟩) ⟨Gr.refl _, rfl⟩
        · intro f_ w' g_ hF hD
          have h11 : f_ 11 = .int .i64 (y : Int) := hF 11 (by kernel_rfl)
          rw [if_pos (wanted_none rfl)]
          clear hF hD
          exact gives_val (by simp only [execOp, evF, h11]; first | rfl | go_simp) ⟨Gr.refl _, rfl⟩
        · intro f_ w' g_ hF hD
          have h4 : f_ 4 = .pointer (some ⟨q, 0, none⟩) := hF 4 (by kernel_rfl)
          rw [if_pos (wanted_none rfl)]
          clear hF hD
          exact gives_val (by simp only [execOp, evF, h4]; first | rfl | go_simp) ⟨Gr.refl _, rfl⟩
        · intro f_ w' g_ hF hD
          have h80 : f_ 80 = (.pointer (some ⟨q, 0, none⟩)) := hD 21 80 (by kernel_rfl) rfl
          rw [if_pos (wanted_none rfl)]
          clear hF hD
          have kg : Below wr.heap.size wr w' := (below_drewN (Below.refl _ _) 1).trans g_
          have cl : w'.cell? ⟨q, 0, none⟩ = some (.int .i64 (C : Int)) := by rw [← HF.out.c]; exact (HQ.out.below kg).nine.1
          exact gives_val (by simp only [execOp, evF, h80]; go_simp) ⟨Gr.refl _, rfl⟩
        · intro f_ w' g_ hF hD
          have h79 : f_ 79 = (.int .i64 (y : Int)) := hD 20 79 (by kernel_rfl) rfl
          have h81 : f_ 81 = (.int .i64 (C : Int)) := hD 22 81 (by kernel_rfl) rfl
          rw [if_pos (wanted_none rfl)]
          clear hF hD
          exact gives_val (by simp only [execOp, evF, h79, h81]; go_simp; exact IntWalk.i64_in _ ⟨by omega, by omega⟩) ⟨Gr.refl _, rfl⟩
        · intro f_ w' g_ hF hD
          have h4 : f_ 4 = .pointer (some ⟨q, 0, none⟩) := hF 4 (by kernel_rfl)
          rw [if_pos (wanted_none rfl)]
          clear hF hD
          exact gives_val (by simp only [execOp, evF, h4]; first | rfl | go_simp) ⟨Gr.refl _, rfl⟩
        · intro f_ w' g_ hF hD
          have h83 : f_ 83 = (.pointer (some ⟨q, 0, none⟩)) := hD 24 83 (by kernel_rfl) rfl
          rw [if_pos (wanted_none rfl)]
          clear hF hD
          have kg : Below wr.heap.size wr w' := (below_drewN (Below.refl _ _) 1).trans g_
          have cl : w'.cell? ⟨q, 0, none⟩ = some (.int .i64 (C : Int)) := by rw [← HF.out.c]; exact (HQ.out.below kg).nine.1
          exact gives_val (by simp only [execOp, evF, h83]; go_simp) ⟨Gr.refl _, rfl⟩
        · intro f_ w' g_ hF hD
          have h82 : f_ 82 = (.int .i64 (l : Int)) := hD 23 82 (by kernel_rfl) rfl
          have h84 : f_ 84 = (.int .i64 (C : Int)) := hD 25 84 (by kernel_rfl) rfl
          rw [if_pos (wanted_none rfl)]
          clear hF hD
          exact gives_val (by simp only [execOp, evF, h82, h84]; go_simp; exact IntWalk.i64_in _ ⟨by omega, by omega⟩) ⟨Gr.refl _, rfl⟩
        · intro f_ w' g_ hF hD
          have h74 : f_ 74 = (.slice A n c) := hD 15 74 (by kernel_rfl) rfl
          have h78 : f_ 78 = (.int .i64 (l : Int)) := hD 19 78 (by kernel_rfl) rfl
          have h85 : f_ 85 = (.int .i64 ((l : Int) + (C : Int))) := hD 26 85 (by kernel_rfl) rfl
          rw [if_pos (wanted_none rfl)]
          clear hF hD
          have kg : Below wr.heap.size wr w' := (below_drewN (Below.refl _ _) 1).trans g_
          refine gives_cutC (.tmp 74) (.tmp 78) (.tmp 85) rfl A n c (by simp only [evF, h74, h78, h85]) (l : Int) ((l : Int) + (C : Int)) (by simp only [evF, h74, h78, h85]) (by simp only [evF, h74, h78, h85]) l (l + C) rfl (by push_cast; rfl) (Nat.le_add_right _ _) HLL.out.2 HRB2.out.nc b.cells HRB2.out.hn (RdC.below HRB2.out.rd kg) ?_
          intro A' hA'
          rw [Nat.add_sub_cancel_left] at hA' ⊢
          exact ⟨Gr.refl _, A', _, rfl, by rw [rowAt, ← ELL.out]; exact hA'⟩
        · intro f_ w' g_ hF hD
          have q72 := hD 13 72 (by kernel_rfl) rfl
          have q86 := hD 27 86 (by kernel_rfl) rfl
          rw [if_pos (wanted_none rfl)]
          clear hF hD
          obtain ⟨A', c', e2, r2⟩ := q72
          obtain ⟨A'', c'', e3, r3⟩ := q86
          refine gives_func rfl Tryd.func89 (by kernel_rfl) rfl (by simp only [List.map_toArray, List.map_cons, List.map_nil, evF, e2, e3]) ((refSameC_c A' C c' (rowAt C y a.cells) A'' C c'' (rowAt C y b.cells) w' HRL.out.1 r2 HRL.out.2 r3 (by omega)).mono ?_)
          rintro e w'' ⟨rfl, hb⟩
          rw [HSB.out]
          exact ⟨_, rfl, hb, rfl⟩
        · intro f_ w' g_ hF hD
          have h87 : f_ 87 = (.bool SB) := hD 28 87 (by kernel_rfl) rfl
          rw [if_pos (wanted_none rfl)]
          clear hF hD
          exact gives_val (by simp only [execOp, evF, h87]; first | rfl | go_simp) ⟨Gr.refl _, rfl⟩
      intro f_ w2 gg hD
      have h88 : f_ 88 = .bool (!SB) := hD 29 88 rfl
      have kg : Below wr.heap.size wr w2 := (below_drewN (Below.refl _ _) 1).trans gg
      simp only [putAll, List.setIfInBounds_toArray, List.set_cons_zero, List.set_cons_succ, h88]
      generalize f_ 59 = d59
      generalize f_ 60 = d60
      generalize f_ 61 = d61
      generalize f_ 62 = d62
      generalize f_ 63 = d63
      generalize f_ 64 = d64
      generalize f_ 65 = d65
      generalize f_ 66 = d66
      generalize f_ 67 = d67
      generalize f_ 68 = d68
      generalize f_ 69 = d69
      generalize f_ 70 = d70
      generalize f_ 71 = d71
      generalize f_ 72 = d72
      generalize f_ 73 = d73
      generalize f_ 74 = d74
      generalize f_ 75 = d75
      generalize f_ 76 = d76
      generalize f_ 77 = d77
      generalize f_ 78 = d78
      generalize f_ 79 = d79
      generalize f_ 80 = d80
      generalize f_ 81 = d81
      generalize f_ 82 = d82
      generalize f_ 83 = d83
      generalize f_ 84 = d84
      generalize f_ 85 = d85
      generalize f_ 86 = d86
      generalize f_ 87 = d87
      have HO2 := Lib.hid (OwnB.below_ HO.out kg)
      have HK2 := Lib.hid (HK.out.trans (kg.mono HBW.out))
      have HQ2 := Lib.hid (HQ.out.below kg)
      have HW2 : Hid (Below W9.heap.size W9 w2) := Lib.hid (by rw [← EBW.out]; exact HK2.out)
      have HBW2 : Hid (base ≤ w2.heap.size) := Lib.hid (Nat.le_trans HBW.out kg.size)
      have HTY : Hid (T (y + 1) = if SB then T y else ((T y).1 + 1, (T y).2 ++ (lo y :: cellsB (rowAt C y b.cells)))) := Lib.hid (by rw [ET.out, rowsT, HSB.out])
      have hty : (T y).1 ≤ 24 := (HTL.out y hy).1
      clear hD gg kg h88 x0 x1 x2 HO HK HQ HP HW HBW
      cases SB
      rotate_left
      · go_wp2_with (fail)
        go_roundw
        case rel => exact ⟨y + 1, by omega, by go_num, by rw [HTY.out]; rfl, Lib.hid (by rw [HTY.out]; exact HO2.out), HK2⟩
        case measure => simp [intOf]; omega
      · have hwy : IntKind.u8.wrap (y : Int) = (y : Int) := IntWalk.u8_in _ ⟨by omega, by omega⟩
        have HLY : Hid (Value.int .u8 (y : Int) = bv (lo y)) := Lib.hid (int_lo (by rw [Nat.mod_eq_of_lt (by omega)]))
        go_upto_region 18 with (first
          | (at_builtin; (refine wpList_appB1 _ rfl (.tmp 91) (.tmp 94) rfl base _ _ rfl HO2.out (.int .u8 (y : Int)) rfl (lo y) HLY.out (by have := (HTL.out y hy).2; omega) HBW2.out ?_); intro v6 w6 h6 hg6 _; have hk6 : Below base w2 w6 := ((Below.refl _ _).alloc HBW2.out _).grown hg6 (Nat.le_trans HBW2.out (by simp)) (fun k e => (Own.lt HO2.out k e).1); have HO6 := Lib.hid h6; have HK6 := Lib.hid (HK2.out.trans hk6); have HBW6 : Hid (base ≤ w6.heap.size) := Lib.hid (Nat.le_trans HBW2.out hk6.size); clear h6 hg6 hk6))
        clear hwy
        have e1' := hls
        go_wp2_with (fail)
        go_loopw [9, 12] (fun v i wr => ∃ x : Nat, x ≤ C ∧ i = .int .i64 x ∧ Hid (OwnB wr base v ((T y).2 ++ (lo y :: cellsB ((rowAt C y b.cells).take x)))) ∧ Hid (Below base W9 wr)) (fun _ i _ => C - (intOf i).toNat)
        case atStart => exact ⟨0, Nat.zero_le _, rfl, Lib.hid HO6.out, HK6⟩
        case round =>
          obtain ⟨x, hx, rfl, HO, HK⟩ := hrel
          have HQ : Hid (ScB wr q b A n c L m cm) := Lib.hid ((HK.out.block q HBB.out.2.2).trans HQ9.out)
          have HW : Hid (Below W9.heap.size W9 wr) := Lib.hid (by rw [← EBW.out]; exact HK.out)
          have HBW : Hid (base ≤ wr.heap.size) := Lib.hid (by rw [EBW.out]; exact HW.out.size)
          have x0 : wr.cell? ⟨q, 0, none⟩ = some (.int .i64 (C : Int)) := by rw [← HF.out.c]; exact HQ.out.nine.1
          have x2 : wr.cell? ⟨q, 2, none⟩ = some (.slice A n c) := HQ.out.nine.2.2.1
          rcases Nat.lt_or_ge x C with hxl | hxg
          · have hxl' : (x : Int) < (C : Int) := by omega
            have hlx : l + x < b.cells.length := by have h1 := HLL.out.2; have h2 := HRB9.out.hn; omega
            obtain ⟨bb, off, hA, hbl, hcd⟩ := RdC.cellsAt (HRB9.out.below HW.out).rd (l + x) hlx
            subst hA
            obtain ⟨d, ed⟩ : ∃ d, d = b.cells[l + x] := ⟨_, rfl⟩
            rw [← ed] at hcd
            have HCD := Lib.hid hcd
            have HDN : Hid (CeN d) := Lib.hid (HCE.out d (by rw [ed]; exact List.getElem_mem _))
            have HTK : Hid (cellsB ((rowAt C y b.cells).take x) ++ cellB d = cellsB ((rowAt C y b.cells).take (x + 1))) := Lib.hid (by
              have hxr : x < (rowAt C y b.cells).length := by rw [HRL.out.2]; exact hxl
              have e5 : (rowAt C y b.cells)[x] = d := by rw [ed]; exact rowAt_get hxr ELL.out hlx
              rw [List.take_succ_eq_append_getElem hxr, cellsB_snoc, e5])
            have hidx : (l : Int) + (x : Int) < (n : Int) := by have h1 := HLL.out.2; omega
            have hidn : l + x < n := by have h1 := HLL.out.2; omega
            have HLN : Hid ((T y).2.length ≤ 20000 ∧ (cellsB ((rowAt C y b.cells).take x)).length ≤ 720) := Lib.hid ⟨(HTL.out y hy).2, by rw [cellsB_length, List.length_take]; omega⟩
            clear hlx hbl hcd ed
            go_wp2_with (first
              | (refine wpList_load_cells rfl 47 (.tmp 111) rfl ⟨bb, off + (l + x) * 6, none⟩ rfl d.cells d.val rfl _ (cells_load HCD.out) Tryd.underlying47 rfl (info_cell.trans rfl) ?_)
              | (go_at_call 90; (refine (cellBytes_c d wr HDN.out).mono ?_); rintro _ w7 ⟨v7, rfl, ho7, hb7⟩; obtain ⟨A7, c7, rfl, _, _, r7, _⟩ := OwnB.form ho7; rw [cellB_length]; have R7 := Lib.hid r7; have HO7 := Lib.hid (OwnB.below_ HO.out hb7); have HK7 := Lib.hid (HK.out.trans (hb7.mono HBW.out)); have HBW7 : Hid (base ≤ w7.heap.size) := Lib.hid (Nat.le_trans HBW.out hb7.size); clear ho7 hb7 r7)
              | (at_builtin; (refine wpList_appB _ rfl (.tmp 102) (.tmp 113) rfl base _ _ rfl HO7.out A7 9 c7 (cellB d) rfl (cellB_length d) R7.out (by have h1 := HLN.out.1; have h2 := HLN.out.2; simp only [List.length_append, List.length_cons]; omega) HBW7.out ?_); intro v8 w8 h8 hg8 _; have hk8 : Below base w7 w8 := (Below.refl _ _).grown hg8 HBW7.out (fun k e => (Own.lt HO7.out k e).1); have HO8 := Lib.hid h8; have HK8 := Lib.hid (HK7.out.trans hk8); clear h8 hg8 hk8))
            go_roundw
            case rel => exact ⟨x + 1, by omega, by go_num, Lib.hid (by have h := HO8.out; rw [List.append_assoc, List.cons_append, HTK.out] at h; exact h), HK8⟩
            case measure => simp [intOf]; omega
          · obtain rfl : C = x := by omega
            have hge' : ¬ ((C : Int) < (C : Int)) := by omega
            have HOE : Hid (OwnB wr base _ (T (y + 1)).2) := Lib.hid (by have h := HO.out; rw [List.take_of_length_le (by rw [HRL.out.2]; exact Nat.le_refl _)] at h; rw [HTY.out]; exact h)
            clear hxg hx HO
            go_wp2_with (fail)
            go_roundw
            case rel => exact ⟨y + 1, by omega, by go_num, by rw [HTY.out]; rfl, HOE, HK⟩
            case measure => simp [intOf]; omega
    · obtain rfl : R = y := by omega
      have hge' : ¬ ((R : Int) < (R : Int)) := by omega
      have htr : (T R).1 ≤ 24 := (HTL.out R (Nat.le_refl _)).1
      have hwn : IntKind.u8.wrap ((T R).1 : Int) = ((T R).1 : Int) := IntWalk.u8_in _ ⟨by omega, by omega⟩
      have HLN : Hid (Value.int .u8 ((T R).1 : Int) = bv (lo (T R).1)) := Lib.hid (int_lo (by rw [Nat.mod_eq_of_lt (by omega)]))
      have HO8 : Hid (OwnB wr B0 V8 HH) := Lib.hid (OwnB.below_ HO9.out HW.out)
      have HBZ : Hid (B0 ≤ wr.heap.size) := Lib.hid (Nat.le_trans HBB.out.1 HBW.out)
      have HBL : Hid (Below B0 W0 wr) := Lib.hid (HK9.out.trans (HW.out.mono (by have := HBB.out.1; have := EBW.out; omega)))
      have HVB : Hid (∀ j, V8.ownBlock = some j → j < base) := Lib.hid (fun j e => by have h := (Own.lt HO9.out j e).2; rw [EBW.out]; exact h)
      obtain ⟨A9, c9, e9, hn9, hm9, r9, hA9⟩ := OwnB.form HO.out
      have R9 := Lib.hid r9
      have HL9 : Hid ((T R).2.length ≤ 20000) := Lib.hid (HTL.out R (Nat.le_refl _)).2
      subst e9
      have HA9 := Lib.hid hA9
      clear hge hy r9 hA9 hn9 hm9
      go_wp2_with (first
        | (at_builtin; (refine wpList_appB1 _ rfl (.tmp 115) (.tmp 118) rfl B0 _ _ rfl HO8.out (.int .u8 ((T R).1 : Int)) rfl (lo (T R).1) HLN.out (by have := HHL.out; omega) HBZ.out ?_); intro v6 w6 h6 hg6 _; have hkr : Below wr.heap.size wr (wr.alloc (.cells #[.int .u8 ((T R).1 : Int)] 5)) := (Below.refl _ _).alloc (Nat.le_refl _) _; have HR6 : Hid (OwnB w6 base _ (T R).2) := Lib.hid (Own.frameK' (OwnB.below_ HO.out hkr) (fun j e => hg6.block j (Own.lt (OwnB.below_ HO.out hkr) j e).2 (fun e2 => by have h1 := HVB.out j e2.symm; have h2 := (Own.lt HO.out j e).1; omega))); have hk6 : Below B0 wr w6 := ((Below.refl _ _).alloc HBZ.out _).grown hg6 (Nat.le_trans HBZ.out (by simp)) (fun k e => (Own.lt HO8.out k e).1); have HO6 := Lib.hid h6; have HK6 := Lib.hid (HBL.out.trans hk6); have HZ6 : Hid (B0 ≤ w6.heap.size) := Lib.hid (Nat.le_trans HBZ.out hk6.size); clear h6 hg6 hk6 hkr)
        | (at_builtin; (refine wpList_appB _ rfl (.tmp 120) (.tmp 121) rfl B0 _ _ rfl HO6.out A9 (T R).2.length c9 (T R).2 rfl rfl (by obtain ⟨A', c', e', _, _, r', _⟩ := OwnB.form HR6.out; injection e' with e'; rw [e']; exact r') (by have h1 := HHL.out; have h2 := HL9.out; simp only [List.length_append, List.length_cons, List.length_nil]; omega) HZ6.out ?_); intro v7 w7 h7 hg7 _; have hk7 : Below B0 w6 w7 := (Below.refl _ _).grown hg7 HZ6.out (fun k e => (Own.lt HO6.out k e).1); have HO7 := Lib.hid h7; have HK7 := Lib.hid (HK6.out.trans hk7); clear h7 hg7 hk7))
      go_ret
      exact ⟨_, rfl, by rw [← EZ9.out]; exact Own.low HO7.out HB00.out.1, HB0.out.trans (HK7.out.mono HB00.out.1)⟩
end Go.Proofs.YtipofokinjkclaaDoor

/- Regions whose appends of bytes stand in a chain beside operations that float: the bytes that come are known; what each operation yields stays true as they come. Conditions: small slices besides. -/
namespace Go.Proofs.YtipofokinjkclaaDoor
open Go Go.RowKit

set_option maxRecDepth 100000 in
set_option maxHeartbeats 400000 in
theorem Num_s (n s : Nat) (w : World) (_hn : U64 n) (h1 : 1 ≤ (s : Int)) (h8 : (s : Int) ≤ 8) :
    Calls Tryd.prog 88 #[.int .u64 n, .int .i64 (s : Int)] w fun e w' => e = .returned (.slice (some ⟨w.heap.size, 0, none⟩) s s) ∧ OwnB w' w.heap.size (.slice (some ⟨w.heap.size, 0, none⟩) s s) (numL n s) ∧ Below w.heap.size w w' := by
  go_enter Tryd.func88, Tryd.ntmps88
  go_wp2_with (first | (at_make; refine wpList_makeB _ rfl (.tmp 13) (.tmp 13) rfl _ _ _ _ s rfl rfl rfl rfl (by omega) ?_))
  intro w1 ho1 hb1 _
  go_wp2
  go_loopw [0, 6] (fun m i wr => ∃ k : Nat, k ≤ s ∧ i = .int .i64 ((k : Int) - 1) ∧ m = .int .u64 ((n / 256 ^ (s - k) : Nat) : Int) ∧ OwnB wr w.heap.size (.slice (some ⟨w.heap.size, 0, none⟩) s s) (numTail n s k) ∧ Below w.heap.size w wr) (fun m i _ => (intOf i + 1).toNat)
  case atStart =>
    refine ⟨s, Nat.le_refl _, rfl, ?_, ?_, hb1⟩
    · rw [Nat.sub_self, Nat.pow_zero, Nat.div_one]
    · rw [numTail_start]; exact ho1
  case round =>
    obtain ⟨k, hk, rfl, rfl, hown, hb⟩ := hrel
    rcases Nat.eq_zero_or_pos k with h0 | h0
    · subst h0
      go_wp2
      go_ret
      refine ⟨rfl, ?_, hb⟩
      rw [← numTail_zero]; exact hown
    · obtain ⟨j, rfl⟩ : ∃ j, k = j + 1 := ⟨k - 1, by omega⟩
      have hcell := hown.cell j (by rw [numTail_length _ _ _ hk]; omega)
      have hfree := hown.free j
      obtain ⟨x, hx⟩ : ∃ x, x = n / 256 ^ (s - (j + 1)) := ⟨_, rfl⟩
      have hq : x / 256 = n / 256 ^ (s - j) := by
        rw [hx, Nat.div_div_eq_div_mul, ← Nat.pow_succ, show (s - (j + 1)).succ = s - j by omega]
      rw [← hx]
      have HX := Lib.hid hx; clear hx
      have HQ := Lib.hid hq; clear hq
      go_wp2
      go_roundw
      case rel =>
        refine ⟨j, by omega, rfl, by rw [← HQ.out]; try rfl, ?_, hb.setCell (Nat.le_refl _) _⟩
        rw [int_lo (x := (x : Int) % 256) (n := x) (by omega), ← numTail_step (by omega)]
        have h := hown.set j (lo x)
        rw [HX.out] at h ⊢
        rw [show s - 1 - j = s - (j + 1) by omega]
        exact h
      case measure => simp [intOf]


/-- A block of bytes that has room for L, into which bytes of F came. -/
def OutAt (F : List UInt8) (L : Nat) (a b : World) (j : Nat) : Prop := ∃ cs ds : Array Value, a.heap[j]? = some (.cells cs 5 (0, 0)) ∧ b.heap[j]? = some (.cells ds 5 (0, 0)) ∧ ds.size = cs.size ∧ L ≤ cs.size ∧ ∀ (i : Nat) (x : UInt8), F[i]? = some x → cs[i]? = some (bv x) → ds[i]? = some (bv x)
structure Hc (F : List UInt8) (B L : Nat) (a b : World) : Prop where
  low : Below B a b
  blk : ∀ j, j < a.heap.size → b.heap[j]? = a.heap[j]? ∨ OutAt F L a b j
theorem Hc.refl (F : List UInt8) (B L : Nat) (a : World) : Hc F B L a a := ⟨Below.refl _ _, fun _ _ => .inl rfl⟩
theorem Hc.trans {F : List UInt8} {B L : Nat} {a b c : World} (h : Hc F B L a b) (k : Hc F B L b c) : Hc F B L a c := by
  refine ⟨h.low.trans k.low, fun j hj => ?_⟩
  have hj2 := Nat.lt_of_lt_of_le hj h.low.size
  rcases h.blk j hj with e | ⟨cs, ds, h1, h2, h3, h4, h5⟩
  · rcases k.blk j hj2 with e2 | ⟨cs, ds, h1, h2, h3, h4, h5⟩
    · exact .inl (e2.trans e)
    · exact .inr ⟨cs, ds, by rw [← e]; exact h1, h2, h3, h4, h5⟩
  · rcases k.blk j hj2 with e2 | ⟨cs', ds', k1, k2, k3, k4, k5⟩
    · exact .inr ⟨cs, ds, h1, by rw [e2]; exact h2, h3, h4, h5⟩
    · rw [h2] at k1
      injection k1 with k1
      injection k1 with k1
      subst k1
      exact .inr ⟨cs, ds', h1, k2, k3.trans h3, h4, fun i x hx hc => k5 i x hx (h5 i x hx hc)⟩
theorem Hc.of {F : List UInt8} {B L : Nat} {a b : World} (hB : B ≤ a.heap.size) (h : Below a.heap.size a b) : Hc F B L a b := ⟨h.mono hB, fun j hj => .inl (h.block j hj)⟩
/-- Relations that stay. -/
structure Rh (F : List UInt8) (B L : Nat) where
  R : World → Value → Prop
  mono : ∀ {a b : World} {v : Value}, R a v → Hc F B L a b → R b v
section
variable {F : List UInt8} {B L : Nat}
def Rh.eq (u : Value) : Rh F B L := ⟨fun _ v => v = u, fun h _ => h⟩
def Rh.any : Rh F B L := ⟨fun _ _ => True, fun h _ => h⟩
/-- A slice of few bytes in a small block. -/
def SmallB (L : Nat) (bs : List UInt8) (w : World) (v : Value) : Prop := ∃ h cur c, v = .slice (some ⟨h, 0, none⟩) bs.length c ∧ w.heap[h]? = some (.cells cur 5 (0, 0)) ∧ cur.size < L ∧ ∀ (i : Nat) (x : UInt8), bs[i]? = some x → cur[i]? = some (bv x)
def Rh.small (bs : List UInt8) : Rh F B L := ⟨SmallB L bs, fun {a b v} ⟨h, cur, c, e, hg, hs, hc⟩ g => by
  rcases g.blk h (heap_lt hg) with e2 | ⟨cs, ds, h1, h2, h3, h4, h5⟩
  · exact ⟨h, cur, c, e, e2.trans hg, hs, hc⟩
  · rw [hg] at h1
    injection h1 with h1
    injection h1 with h1
    subst h1
    omega⟩
/-- What came so far. -/
def OutV (F : List UInt8) (B L k : Nat) (w : World) (v : Value) : Prop := ∃ g cur c, v = .slice (some ⟨g, 0, none⟩) k c ∧ B ≤ g ∧ w.heap[g]? = some (.cells cur 5 (0, 0)) ∧ cur.size = c ∧ L ≤ k ∧ k ≤ c ∧ c ≤ maxLen ∧ k ≤ F.length ∧ ∀ (i : Nat) (x : UInt8), i < k → F[i]? = some x → cur[i]? = some (bv x)
def Rh.out (k : Nat) : Rh F B L := ⟨OutV F B L k, fun {a b v} ⟨g, cur, c, e, hB, hg, hs, hL, hk, hm, hF, hc⟩ h => by
  rcases h.blk g (heap_lt hg) with e2 | ⟨cs, ds, h1, h2, h3, h4, h5⟩
  · exact ⟨g, cur, c, e, hB, e2.trans hg, hs, hL, hk, hm, hF, hc⟩
  · rw [hg] at h1
    injection h1 with h1
    injection h1 with h1
    subst h1
    exact ⟨g, ds, c, e, hB, h2, h3.trans hs, hL, hk, hm, hF, fun i x hi hx => h5 i x hx (hc i x hi hx)⟩⟩
theorem OutV.of {w : World} {v : Value} {bs : List UInt8} (h : OwnB w B v bs) (hF : ∃ r, F = bs ++ r) (hL : L ≤ bs.length) (h0 : 0 < bs.length) : OutV F B L bs.length w v := by
  obtain ⟨r, rfl⟩ := hF
  rcases h.2 with ⟨_, h1⟩ | ⟨g, cap, cur, rfl, hb, hg, hn, hm, hcs, ht⟩
  · rw [List.length_map] at h1; omega
  · rw [List.length_map] at hn ⊢
    refine ⟨g, cur, cap, rfl, hb, hg, by omega, hL, hn, hm, by simp, fun i x hi hx => ?_⟩
    rw [List.getElem?_append_left hi] at hx
    have h2 : (bs.map bv)[i]? = some (bv x) := by rw [List.getElem?_map, hx]; rfl
    rw [← ht, List.getElem?_take, List.length_map, if_pos (by omega)] at h2
    simpa using h2
theorem OutV.own {w : World} {v : Value} {k : Nat} (h : OutV F B L k w v) : OwnB w B v (F.take k) := by
  obtain ⟨g, cur, c, rfl, hB, hg, hs, hL, hk, hm, hF, hc⟩ := h
  have hl : (F.take k).length = k := by rw [List.length_take]; omega
  refine ⟨by rw [List.length_map, hl, Nat.mul_one], .inr ⟨g, c, cur, by rw [List.length_map, hl], hB, hg, by rw [List.length_map, hl]; exact hk, hm, by omega, ?_⟩⟩
  rw [List.length_map, hl, Nat.mul_one]
  apply List.ext_getElem?
  intro i
  rw [List.getElem?_take, List.getElem?_map, List.getElem?_take]
  by_cases hi : i < k
  · rw [if_pos hi, if_pos hi]
    obtain ⟨x, hx⟩ : ∃ x, F[i]? = some x := ⟨F[i]'(by omega), List.getElem?_eq_getElem (by omega)⟩
    rw [hx]
    simpa using hc i x hi hx
  · rw [if_neg hi, if_neg hi]; rfl
/-- One append of the chain. -/
theorem OutV.app {P : Program} {w : World} {v : Value} {k m c : Nat} {ty : TypeId} {i0 : TypeInfo} (ht : P.underlying 29 = some (.slice 5)) (hi : P.info? 5 = some i0) (hz : i0.zero = some (.int .u8 0)) (hz1 : i0.size = 1) (hz2 : i0.bytes = 1)
    (h : OutV F B L k w v) (ns : List UInt8) (a : Addr) (hm : ns.length = m) (hr : ∀ j u, (ns.map bv)[j]? = some u → w.cell? (a.add j) = some u) (hF : (F.drop k).take m = ns) (hsm : k + m ≤ 100000000) (h0 : 0 < L) (hB : B ≤ w.heap.size) :
    ∃ v' w', (Builtin.append_ #[29, 29] ty #[v, .slice (some a) m c]).run P w = .ok v' w' ∧ OutV F B L (k + m) w' v' ∧ Hc F B L w w' := by
  have hown := h.own
  obtain ⟨g, cur, cc, rfl, hBg, hg, hs, hL, hk, hmx, hFl, hc⟩ := h
  have hkm : k + m ≤ F.length := by
    have := congrArg List.length hF
    rw [List.length_take, List.length_drop, hm] at this
    omega
  have hFi : ∀ j, j < m → F[k + j]? = ns[j]? := fun j hj => by rw [← hF, List.getElem?_take, if_pos hj, List.getElem?_drop]
  by_cases hroom : k + m ≤ cc
  · have hrun := run_append_room (P := P) w 29 ty 5 i0 ht hi g k cc cur hg a m c (ns.map bv) (by rw [List.length_map, hm, hz1, Nat.mul_one]) hr (bv_one _) hroom (by rw [hz1, Nat.mul_one, List.length_map, hm]; omega)
    rw [hz1, Nat.mul_one, List.length_map, hm] at hrun
    obtain ⟨D, eD⟩ : ∃ D, D = (cur.toList.take k ++ ns.map bv ++ cur.toList.drop (k + m)).toArray := ⟨_, rfl⟩
    rw [← eD] at hrun
    have hDs : D.size = cur.size := by rw [eD]; simp [hm]; omega
    have hD1 : ∀ i, i < k → D[i]? = cur[i]? := fun i hi => by
      rw [eD, List.getElem?_toArray, List.append_assoc, List.getElem?_append_left (by simp; omega), List.getElem?_take, if_pos hi]; simp
    have hD2 : ∀ j, j < m → D[k + j]? = (ns.map bv)[j]? := fun j hj => by
      rw [eD, List.getElem?_toArray, List.append_assoc, List.getElem?_append_right (by simp; omega), List.getElem?_append_left (by simp; omega)]
      congr 1; simp; omega
    have hD3 : ∀ i, k + m ≤ i → D[i]? = cur[i]? := fun i hi => by
      rw [eD, List.getElem?_toArray, List.getElem?_append_right (by simp [hm]; omega), List.getElem?_drop]
      have : k + m + (i - (cur.toList.take k ++ ns.map bv).length) = i := by simp [hm]; omega
      rw [this]; simp
    have hnew : ∀ (i : Nat) (x : UInt8), i < k + m → k ≤ i → F[i]? = some x → D[i]? = some (bv x) := fun i x h1 h2 hx => by
      have e := hFi (i - k) (by omega)
      rw [show k + (i - k) = i by omega, hx] at e
      have := hD2 (i - k) (by omega)
      rw [show k + (i - k) = i by omega, List.getElem?_map, ← e] at this
      exact this
    refine ⟨_, _, hrun, ⟨g, D, cc, rfl, hBg, setRow_heap w g cur _ _ _ hg, hDs.trans hs, by omega, hroom, hmx, hkm, fun i x hi' hx => ?_⟩, ⟨⟨rfl, rfl, rfl, by simp, fun q hq => setRow_other w g q _ (by omega)⟩, fun j hj => ?_⟩⟩
    · rcases Nat.lt_or_ge i k with h1 | h1
      · rw [hD1 i h1]; exact hc i x h1 hx
      · exact hnew i x hi' h1 hx
    · by_cases e : j = g
      · subst e
        refine .inr ⟨cur, D, hg, setRow_heap w j cur _ _ _ hg, hDs, by omega, fun i x hx hcx => ?_⟩
        rcases Nat.lt_or_ge i k with h1 | h1
        · rw [hD1 i h1]; exact hcx
        · rcases Nat.lt_or_ge i (k + m) with h2 | h2
          · exact hnew i x h2 h1 hx
          · rw [hD3 i h2]; exact hcx
      · exact .inl (setRow_other w g j _ e)
  · have hx : (F.take k ++ ns) = F.take (k + m) := by rw [List.take_add, hF]
    have htl : (F.take k).length = k := by rw [List.length_take]; omega
    have holds : ∀ j u, ((F.take k).map bv)[j]? = some u → w.cell? ((⟨g, 0, none⟩ : Addr).add j) = some u := by
      have := hown.cells (g := g) rfl
      exact this
    obtain ⟨v', w', r1, r2, r3, _, _⟩ := run_append_own_at (P := P) w B 29 ty 5 i0 (.int .u8 0) 1 1 ht hi hz hz1 hz2 rfl (by decide) _ _ ((F.take k).map bv) hown a m c (ns.map bv) (by rw [List.length_map, hm, Nat.mul_one]) hr (bv_one _) (by rw [List.length_map, htl]; unfold maxLen; omega) (by rw [List.length_map, htl]; omega) hB
    have r4 := run_append_grow (P := P) w 29 ty 5 i0 (.int .u8 0) ht hi hz ⟨g, 0, none⟩ k cc ((F.take k).map bv) (by rw [List.length_map, htl, hz1, Nat.mul_one]) holds a m c (ns.map bv) (by rw [List.length_map, hm, hz1, Nat.mul_one]) hr (by omega) (by omega) (growslice_fits (by omega) (by rw [hz2]; omega))
    have e := r4.symm.trans r1
    injection e with e1 e2
    have hbw : Below w.heap.size w w' := by rw [← e2]; exact (show Below w.heap.size w w.drew from below_drewN (Below.refl _ _) 1).alloc (Nat.le_refl _) _
    refine ⟨v', w', r1, ?_, Hc.of hB hbw⟩
    have r2' : OwnB w' B v' (F.take (k + m)) := by
      rw [← hx]
      rw [List.length_map, htl] at r2
      unfold OwnB Own
      rw [List.length_map, List.length_append, htl, hm, List.map_append]
      exact r2
    have hl2 : (F.take (k + m)).length = k + m := by rw [List.length_take]; omega
    have := OutV.of (F := F) (L := L) r2' ⟨F.drop (k + m), (List.take_append_drop _ _).symm⟩ (by omega)
    rw [hl2] at this
    exact this (by omega)
end
/-! ### The law -/
def rhOf {F : List UInt8} {B L : Nat} (l : List (Rh F B L)) (i : Nat) : World → Value → Prop := (l.getD i Rh.any).R
def StpH {F : List UInt8} {B L : Nat} (P : Program) (ops : Array Oper) (a : Act) (W : World) (l : List (Rh F B L)) (i : Nat) (o : Oper) : Prop :=
  ∀ (f : Nat → Value) (w : World), Hc F B L W w → (∀ t, writes ops t = false → f t = a.tmps.getD t undef) →
      (∀ j d, depOn ops i j = true → dstOf ops j = some d → rhOf l j w (f d)) → if Region.wanted o (yieldedF ops f) = true then Gives P o f w (fun v w'' => Hc F B L w w'' ∧ rhOf l i w'' v) else rhOf l i w undef
theorem wp_region_rh {F : List UInt8} {B L : Nat} {P : Program} (n : Nat) (l : List (Rh F B L)) (ws : List Nat) {id : Nat} {os : List Oper} {Q : Exit → Act → World → Prop} {a : Act} {w : World} (hm : P.follows .mixedOrders = true) (hn : a.tmps.size = n) (hok : slotsOk os.toArray n = true) (hws : allIn os.toArray ws = true)
    (steps : AllFrom (StpH P os.toArray a w.drew l) 0 os)
    (fin : ∀ (f : Nat → Value) (w' : World), Hc F B L w.drew w' → (∀ j d, dstOf os.toArray j = some d → rhOf l j w' (f d)) → Q .normal ⟨putAll f ws a.tmps, a.defers⟩ w') :
    (Code.region id os.toArray true).wp P Q a w := by
  refine wp_region_rel n hm hn hok (Hc F B L) (rhOf l) (Hc.refl F B L) Hc.trans (fun j _ _ _ h g => (l.getD j Rh.any).mono h g) (fun i o ho => ?_) (fun f w' g hF hD => ?_)
  · have := AllFrom.out os 0 steps i o (by simpa using ho)
    rw [Nat.zero_add] at this
    exact this
  have e : ((List.range n).map f).toArray = putAll f ws a.tmps := by
    apply Array.ext
    · rw [putAll_size, hn]; simp
    · intro t h1 h2
      have ht : t < n := by simpa using h1
      have h3 := putAll_get f ws a.tmps t (by rw [hn]; exact ht) (by
        by_cases hw : writes os.toArray t = true
        · left
          obtain ⟨j, hj, hd⟩ := List.any_eq_true.1 hw
          have hd := beq_iff_eq.1 hd
          have := List.all_eq_true.1 hws j hj
          rw [hd] at this
          simpa using this
        · right
          exact (hF t (by simpa using hw)).symm)
      have h4 : (putAll f ws a.tmps)[t] = f t := by
        rw [← h3]; simp [h2]
      rw [h4]; simp
  rw [e]
  exact fin f w' g hD
/-- The steps of a chain: a number laid, one byte laid, an append. -/
theorem gives_num {F : List UInt8} {B L : Nat} {o : Oper} {f : Nat → Value} {w : World} (x y : Operand) (ats : Array TypeId) (ho : o.op = .call { callee := .value (.func 88), args := #[x, y], argTypes := ats })
    (n s : Nat) (S : Int) (hx : evF f x = .int .u64 (n : Int)) (hy : evF f y = .int .i64 S) (hS : S = (s : Int)) (hn : U64 n) (h1 : 1 ≤ s) (h8 : s ≤ 8) (hB : B ≤ w.heap.size) (hL : s < L) :
    Gives Tryd.prog o f w (fun v w'' => Hc F B L w w'' ∧ SmallB L (numL n s) w'' v) := by
  subst hS
  refine gives_func ho Tryd.func88 (by kernel_rfl) rfl (by simp only [List.map_toArray, List.map_cons, List.map_nil, hx, hy]) ((Num_s n s w hn (by omega) (by omega)).mono ?_)
  rintro e w'' ⟨rfl, ho', hb⟩
  refine ⟨_, rfl, Hc.of hB hb, ?_⟩
  rcases ho'.2 with ⟨h, _⟩ | ⟨g, cap, cur, hv, hb', hg, hn', hm, hcs, ht⟩
  · cases h
  · injection hv with hv1 hv2 hv3
    injection hv1 with hv1
    injection hv1 with hv1
    subst hv1 hv3
    refine ⟨w.heap.size, cur, s, by rw [numL_length], hg, by omega, fun i x hx => ?_⟩
    have hi : i < (numL n s).length := (List.getElem?_eq_some_iff.1 hx).1
    have h2 : ((numL n s).map bv)[i]? = some (bv x) := by rw [List.getElem?_map, hx]; rfl
    rw [← ht, List.getElem?_take, List.length_map, if_pos (by omega)] at h2
    simpa using h2
theorem SmallB.rd {L : Nat} {bs : List UInt8} {w : World} {v : Value} (h : SmallB L bs w v) : ∃ a c, v = .slice (some a) bs.length c ∧ ∀ j u, (bs.map bv)[j]? = some u → w.cell? (a.add j) = some u := by
  obtain ⟨g, cur, c, e, hg, _, hc⟩ := h
  refine ⟨⟨g, 0, none⟩, c, e, fun j u hu => ?_⟩
  rw [List.getElem?_map] at hu
  obtain ⟨x, hx, rfl⟩ := Option.map_eq_some_iff.1 hu
  rw [Addr.add_lit, Nat.zero_add, cell_of_row w g j cur _ (0, 0) hg]
  exact hc j x hx
theorem gives_app {F : List UInt8} {B L : Nat} {o : Oper} {f : Nat → Value} {w : World} (x y : Operand) (ho : o.op = .call { callee := .builtin .append, args := #[x, y], argTypes := #[29, 29] })
    (k m : Nat) (ns : List UInt8) (hm : ns.length = m) (hx : OutV F B L k w (evF f x)) (hy : SmallB L ns w (evF f y)) (hF : (F.drop k).take m = ns) (hsm : k + m ≤ 100000000) (h0 : 0 < L) (hB : B ≤ w.heap.size) :
    Gives Tryd.prog o f w (fun v w'' => Hc F B L w w'' ∧ OutV F B L (k + m) w'' v) := by
  obtain ⟨i0, hi, hz0, hz1, hz2⟩ := info_parts info_u8
  obtain ⟨a, c, e, hr⟩ := hy.rd
  obtain ⟨v', w', hrun, h1, h2⟩ := OutV.app (P := Tryd.prog) (ty := o.type) (c := c) Tryd.underlying29 hi hz0 hz1 hz2 hx ns a hm hr hF hsm h0 hB
  refine gives_val (v := v') (w' := w') ?_ ⟨h2, h1⟩
  unfold execOp
  simp only [ho, resolve, invoke, builtin, Sem.run_bind, Sem.run_pure, Result.andThen_ok, List.map_toArray, List.map_cons, List.map_nil, e, hm, hrun]
end Go.Proofs.YtipofokinjkclaaDoor
