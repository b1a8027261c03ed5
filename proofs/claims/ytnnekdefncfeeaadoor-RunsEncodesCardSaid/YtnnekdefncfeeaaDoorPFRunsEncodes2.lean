/- Parts one behind the other: What the reference's Diff (17) answers: the diff by runs. Conditions: as told at each. -/
import Derived.Test.YtnnekdefncfeeaaDoorPFRunsEncodes1
import Derived.Test.YtnnekdefncfeeaaDoorPF19
import Derived.Deep.CutBlock
import Derived.Deep.CutRange
import Derived.Deep.DeepCutAuto

set_option linter.unusedVariables false
set_option linter.unusedSimpArgs false
/- What the reference's Diff (17) answers: the diff by runs. Conditions: the second screen fits, the first has as many cells. -/
namespace Go.Proofs.YtnnekdefncfeeaaDoor
open Go Go.RowKit Go.Lib

theorem bv_two : Value.int .u8 2 = bv 2 := by kernel_rfl
theorem bv_one1 : Value.int .u8 1 = bv 1 := by kernel_rfl
theorem bv_zero : Value.int .u8 0 = bv 0 := by kernel_rfl
theorem bv_five : Value.int .u8 5 = bv 5 := by kernel_rfl
theorem rd_other {w w' : World} {gb : Nat} {vs : List Value} {o : Option Nat} (h : Rd w (some ⟨gb, 0, none⟩) vs) (hg : w.grownBy w' o) (hne : o ≠ some gb) : Rd w' (some ⟨gb, 0, none⟩) vs :=
  h.of_blocks (fun b hb ⟨off, e⟩ => hg.block b hb (fun e2 => hne (by injection e with e; injection e with e _; rw [← e2, e]))) hg.size
theorem ne_other {u u' : Option Nat} {s gb : Nat} (h : u' = u ∨ u' = some s) (hu : u ≠ some gb) (hs : gb < s) : u' ≠ some gb := by
  rcases h with h | h
  · rw [h]; exact hu
  · rw [h]; intro e; injection e with e; omega
theorem begA_snoc {a b : List CeD} {k : Nat} {E S : Bool} (h : begF a b k = (!E && !S)) (h2 : (!E && !S) = true) : begA a b (k + 1) = begA a b k ++ [k] := by rw [begA_succ, h, h2]; rfl
theorem begA_stay {a b : List CeD} {k : Nat} {E S : Bool} (h : begF a b k = (!E && !S)) (h2 : (!E && !S) = false) : begA a b (k + 1) = begA a b k := by rw [begA_succ, h, h2]; exact List.append_nil _
set_option maxRecDepth 100000 in
set_option maxHeartbeats 16000000 in
theorem diff17_c (a b : ScD) (A1 : Option Addr) (n1 c1 : Nat) (L1 : Option Addr) (m1 k1 : Nat) (A : Option Addr) (n c : Nat) (L : Option Addr) (m cm : Nat) (C R : Nat) (w : World)
    (ha : ScR w a A1 n1 c1 L1 m1 k1) (hb : ScR w b A n c L m cm) (hf : Fit17 b C R) (hce : ∀ d ∈ b.cells, CeOk d) (hal : a.cells.length = C * R) (hm : 0 ≤ b.mouse) :
    Calls Tryd.prog 21 #[.agg (scC a A1 n1 c1 L1 m1 k1), .agg (scC b A n c L m cm)] w fun e w' => ∃ v, e = .returned v ∧ OwnB w' w.heap.size v (lay17 a b) ∧ Below w.heap.size w w' ∧ (lay17 a b).length ≤ 200000 := by
  have hnn : n1 = n := by rw [← ha.hn, ← hb.hn, hal, hf.len]
  subst hnn
  have hpos : 0 < n1 := by rw [← hb.hn, hf.len]; exact Nat.mul_pos hf.c1 hf.r1
  obtain ⟨g, o, rfl, -, -⟩ := RdC.cellsAt ha.rd 0 (by rw [ha.hn]; exact hpos)
  obtain ⟨g2, o2, rfl, -, -⟩ := RdC.cellsAt hb.rd 0 (by rw [hb.hn]; exact hpos)
  obtain ⟨X, eX⟩ : ∃ X, X = scC a (some ⟨g, o, none⟩) n1 c1 L1 m1 k1 := ⟨_, rfl⟩
  obtain ⟨Y, eY⟩ : ∃ Y, Y = scC b (some ⟨g2, o2, none⟩) n1 c L m cm := ⟨_, rfl⟩
  rw [← eX, ← eY]
  obtain ⟨Z, eZ⟩ : ∃ Z, lay17 a b = Z := ⟨_, rfl⟩
  rw [eZ]
  have EZ := Lib.hid eZ
  obtain ⟨W0, eW0⟩ : ∃ W0, W0 = (w.alloc (.cells X 25)).alloc (.cells Y 25) := ⟨_, rfl⟩
  obtain ⟨p, ep⟩ : ∃ p, p = w.heap.size := ⟨_, rfl⟩
  obtain ⟨q, eq⟩ : ∃ q, q = w.heap.size + 1 := ⟨_, rfl⟩
  have hb0 : Below w.heap.size w W0 := by rw [eW0]; exact ((Below.refl _ _).alloc (Nat.le_refl _) _).alloc (by simp) _
  have HP0 : Hid (ScB W0 p a (some ⟨g, o, none⟩) n1 c1 L1 m1 k1) := Lib.hid (by rw [eW0, ep, eX]; exact (Below.heap_alloc _ _ _ (by simp)).trans (heap_alloc_new _ _))
  have HQ0 : Hid (ScB W0 q b (some ⟨g2, o2, none⟩) n1 c L m cm) := Lib.hid (by rw [eW0, eq, eY]; exact heap_alloc2_new _ _ _)
  have EW0 := Lib.hid eW0
  have EP := Lib.hid ep
  have EQ := Lib.hid eq
  have HB0 := Lib.hid hb0
  have HRA := Lib.hid (ha.below hb0)
  have HRB := Lib.hid (hb.below hb0)
  have HCA : Hid (∀ k, k < n1 → ∀ W, Below W0.heap.size W0 W → CellsAt W g (o + k * 6) (atC a.cells k)) := Lib.hid (fun k hk W hW => by
    have hk2 : k < a.cells.length := by rw [ha.hn]; exact hk
    obtain ⟨g', o', e, _, h⟩ := RdC.cellsAt (RdC.below (ha.below hb0).rd hW) k hk2
    injection e with e; injection e with e1 e2; subst e1 e2
    rw [atC_eq hk2]; exact h)
  have HCB : Hid (∀ k, k < n1 → ∀ W, Below W0.heap.size W0 W → CellsAt W g2 (o2 + k * 6) (atC b.cells k)) := Lib.hid (fun k hk W hW => by
    have hk2 : k < b.cells.length := by rw [hb.hn]; exact hk
    obtain ⟨g', o', e, _, h⟩ := RdC.cellsAt (RdC.below (hb.below hb0).rd hW) k hk2
    injection e with e; injection e with e1 e2; subst e1 e2
    rw [atC_eq hk2]; exact h)
  have HF := Lib.hid hf
  have HCE : Hid (∀ d ∈ b.cells, CeOk d ∧ 0 ≤ d.r ∧ d.r ≤ 1114111) := Lib.hid (fun d hd => ⟨hce d hd, by have := hf.rune d hd; omega, (hf.rune d hd).2⟩)
  have HMO := Lib.hid hm
  obtain ⟨B0, eB0⟩ : ∃ B, B = W0.heap.size := ⟨_, rfl⟩
  have HB00 : Hid (w.heap.size ≤ B0 ∧ p < B0 ∧ q < B0) := Lib.hid (by rw [eB0]; exact ⟨hb0.size, heap_lt HP0.out, heap_lt HQ0.out⟩)
  have EB0 := Lib.hid eB0
  have HN : Hid (n1 ≤ 1920 ∧ a.cells.length = n1 ∧ b.cells.length = n1) := Lib.hid ⟨by rw [← hb.hn, hf.len]; exact Nat.mul_le_mul hf.c2 hf.r2, ha.hn, hb.hn⟩
  obtain ⟨X0, eX0⟩ : ∃ x : Nat, b.x = (x : Int) := ⟨b.x.toNat, by have := hf.x0; omega⟩
  obtain ⟨Y0, eY0⟩ : ∃ y : Nat, b.y = (y : Int) := ⟨b.y.toNat, by have := hf.y0; omega⟩
  obtain ⟨M0, eM0⟩ : ∃ y : Nat, b.mouse = (y : Int) := ⟨b.mouse.toNat, by omega⟩
  have HXY : Hid (X0 < 80 ∧ Y0 < 24 ∧ M0 ≤ 2 ∧ b.title.size ≤ 64) := Lib.hid (by have h1 := hf.x1; have h2 := hf.y1; have h3 := hf.mo; have h4 := hf.c2; have h5 := hf.r2; have h6 := hf.tl; omega)
  obtain ⟨d1, e1⟩ : ∃ t, (b.x != a.x) = t := ⟨_, rfl⟩
  obtain ⟨d2, e2⟩ : ∃ t, (b.y != a.y) = t := ⟨_, rfl⟩
  obtain ⟨d3, e3⟩ : ∃ t, (b.hid != a.hid) = t := ⟨_, rfl⟩
  obtain ⟨d4, e4⟩ : ∃ t, (b.mouse != a.mouse) = t := ⟨_, rfl⟩
  obtain ⟨T, eT⟩ : ∃ t, (d1 || (d2 || d3)) = t := ⟨_, rfl⟩
  obtain ⟨TE, eTE⟩ : ∃ t, (b.title.toList == a.title.toList) = t := ⟨_, rfl⟩
  have HCU : Hid (curB a b = if T then 2 :: (varL X0 ++ (varL Y0 ++ [if b.hid then 1 else 0])) else []) := Lib.hid (by unfold curB; rw [e1, e2, e3, eT, eX0, eY0]; rfl)
  have HTI : Hid (titB17 a b = if TE then [] else 3 :: (varL b.title.size ++ strB b.title)) := Lib.hid (by unfold titB17; rw [eTE])
  have HMU : Hid (mouB a b = if d4 then [4, lo M0] else []) := Lib.hid (by unfold mouB; rw [e4, eM0]; rfl)
  have HCL : Hid ((curB a b).length ≤ 31) := Lib.hid (by
    have h1 := HXY.out
    have h2 := varL_len10 (n := X0) (u64_small (by omega))
    have h3 := varL_len10 (n := Y0) (u64_small (by omega))
    rw [HCU.out]
    split
    · simp only [List.length_cons, List.length_append, List.length_nil]; omega
    · simp)
  have HTL : Hid ((titB17 a b).length ≤ 80) := Lib.hid (by
    have h1 := HXY.out
    have h2 := varL_len10 (n := b.title.size) (u64_small (by omega))
    rw [HTI.out]
    split
    · simp
    · simp only [List.length_cons, List.length_append, strB_len]; omega)
  have HML : Hid ((mouB a b).length ≤ 2) := Lib.hid (by rw [HMU.out]; split <;> simp)
  have HT := Lib.hid eT
  have E3 : Hid ((b.hid == a.hid) = !d3) := Lib.hid (by rw [← e3, bne, Bool.not_not])
  have HTE := Lib.hid eTE
  have EX0 := Lib.hid eX0
  have EY0 := Lib.hid eY0
  have EM0 := Lib.hid eM0
  have E4 := Lib.hid e4
  clear eX eY eZ eW0 ep eq hb0 ha hb hf hce hal hm eB0 eX0 eY0 eM0 e4 eT eTE
  have HQW : Hid (∀ W, Below B0 W0 W → ScB W q b (some ⟨g2, o2, none⟩) n1 c L m cm) := Lib.hid (fun W hW => (hW.block q HB00.out.2.2).trans HQ0.out)
  have HPW : Hid (∀ W, Below B0 W0 W → ScB W p a (some ⟨g, o, none⟩) n1 c1 L1 m1 k1) := Lib.hid (fun W hW => (hW.block p HB00.out.2.1).trans HP0.out)
  have HCAW : Hid (∀ W, Below B0 W0 W → ∀ k, k < n1 → CellsAt W g (o + k * 6) (atC a.cells k)) := Lib.hid (fun W hW k hk => HCA.out k hk W (by rw [← EB0.out]; exact hW))
  have HCBW : Hid (∀ W, Below B0 W0 W → ∀ k, k < n1 → CellsAt W g2 (o2 + k * 6) (atC b.cells k)) := Lib.hid (fun W hW k hk => HCB.out k hk W (by rw [← EB0.out]; exact hW))
  have HSW : Hid (∀ W, Below B0 W0 W → B0 ≤ W.heap.size) := Lib.hid (fun W hW => by rw [EB0.out]; exact hW.size)
  clear HCA HCB
  go_enter Tryd.func21, Tryd.ntmps21
  go_upto_region 1 with (fail)
  rw [← EW0.out, ← EQ.out, ← EP.out]
  go_upto_region 2 with (fail)
  generalize eW1 : World.alloc W0 _ = W1
  rw [← EB0.out]
  have HO1 : Hid (OwnB W1 B0 (.slice (some ⟨B0, 0, none⟩) 0 0) []) := Lib.hid (by rw [← eW1, EB0.out]; exact OwnB_lit W0 [] _ rfl 0 rfl (by simp))
  have HK1 : Hid (Below B0 W0 W1) := Lib.hid (by rw [← eW1, EB0.out]; exact (Below.refl _ _).alloc (Nat.le_refl _) _)
  clear eW1
  have x3 : W1.cell? ⟨q, 3, none⟩ = some (.int .i64 b.x) := (HQW.out W1 HK1.out).nine.2.2.2.1
  have x4 : W1.cell? ⟨q, 4, none⟩ = some (.int .i64 b.y) := (HQW.out W1 HK1.out).nine.2.2.2.2.1
  have x5 : W1.cell? ⟨q, 5, none⟩ = some (.bool b.hid) := (HQW.out W1 HK1.out).nine.2.2.2.2.2.1
  have y3 : W1.cell? ⟨p, 3, none⟩ = some (.int .i64 a.x) := (HPW.out W1 HK1.out).nine.2.2.2.1
  have y4 : W1.cell? ⟨p, 4, none⟩ = some (.int .i64 a.y) := (HPW.out W1 HK1.out).nine.2.2.2.2.1
  have y5 : W1.cell? ⟨p, 5, none⟩ = some (.bool a.hid) := (HPW.out W1 HK1.out).nine.2.2.2.2.2.1
  go_cut [36] (fun s36 wx => s36 = .bool T ∧ Hid (wx = W1))
  case first => as_aux_lemma =>
    cases d1 <;> cases d2 <;> cases d3 <;>
    · go_wp2_with (fail)
      go_meet
      refine ⟨?_, Lib.hid rfl⟩
      first | exact congrArg Value.bool HT.out | exact congrArg Value.bool ((congrArg not E3.out).trans HT.out)
  case rest =>
  obtain ⟨rfl, hwc⟩ := hcut
  obtain rfl := hwc.out.symm
  clear hwc x3 x4 x5 y3 y4 y5 e1 e2 e3 E3
  go_upto_if 36 with (fail)
  go_cut [5] (fun s5 wx => Hid (OwnB wx B0 s5 (curB a b)) ∧ Hid (Below B0 W0 wx))
  case first => as_aux_lemma =>
    have HS1 := Lib.hid (HSW.out W1 HK1.out)
    cases T
    · have HE : Hid (curB a b = []) := Lib.hid (by rw [HCU.out]; rfl)
      go_wp2_with (fail)
      go_meet
      exact ⟨Lib.hid (by rw [HE.out]; exact HO1.out), HK1⟩
    · obtain ⟨ns, ens⟩ : ∃ ns : List Nat, ns = [X0, Y0] := ⟨_, rfl⟩
      have HNS : Hid (ns.length = 2 ∧ (∀ x ∈ ns, x < 2 ^ 63) ∧ (varsL ns).length ≤ 20) := Lib.hid (by
        have h1 := HXY.out
        have h3 : ∀ x ∈ ns, x < 2 ^ 63 := by
          intro x hx
          rw [ens] at hx
          simp only [List.mem_cons, List.not_mem_nil, or_false] at hx
          rcases hx with rfl | rfl <;> omega
        refine ⟨by rw [ens]; rfl, h3, ?_⟩
        have h4 := varsL_le ns (fun x hx => by have := h3 x hx; unfold U64; omega)
        rw [ens] at h4 ⊢
        simp only [List.length_cons, List.length_nil] at h4
        omega)
      have HE : Hid (curB a b = ([2] ++ varsL ns) ++ [if b.hid then 1 else 0]) := Lib.hid (by
        rw [HCU.out, if_pos rfl, ens]
        simp [varsL])
      have HRLW : Hid (∀ W : World, Rd (W.alloc (.cells #[.int .i64 (X0 : Int), .int .i64 (Y0 : Int)] 3)) (some ⟨W.heap.size, 0, none⟩) (ns.map nv)) := Lib.hid (fun W => rd_nums W ns _ _ (by rw [ens]; rfl))
      clear ens
      cases hh : b.hid
      · have HE2 : Hid (([2] ++ varsL ns) ++ [0] = curB a b) := Lib.hid (by rw [HE.out, hh]; rfl)
        have HIDW : Hid (∀ W, Below B0 W0 W → W.cell? ⟨q, 5, none⟩ = some (.bool false)) := Lib.hid (fun W hW => by rw [← hh]; exact (HQW.out W hW).nine.2.2.2.2.2.1)
        clear hh
        go_wp2_with (first
          | (at_builtin; (refine wpList_appB1 _ rfl (.tmp 37) (.tmp 38) rfl B0 (.slice (some ⟨B0, 0, none⟩) 0 0) [] rfl HO1.out (.int .u8 2) rfl 2 bv_two (by simp) HS1.out ?_); intro v2 w2 h2 hg2 _; have hk2 : Below B0 W1 w2 := ((Below.refl _ _).alloc HS1.out _).grown hg2 (Nat.le_trans HS1.out (by simp)) (fun k e => (Own.lt HO1.out k e).1); have HO2 : Hid (OwnB w2 B0 v2 [2]) := Lib.hid h2; have HK2 := Lib.hid (HK1.out.trans hk2); have x3 : w2.cell? ⟨q, 3, none⟩ = some (.int .i64 (X0 : Int)) := (by { rw [← EX0.out]; exact (HQW.out w2 HK2.out).nine.2.2.2.1 }); have x4 : w2.cell? ⟨q, 4, none⟩ = some (.int .i64 (Y0 : Int)) := (by { rw [← EY0.out]; exact (HQW.out w2 HK2.out).nine.2.2.2.2.1 }); have HS2 := Lib.hid (HSW.out w2 HK2.out); clear h2 hg2 hk2)
          | (go_at_call 24; (refine (vars17_c (some ⟨w2.heap.size, 0, none⟩) 2 2 ns _ HNS.out.1 (HRLW.out w2) (by decide) HNS.out.2.1).mono ?_); rintro _ w3 ⟨v3, rfl, ho3, hb3⟩; obtain ⟨A3, c3, rfl, _, _, r3, _⟩ := OwnB.form ho3; have R3 := Lib.hid r3; have ha3 : Below B0 W0 (w2.alloc (.cells #[.int .i64 (X0 : Int), .int .i64 (Y0 : Int)] 3)) := HK2.out.alloc HS2.out _; have HK3 := Lib.hid (ha3.trans (hb3.mono (HSW.out _ ha3))); have HS3 := Lib.hid (HSW.out w3 HK3.out); have HO3 := Lib.hid ((HO2.out.below ((Below.refl _ _).alloc (Nat.le_refl _) _)).below hb3); clear ho3 hb3 r3 ha3)
          | (at_builtin; refine wpList_appB _ rfl (.tmp 40) (.tmp 46) rfl B0 v2 [2] rfl HO3.out A3 _ c3 (varsL ns) rfl rfl R3.out (by have := HNS.out.2.2; simp only [List.length_cons, List.length_nil]; omega) HS3.out ?_; intro v4 w4 h4 hg4 _; have HO4 := Lib.hid h4; have HK4 := Lib.hid (HK3.out.grown hg4 HS3.out (fun q e => (Own.lt HO3.out q e).1)); have HS4 := Lib.hid (HSW.out w4 HK4.out); have x5 : w4.cell? ⟨q, 5, none⟩ = some (.bool false) := (HIDW.out w4 HK4.out); clear h4 hg4)
          | (at_builtin; (refine wpList_appB1 _ rfl (.tmp 53) (.tmp 54) rfl B0 v4 _ rfl HO4.out (.int .u8 0) rfl 0 bv_zero (by have := HNS.out.2.2; simp only [List.length_append, List.length_cons, List.length_nil]; omega) HS4.out ?_); intro v5 w5 h5 hg5 _; have hk5 : Below B0 w4 w5 := ((Below.refl _ _).alloc HS4.out _).grown hg5 (Nat.le_trans HS4.out (by simp)) (fun k e => (Own.lt HO4.out k e).1); have HO5 := Lib.hid h5; have HK5 := Lib.hid (HK4.out.trans hk5); clear h5 hg5 hk5))
        go_meet
        exact ⟨Lib.hid (by rw [← HE2.out]; exact HO5.out), HK5⟩
      · have HE2 : Hid (([2] ++ varsL ns) ++ [1] = curB a b) := Lib.hid (by rw [HE.out, hh]; rfl)
        have HIDW : Hid (∀ W, Below B0 W0 W → W.cell? ⟨q, 5, none⟩ = some (.bool true)) := Lib.hid (fun W hW => by rw [← hh]; exact (HQW.out W hW).nine.2.2.2.2.2.1)
        clear hh
        go_wp2_with (first
          | (at_builtin; (refine wpList_appB1 _ rfl (.tmp 37) (.tmp 38) rfl B0 (.slice (some ⟨B0, 0, none⟩) 0 0) [] rfl HO1.out (.int .u8 2) rfl 2 bv_two (by simp) HS1.out ?_); intro v2 w2 h2 hg2 _; have hk2 : Below B0 W1 w2 := ((Below.refl _ _).alloc HS1.out _).grown hg2 (Nat.le_trans HS1.out (by simp)) (fun k e => (Own.lt HO1.out k e).1); have HO2 : Hid (OwnB w2 B0 v2 [2]) := Lib.hid h2; have HK2 := Lib.hid (HK1.out.trans hk2); have x3 : w2.cell? ⟨q, 3, none⟩ = some (.int .i64 (X0 : Int)) := (by { rw [← EX0.out]; exact (HQW.out w2 HK2.out).nine.2.2.2.1 }); have x4 : w2.cell? ⟨q, 4, none⟩ = some (.int .i64 (Y0 : Int)) := (by { rw [← EY0.out]; exact (HQW.out w2 HK2.out).nine.2.2.2.2.1 }); have HS2 := Lib.hid (HSW.out w2 HK2.out); clear h2 hg2 hk2)
          | (go_at_call 24; (refine (vars17_c (some ⟨w2.heap.size, 0, none⟩) 2 2 ns _ HNS.out.1 (HRLW.out w2) (by decide) HNS.out.2.1).mono ?_); rintro _ w3 ⟨v3, rfl, ho3, hb3⟩; obtain ⟨A3, c3, rfl, _, _, r3, _⟩ := OwnB.form ho3; have R3 := Lib.hid r3; have ha3 : Below B0 W0 (w2.alloc (.cells #[.int .i64 (X0 : Int), .int .i64 (Y0 : Int)] 3)) := HK2.out.alloc HS2.out _; have HK3 := Lib.hid (ha3.trans (hb3.mono (HSW.out _ ha3))); have HS3 := Lib.hid (HSW.out w3 HK3.out); have HO3 := Lib.hid ((HO2.out.below ((Below.refl _ _).alloc (Nat.le_refl _) _)).below hb3); clear ho3 hb3 r3 ha3)
          | (at_builtin; refine wpList_appB _ rfl (.tmp 40) (.tmp 46) rfl B0 v2 [2] rfl HO3.out A3 _ c3 (varsL ns) rfl rfl R3.out (by have := HNS.out.2.2; simp only [List.length_cons, List.length_nil]; omega) HS3.out ?_; intro v4 w4 h4 hg4 _; have HO4 := Lib.hid h4; have HK4 := Lib.hid (HK3.out.grown hg4 HS3.out (fun q e => (Own.lt HO3.out q e).1)); have HS4 := Lib.hid (HSW.out w4 HK4.out); have x5 : w4.cell? ⟨q, 5, none⟩ = some (.bool true) := (HIDW.out w4 HK4.out); clear h4 hg4)
          | (at_builtin; (refine wpList_appB1 _ rfl (.tmp 50) (.tmp 51) rfl B0 v4 _ rfl HO4.out (.int .u8 1) rfl 1 bv_one1 (by have := HNS.out.2.2; simp only [List.length_append, List.length_cons, List.length_nil]; omega) HS4.out ?_); intro v5 w5 h5 hg5 _; have hk5 : Below B0 w4 w5 := ((Below.refl _ _).alloc HS4.out _).grown hg5 (Nat.le_trans HS4.out (by simp)) (fun k e => (Own.lt HO4.out k e).1); have HO5 := Lib.hid h5; have HK5 := Lib.hid (HK4.out.trans hk5); clear h5 hg5 hk5))
        go_meet
        exact ⟨Lib.hid (by rw [← HE2.out]; exact HO5.out), HK5⟩
  case rest =>
  obtain ⟨W5, eW_⟩ : ∃ x, x = wc := ⟨_, rfl⟩
  rw [← eW_] at hcut ⊢
  obtain ⟨HO5, HK5⟩ := hcut
  clear eW_
  obtain ⟨V5, eV_⟩ : ∃ V, V = u5 := ⟨_, rfl⟩
  rw [← eV_] at HO5 ⊢
  clear eV_
  obtain ⟨O5, eO_⟩ : ∃ O, O = curB a b := ⟨_, rfl⟩
  rw [← eO_] at HO5
  have EO5 := Lib.hid eO_
  have HS5 : Hid (B0 ≤ W5.heap.size) := Lib.hid (by rw [EB0.out]; exact HK5.out.size)
  have HL5 : Hid (O5.length ≤ 31) := Lib.hid (by rw [eO_]; exact HCL.out)
  clear eO_
  have HQ5 : Hid (ScB W5 q b (some ⟨g2, o2, none⟩) n1 c L m cm) := Lib.hid ((HK5.out.block q HB00.out.2.2).trans HQ0.out)
  have HP5 : Hid (ScB W5 p a (some ⟨g, o, none⟩) n1 c1 L1 m1 k1) := Lib.hid ((HK5.out.block p HB00.out.2.1).trans HP0.out)
  have x7 : W5.cell? ⟨q, 7, none⟩ = some (.string b.title) := HQ5.out.nine.2.2.2.2.2.2.2.1
  have y7 : W5.cell? ⟨p, 7, none⟩ = some (.string a.title) := HP5.out.nine.2.2.2.2.2.2.2.1
  have eTE := HTE.out
  go_upto_if 60 with (fail)
  clear y7 eTE x7
  go_cut [5] (fun s5 wx => Hid (OwnB wx B0 s5 (O5 ++ titB17 a b)) ∧ Hid (Below B0 W0 wx))
  case first => as_aux_lemma =>
    cases TE
    rotate_left
    · have HE : Hid (O5 ++ titB17 a b = O5) := Lib.hid (by rw [HTI.out, if_pos rfl, List.append_nil])
      go_wp2_with (fail)
      go_meet
      exact ⟨Lib.hid (by rw [HE.out]; exact HO5.out), HK5⟩
    · have HE : Hid ((O5 ++ [3]) ++ (varL b.title.size ++ strB b.title) = O5 ++ titB17 a b) := Lib.hid (by rw [HTI.out, if_neg (by decide), List.append_assoc]; rfl)
      have x7 : W5.cell? ⟨q, 7, none⟩ = some (.string b.title) := HQ5.out.nine.2.2.2.2.2.2.2.1
      obtain ⟨tb, etb⟩ : ∃ tb, tb = varL b.title.size ++ strB b.title := ⟨_, rfl⟩
      have HTB : Hid (tb.length ≤ 74) := Lib.hid (by have := HXY.out.2.2.2; have h := varL_len10 (n := b.title.size) (u64_small (by omega)); rw [etb, List.length_append, strB_len]; omega)
      rw [← etb] at HE
      have ETB := Lib.hid etb
      clear etb
      go_upto_region 10 with (first
        | (with_reducible refine wpList_convB _ rfl (.tmp 63) rfl b.title rfl (by have := HXY.out.2.2.2; omega) ?_; intro A6 c6 w6 hr6 _ _ hb6; have HR6 := Lib.hid hr6; have HB6 := Lib.hid hb6; clear hr6 hb6)
        | (go_at_call 40; (refine (refText_c A6 b.title.size c6 (strB b.title) w6 (strB_len _) HR6.out (by have := HXY.out.2.2.2; omega)).mono ?_); rintro _ w7 ⟨v7, rfl, ho7, hb7⟩; rw [if_pos (show b.title.size ≤ 4096 by have := HXY.out.2.2.2; omega), ← ETB.out] at ho7; rw [if_pos (show b.title.size ≤ 4096 by have := HXY.out.2.2.2; omega)]; obtain ⟨A7, c7, rfl, _, _, r7, f7⟩ := OwnB.form ho7; have R7 := Lib.hid r7; have F7 := Lib.hid f7; have HO7 := Lib.hid ((HO5.out.below HB6.out).below hb7); have HD7 : Hid (∀ k, V5.ownBlock = some k → k < w6.heap.size) := Lib.hid (fun k e => Nat.lt_of_lt_of_le (Own.lt HO5.out k e).2 HB6.out.size); have HK7 := Lib.hid (HK5.out.trans ((HB6.out.trans (hb7.mono HB6.out.size)).mono HS5.out)); have s7 : B0 ≤ w7.heap.size := (by rw [EB0.out]; exact HK7.out.size); clear ho7 hb7 r7 f7))
      clear x7
      go_wp2_with (first
        | (at_builtin; (refine wpList_appB1 _ rfl (.tmp 68) (.tmp 69) rfl B0 V5 O5 rfl HO7.out (.int .u8 3) rfl 3 bv_three (by have := HL5.out; omega) s7 ?_); intro v9 w9 h9 hg9 hv9; have ha9 : Below w7.heap.size w7 (w7.alloc (.cells #[.int .u8 3] 5)) := (Below.refl _ _).alloc (Nat.le_refl _) _; have hk9 : Below B0 w7 w9 := ((Below.refl _ _).alloc s7 _).grown hg9 (Nat.le_trans s7 (by simp)) (fun k e => (Own.lt HO7.out k e).1); have HO9 := Lib.hid h9; have HK9 := Lib.hid (HK7.out.trans hk9); have s9 : B0 ≤ w9.heap.size := (by rw [EB0.out]; exact HK9.out.size); have R9 : Hid (Rd w9 A7 (tb.map bv)) := Lib.hid (rd_apart (R7.out.below ha9) hg9 HD7.out (fun a e => (F7.out a e).1)); clear h9 hg9 hk9 ha9 hv9)
        | (at_builtin; (refine wpList_appB _ rfl (.tmp 71) (.tmp 72) rfl B0 v9 _ rfl HO9.out A7 _ c7 tb rfl rfl R9.out (by have := HL5.out; have := HTB.out; simp only [List.length_append, List.length_cons, List.length_nil]; omega) s9 ?_); intro v8 w8 h8 hg8 _; have HO8 := Lib.hid h8; have HK8 := Lib.hid (HK9.out.grown hg8 s9 (fun q e => (Own.lt HO9.out q e).1)); clear h8 hg8))
      go_meet
      exact ⟨Lib.hid (by rw [← HE.out]; exact HO8.out), HK8⟩
  case rest =>
  obtain ⟨W6, eW_⟩ : ∃ x, x = wc := ⟨_, rfl⟩
  rw [← eW_] at hcut ⊢
  obtain ⟨HO6, HK6⟩ := hcut
  clear eW_
  obtain ⟨V6, eV_⟩ : ∃ V, V = u5 := ⟨_, rfl⟩
  rw [← eV_] at HO6 ⊢
  clear eV_
  obtain ⟨O6, eO_⟩ : ∃ O, O = O5 ++ titB17 a b := ⟨_, rfl⟩
  rw [← eO_] at HO6
  have EO6 := Lib.hid eO_
  have HS6 : Hid (B0 ≤ W6.heap.size) := Lib.hid (by rw [EB0.out]; exact HK6.out.size)
  have HL6 : Hid (O6.length ≤ 120) := Lib.hid (by rw [eO_]; rw [List.length_append]; have := HL5.out; have := HTL.out; omega)
  clear eO_
  have HQ6 : Hid (ScB W6 q b (some ⟨g2, o2, none⟩) n1 c L m cm) := Lib.hid ((HK6.out.block q HB00.out.2.2).trans HQ0.out)
  have HP6 : Hid (ScB W6 p a (some ⟨g, o, none⟩) n1 c1 L1 m1 k1) := Lib.hid ((HK6.out.block p HB00.out.2.1).trans HP0.out)
  clear HO5 HK5 HP5 HQ5 HS5
  have x6 : W6.cell? ⟨q, 6, none⟩ = some (.int .u8 (M0 : Int)) := by rw [← EM0.out]; exact HQ6.out.nine.2.2.2.2.2.2.1
  have y6 : W6.cell? ⟨p, 6, none⟩ = some (.int .u8 a.mouse) := HP6.out.nine.2.2.2.2.2.2.1
  have e4 := E4.out
  rw [EM0.out] at e4
  go_upto_if 78 with (fail)
  clear y6 e4 x6
  go_cut [5] (fun s5 wx => Hid (OwnB wx B0 s5 (O6 ++ mouB a b)) ∧ Hid (Below B0 W0 wx))
  case first => as_aux_lemma =>
    cases d4
    · have HE : Hid (O6 ++ mouB a b = O6) := Lib.hid (by rw [HMU.out, if_neg (by decide), List.append_nil])
      go_wp2_with (fail)
      go_meet
      exact ⟨Lib.hid (by rw [HE.out]; exact HO6.out), HK6⟩
    · have HE : Hid (O6 ++ [4, lo M0] = O6 ++ mouB a b) := Lib.hid (by rw [HMU.out, if_pos rfl])
      have x6 : W6.cell? ⟨q, 6, none⟩ = some (.int .u8 (M0 : Int)) := by rw [← EM0.out]; exact HQ6.out.nine.2.2.2.2.2.2.1
      have HRL : Hid (Rd (W6.alloc (.cells #[.int .u8 4, .int .u8 (M0 : Int)] 5)) (some ⟨W6.heap.size, 0, none⟩) ([4, lo M0].map bv)) := Lib.hid (rd_lit W6 [4, lo M0] _ (by
        have h := HXY.out.2.2.1
        simp only [List.map_cons, List.map_nil]
        rw [← int_lo (x := (M0 : Int)) (n := M0) (by rw [Nat.mod_eq_of_lt (by omega)])]
        rfl) (by simp))
      have hka : Below W6.heap.size W6 (W6.alloc (.cells #[.int .u8 4, .int .u8 (M0 : Int)] 5)) := (Below.refl _ _).alloc (Nat.le_refl _) _
      have HKA := Lib.hid (HK6.out.trans (hka.mono HS6.out))
      have HKS := Lib.hid (HSW.out _ HKA.out)
      have HOA := Lib.hid (HO6.out.below hka)
      clear hka
      go_wp2_with (first
        | (at_builtin; refine wpList_appB _ rfl (.tmp 79) (.tmp 82) rfl B0 V6 O6 rfl HOA.out (some ⟨W6.heap.size, 0, none⟩) 2 2 [4, lo M0] rfl rfl HRL.out (by have := HL6.out; omega) HKS.out ?_; intro v8 w8 h8 hg8 _; have HO8 := Lib.hid h8; have HK8 := Lib.hid (HKA.out.grown hg8 HKS.out (fun q e => (Own.lt HOA.out q e).1)); clear h8 hg8))
      go_meet
      exact ⟨Lib.hid (by rw [← HE.out]; exact HO8.out), HK8⟩
  case rest =>
  obtain ⟨W7, eW_⟩ : ∃ x, x = wc := ⟨_, rfl⟩
  rw [← eW_] at hcut ⊢
  obtain ⟨HO7, HK7⟩ := hcut
  clear eW_
  obtain ⟨V7, eV_⟩ : ∃ V, V = u5 := ⟨_, rfl⟩
  rw [← eV_] at HO7 ⊢
  clear eV_
  obtain ⟨O7, eO_⟩ : ∃ O, O = O6 ++ mouB a b := ⟨_, rfl⟩
  rw [← eO_] at HO7
  have EO7 := Lib.hid eO_
  have HS7 : Hid (B0 ≤ W7.heap.size) := Lib.hid (by rw [EB0.out]; exact HK7.out.size)
  have HL7 : Hid (O7.length ≤ 140) := Lib.hid (by rw [eO_]; rw [List.length_append]; have := HL6.out; have := HML.out; omega)
  clear eO_
  have HQ7 : Hid (ScB W7 q b (some ⟨g2, o2, none⟩) n1 c L m cm) := Lib.hid ((HK7.out.block q HB00.out.2.2).trans HQ0.out)
  have HP7 : Hid (ScB W7 p a (some ⟨g, o, none⟩) n1 c1 L1 m1 k1) := Lib.hid ((HK7.out.block p HB00.out.2.1).trans HP0.out)
  clear HO6 HK6 HP6 HQ6 HS6
  obtain ⟨BN, eBN⟩ : ∃ BN, BN = W7.heap.size := ⟨_, rfl⟩
  have EBN := Lib.hid eBN
  have HBN : Hid (B0 ≤ BN) := Lib.hid (by rw [eBN]; exact HS7.out)
  go_upto_region 15 with (fail)
  generalize eW8 : World.alloc W7 _ = W8
  rw [← eBN]
  have HB8 : Hid (OwnN W8 BN (.slice (some ⟨BN, 0, none⟩) 0 0) (begA a.cells b.cells 0)) := Lib.hid (by rw [← eW8, eBN]; exact OwnN_nil W7)
  have HK8 : Hid (Below BN W7 W8) := Lib.hid (by rw [← eW8, eBN]; exact (Below.refl _ _).alloc (Nat.le_refl _) _)
  have x2 : W8.cell? ⟨q, 2, none⟩ = some (.slice (some ⟨g2, o2, none⟩) n1 c) := (HQW.out W8 (HK7.out.trans (HK8.out.mono HBN.out))).nine.2.2.1
  have hn1 : n1 ≤ 1920 := HN.out.1
  clear eW8 eBN HP7 HQ7
  go_wp2_with (fail)
  clear x2
  go_loopw [8, 88] (fun v i wr => ∃ k : Nat, k ≤ n1 ∧ i = .int .i64 k ∧ Hid (OwnN wr BN v (begA a.cells b.cells k)) ∧ Hid (Below BN W7 wr)) (fun _ i _ => n1 - (intOf i).toNat)
  case atStart => exact ⟨0, Nat.zero_le _, rfl, HB8, HK8⟩
  case round =>
    clear HB8 HK8
    obtain ⟨k, hk, rfl, HBG, HKR⟩ := hrel
    have HB_ : Hid (Below B0 W0 wr) := Lib.hid (HK7.out.trans (HKR.out.mono HBN.out))
    have HZ_ : Hid (B0 ≤ wr.heap.size ∧ BN ≤ wr.heap.size) := Lib.hid ⟨HSW.out wr HB_.out, by rw [EBN.out]; exact HKR.out.size⟩
    rcases Nat.lt_or_ge k n1 with hlt | hge
    · have hlt' : (k : Int) < (n1 : Int) := by omega
      obtain ⟨ya, eya⟩ : ∃ x, x = atC a.cells k := ⟨_, rfl⟩
      obtain ⟨yb, eyb⟩ : ∃ x, x = atC b.cells k := ⟨_, rfl⟩
      have HYA : Hid (∀ W, Below B0 W0 W → CellsAt W g (o + k * 6) ya) := Lib.hid (fun W hW => by rw [eya]; exact HCAW.out W hW k hlt)
      have HYB : Hid (∀ W, Below B0 W0 W → CellsAt W g2 (o2 + k * 6) yb) := Lib.hid (fun W hW => by rw [eyb]; exact HCBW.out W hW k hlt)
      obtain ⟨S, eS⟩ : ∃ S, (decide (0 < k) && (!cellEq (atC a.cells (k - 1)) (atC b.cells (k - 1)) && penEq (atC b.cells (k - 1)) yb)) = S := ⟨_, rfl⟩
      obtain ⟨E2, eE2⟩ : ∃ E2, cellEq ya yb = E2 := ⟨_, rfl⟩
      have HBF : Hid (begF a.cells b.cells k = (!E2 && !S)) := Lib.hid (by unfold begF; rw [← eya, ← eyb, eE2, eS])
      have ES := Lib.hid eS
      have EE2 := Lib.hid eE2
      clear eya eyb eS eE2
      go_upto_region 18 with (fail)
      go_cut [10] from 89 to 143 (fun s10 wx => s10 = .bool S ∧ Hid (Below wr.heap.size wr wx))
      case first => as_aux_lemma =>
        rcases Nat.eq_zero_or_pos k with hk0 | hkp
        · have HSF : Hid (false = S) := Lib.hid (by rw [← ES.out, hk0]; rfl)
          have hk0i : decide ((0 : Int) < (k : Int)) = false := decide_eq_false (by omega)
          have hk0n : decide (0 < k) = false := decide_eq_false (by omega)
          clear hk0
          refine wp_region_rw 255 [Rl.eq (.int .i64 (k : Int)), Rl.eq (.bool false), Rl.eq (.bool false), Rl.eq (undef), Rl.eq (undef), Rl.eq (undef), Rl.eq (undef), Rl.eq (undef), Rl.eq (undef), Rl.eq (undef), Rl.eq (undef), Rl.eq (undef), Rl.eq (undef), Rl.eq (undef), Rl.eq (undef), Rl.eq (undef), Rl.eq (.bool false), Rl.eq (.bool false), Rl.eq (undef), Rl.eq (undef), Rl.eq (undef), Rl.eq (undef), Rl.eq (undef), Rl.eq (undef), Rl.eq (undef), Rl.eq (undef), Rl.eq (undef), Rl.eq (undef), Rl.eq (undef), Rl.eq (undef), Rl.eq (undef), Rl.eq (undef), Rl.eq (.bool false), Rl.eq (.bool false)] [91, 92, 93, 94, 95, 96, 97, 98, 99, 100, 101, 102, 103, 104, 105, 106, 107, 108, 109, 110, 111, 112, 113, 114, 115, 116, 117, 118, 119, 120, 121, 122, 123, 10] (by kernel_rfl) rfl (by kernel_rfl) (by kernel_rfl) ?_ ?_
          · repeat (first | exact AllFrom.nil_ | (refine AllFrom.cons_ (by rfl) ?_ ?_; rotate_left))
            · intro f w' gG hF hD
              have h9 : f 9 = .int .i64 (k : Int) := hF 9 (by kernel_rfl)
              rw [if_pos (wanted_none rfl)]
              clear hF hD
              exact gives_val (by simp only [execOp, evF, h9]; first | rfl | go_simp) ⟨Gr.refl _, rfl⟩
            · intro f w' gG hF hD
              have h91 : f 91 = .int .i64 (k : Int) := hD 0 91 (by kernel_rfl) rfl
              rw [if_pos (wanted_none rfl)]
              clear hF hD
              exact gives_val (by simp only [execOp, evF, h91]; first | rfl | go_simp) ⟨Gr.refl _, rfl⟩
            · intro f w' gG hF hD
              have h92 : f 92 = .bool false := hD 1 92 (by kernel_rfl) rfl
              rw [if_pos (wanted_none rfl)]
              clear hF hD
              exact gives_val (by simp only [execOp, evF, h92]; first | rfl | go_simp) ⟨Gr.refl _, rfl⟩
            · intro f w' gG hF hD
              rw [if_neg (unwanted_some (d := 93) (b := true) rfl rfl (show f 93 = .bool false from hD 2 93 (by kernel_rfl) rfl))]
              exact rfl
            · intro f w' gG hF hD
              rw [if_neg (unwanted_some (d := 93) (b := true) rfl rfl (show f 93 = .bool false from hD 2 93 (by kernel_rfl) rfl))]
              exact rfl
            · intro f w' gG hF hD
              rw [if_neg (unwanted_some (d := 93) (b := true) rfl rfl (show f 93 = .bool false from hD 2 93 (by kernel_rfl) rfl))]
              exact rfl
            · intro f w' gG hF hD
              rw [if_neg (unwanted_some (d := 93) (b := true) rfl rfl (show f 93 = .bool false from hD 2 93 (by kernel_rfl) rfl))]
              exact rfl
            · intro f w' gG hF hD
              rw [if_neg (unwanted_some (d := 93) (b := true) rfl rfl (show f 93 = .bool false from hD 2 93 (by kernel_rfl) rfl))]
              exact rfl
            · intro f w' gG hF hD
              rw [if_neg (unwanted_some (d := 93) (b := true) rfl rfl (show f 93 = .bool false from hD 2 93 (by kernel_rfl) rfl))]
              exact rfl
            · intro f w' gG hF hD
              rw [if_neg (unwanted_some (d := 93) (b := true) rfl rfl (show f 93 = .bool false from hD 2 93 (by kernel_rfl) rfl))]
              exact rfl
            · intro f w' gG hF hD
              rw [if_neg (unwanted_some (d := 93) (b := true) rfl rfl (show f 93 = .bool false from hD 2 93 (by kernel_rfl) rfl))]
              exact rfl
            · intro f w' gG hF hD
              rw [if_neg (unwanted_some (d := 93) (b := true) rfl rfl (show f 93 = .bool false from hD 2 93 (by kernel_rfl) rfl))]
              exact rfl
            · intro f w' gG hF hD
              rw [if_neg (unwanted_some (d := 93) (b := true) rfl rfl (show f 93 = .bool false from hD 2 93 (by kernel_rfl) rfl))]
              exact rfl
            · intro f w' gG hF hD
              rw [if_neg (unwanted_some (d := 93) (b := true) rfl rfl (show f 93 = .bool false from hD 2 93 (by kernel_rfl) rfl))]
              exact rfl
            · intro f w' gG hF hD
              rw [if_neg (unwanted_some (d := 93) (b := true) rfl rfl (show f 93 = .bool false from hD 2 93 (by kernel_rfl) rfl))]
              exact rfl
            · intro f w' gG hF hD
              rw [if_neg (unwanted_some (d := 93) (b := true) rfl rfl (show f 93 = .bool false from hD 2 93 (by kernel_rfl) rfl))]
              exact rfl
            · intro f w' gG hF hD
              have h93 : f 93 = .bool false := hD 2 93 (by kernel_rfl) rfl
              have h106 : f 106 = undef := hD 15 106 (by kernel_rfl) rfl
              rw [if_pos (wanted_none rfl)]
              clear hF hD
              exact gives_val (by simp only [execOp, evF, h93, h106]; first | rfl | go_simp) ⟨Gr.refl _, rfl⟩
            · intro f w' gG hF hD
              have h107 : f 107 = .bool false := hD 16 107 (by kernel_rfl) rfl
              rw [if_pos (wanted_none rfl)]
              clear hF hD
              exact gives_val (by simp only [execOp, evF, h107]; first | rfl | go_simp) ⟨Gr.refl _, rfl⟩
            · intro f w' gG hF hD
              rw [if_neg (unwanted_some (d := 108) (b := true) rfl rfl (show f 108 = .bool false from hD 17 108 (by kernel_rfl) rfl))]
              exact rfl
            · intro f w' gG hF hD
              rw [if_neg (unwanted_some (d := 108) (b := true) rfl rfl (show f 108 = .bool false from hD 17 108 (by kernel_rfl) rfl))]
              exact rfl
            · intro f w' gG hF hD
              rw [if_neg (unwanted_some (d := 108) (b := true) rfl rfl (show f 108 = .bool false from hD 17 108 (by kernel_rfl) rfl))]
              exact rfl
            · intro f w' gG hF hD
              rw [if_neg (unwanted_some (d := 108) (b := true) rfl rfl (show f 108 = .bool false from hD 17 108 (by kernel_rfl) rfl))]
              exact rfl
            · intro f w' gG hF hD
              rw [if_neg (unwanted_some (d := 108) (b := true) rfl rfl (show f 108 = .bool false from hD 17 108 (by kernel_rfl) rfl))]
              exact rfl
            · intro f w' gG hF hD
              rw [if_neg (unwanted_some (d := 108) (b := true) rfl rfl (show f 108 = .bool false from hD 17 108 (by kernel_rfl) rfl))]
              exact rfl
            · intro f w' gG hF hD
              rw [if_neg (unwanted_some (d := 108) (b := true) rfl rfl (show f 108 = .bool false from hD 17 108 (by kernel_rfl) rfl))]
              exact rfl
            · intro f w' gG hF hD
              rw [if_neg (unwanted_some (d := 108) (b := true) rfl rfl (show f 108 = .bool false from hD 17 108 (by kernel_rfl) rfl))]
              exact rfl
            · intro f w' gG hF hD
              rw [if_neg (unwanted_some (d := 108) (b := true) rfl rfl (show f 108 = .bool false from hD 17 108 (by kernel_rfl) rfl))]
              exact rfl
            · intro f w' gG hF hD
              rw [if_neg (unwanted_some (d := 108) (b := true) rfl rfl (show f 108 = .bool false from hD 17 108 (by kernel_rfl) rfl))]
              exact rfl
            · intro f w' gG hF hD
              rw [if_neg (unwanted_some (d := 108) (b := true) rfl rfl (show f 108 = .bool false from hD 17 108 (by kernel_rfl) rfl))]
              exact rfl
            · intro f w' gG hF hD
              rw [if_neg (unwanted_some (d := 108) (b := true) rfl rfl (show f 108 = .bool false from hD 17 108 (by kernel_rfl) rfl))]
              exact rfl
            · intro f w' gG hF hD
              rw [if_neg (unwanted_some (d := 108) (b := true) rfl rfl (show f 108 = .bool false from hD 17 108 (by kernel_rfl) rfl))]
              exact rfl
            · intro f w' gG hF hD
              rw [if_neg (unwanted_some (d := 108) (b := true) rfl rfl (show f 108 = .bool false from hD 17 108 (by kernel_rfl) rfl))]
              exact rfl
            · intro f w' gG hF hD
              have h108 : f 108 = .bool false := hD 17 108 (by kernel_rfl) rfl
              have h122 : f 122 = undef := hD 31 122 (by kernel_rfl) rfl
              rw [if_pos (wanted_none rfl)]
              clear hF hD
              exact gives_val (by simp only [execOp, evF, h108, h122]; first | rfl | go_simp) ⟨Gr.refl _, rfl⟩
            · intro f w' gG hF hD
              have h123 : f 123 = .bool false := hD 32 123 (by kernel_rfl) rfl
              rw [if_pos (wanted_none rfl)]
              clear hF hD
              exact gives_val (by simp only [execOp, evF, h123]; first | rfl | go_simp) ⟨Gr.refl _, rfl⟩
          · intro f w' gG hD
            have h10 : f 10 = .bool false := hD 33 10 rfl
            simp only [putAll, List.setIfInBounds_toArray, List.set_cons_zero, List.set_cons_succ, h10]
            clear hD
            have HFIN : Hid (Below wr.heap.size wr w') := Lib.hid ((below_drewN (Below.refl wr.heap.size wr) 1).trans gG)
            clear gG
            go_wp2_with (fail)
            go_meet
            exact ⟨by rw [← HSF.out] <;> rfl, HFIN⟩
        · obtain ⟨m, em⟩ : ∃ m, k = m + 1 := ⟨k - 1, by omega⟩
          have hkm : (k : Int) - 1 = (m : Int) := by omega
          have hmn : m < n1 := by omega
          have hwm : IntKind.i64.wrap (m : Int) = (m : Int) := IntWalk.i64_in _ ⟨by omega, by omega⟩
          have hk0i : decide ((0 : Int) < (k : Int)) = true := decide_eq_true (by omega)
          have hk0n : decide (0 < k) = true := decide_eq_true hkp
          obtain ⟨xa, exa⟩ : ∃ x, x = atC a.cells m := ⟨_, rfl⟩
          obtain ⟨xb, exb⟩ : ∃ x, x = atC b.cells m := ⟨_, rfl⟩
          have HXA : Hid (∀ W, Below B0 W0 W → CellsAt W g (o + m * 6) xa) := Lib.hid (fun W hW => by rw [exa]; exact HCAW.out W hW m hmn)
          have HXB : Hid (∀ W, Below B0 W0 W → CellsAt W g2 (o2 + m * 6) xb) := Lib.hid (fun W hW => by rw [exb]; exact HCBW.out W hW m hmn)
          obtain ⟨E1, eE1⟩ : ∃ E1, cellEq xa xb = E1 := ⟨_, rfl⟩
          obtain ⟨Q1, eQ1⟩ : ∃ Q1, penEq xb yb = Q1 := ⟨_, rfl⟩
          have HSF : Hid ((!E1 && Q1) = S) := Lib.hid (by rw [← ES.out, hk0n, em, Nat.add_sub_cancel, ← exa, ← exb, eE1, eQ1]; rfl)
          have EE1 := Lib.hid eE1
          have EQ1 := Lib.hid eQ1
          clear em exa exb eE1 eQ1
          cases E1
          · cases Q1
            · skip
              refine wp_region_rw 255 [Rl.eq (.int .i64 (k : Int)), Rl.eq (.bool true), Rl.eq (.bool true), Rl.eq (.pointer (some ⟨p, 2, none⟩)), Rl.eq (.slice (some ⟨g, o, none⟩) n1 c1), Rl.eq (.int .i64 (k : Int)), Rl.eq (.int .i64 (m : Int)), Rl.eq (.pointer (some ⟨g, o + m * 6, none⟩)), Rl.eq (.agg #[.int .i32 xa.r, .int .u8 xa.w, .int .u32 xa.fg, .int .u32 xa.bg, .int .u8 xa.at_, .int .u16 xa.ln]), Rl.eq (.pointer (some ⟨q, 2, none⟩)), Rl.eq (.slice (some ⟨g2, o2, none⟩) n1 c), Rl.eq (.int .i64 (k : Int)), Rl.eq (.int .i64 (m : Int)), Rl.eq (.pointer (some ⟨g2, o2 + m * 6, none⟩)), Rl.eq (.agg #[.int .i32 xb.r, .int .u8 xb.w, .int .u32 xb.fg, .int .u32 xb.bg, .int .u8 xb.at_, .int .u16 xb.ln]), Rl.eq (.bool true), Rl.eq (.bool true), Rl.eq (.bool true), Rl.eq (.pointer (some ⟨q, 2, none⟩)), Rl.eq (.slice (some ⟨g2, o2, none⟩) n1 c), Rl.eq (.int .i64 (k : Int)), Rl.eq (.int .i64 (m : Int)), Rl.eq (.pointer (some ⟨g2, o2 + m * 6, none⟩)), Rl.eq (.pointer (some ⟨g2, o2 + m * 6 + 2, none⟩)), Rl.eq (.agg #[.int .u32 xb.fg, .int .u32 xb.bg, .int .u8 xb.at_, .int .u16 xb.ln]), Rl.eq (.pointer (some ⟨q, 2, none⟩)), Rl.eq (.slice (some ⟨g2, o2, none⟩) n1 c), Rl.eq (.int .i64 (k : Int)), Rl.eq (.pointer (some ⟨g2, o2 + k * 6, none⟩)), Rl.eq (.pointer (some ⟨g2, o2 + k * 6 + 2, none⟩)), Rl.eq (.agg #[.int .u32 yb.fg, .int .u32 yb.bg, .int .u8 yb.at_, .int .u16 yb.ln]), Rl.eq (.bool false), Rl.eq (.bool false), Rl.eq (.bool false)] [91, 92, 93, 94, 95, 96, 97, 98, 99, 100, 101, 102, 103, 104, 105, 106, 107, 108, 109, 110, 111, 112, 113, 114, 115, 116, 117, 118, 119, 120, 121, 122, 123, 10] (by kernel_rfl) rfl (by kernel_rfl) (by kernel_rfl) ?_ ?_
              · repeat (first | exact AllFrom.nil_ | (refine AllFrom.cons_ (by rfl) ?_ ?_; rotate_left))
                · intro f w' gG hF hD
                  have h9 : f 9 = .int .i64 (k : Int) := hF 9 (by kernel_rfl)
                  rw [if_pos (wanted_none rfl)]
                  clear hF hD
                  exact gives_val (by simp only [execOp, evF, h9]; first | rfl | go_simp) ⟨Gr.refl _, rfl⟩
                · intro f w' gG hF hD
                  have h91 : f 91 = .int .i64 (k : Int) := hD 0 91 (by kernel_rfl) rfl
                  rw [if_pos (wanted_none rfl)]
                  clear hF hD
                  exact gives_val (by simp only [execOp, evF, h91]; first | rfl | go_simp) ⟨Gr.refl _, rfl⟩
                · intro f w' gG hF hD
                  have h92 : f 92 = .bool true := hD 1 92 (by kernel_rfl) rfl
                  rw [if_pos (wanted_none rfl)]
                  clear hF hD
                  exact gives_val (by simp only [execOp, evF, h92]; first | rfl | go_simp) ⟨Gr.refl _, rfl⟩
                · intro f w' gG hF hD
                  have h2 : f 2 = .pointer (some ⟨p, 0, none⟩) := hF 2 (by kernel_rfl)
                  rw [if_pos (wanted_some (d := 93) rfl rfl (hD 2 93 (by kernel_rfl) rfl))]
                  clear hF hD
                  exact gives_val (by simp only [execOp, evF, h2]; first | rfl | go_simp) ⟨Gr.refl _, rfl⟩
                · intro f w' gG hF hD
                  have h94 : f 94 = .pointer (some ⟨p, 2, none⟩) := hD 3 94 (by kernel_rfl) rfl
                  rw [if_pos (wanted_some (d := 93) rfl rfl (hD 2 93 (by kernel_rfl) rfl))]
                  clear hF hD
                  have kb : Below B0 W0 w' := HB_.out.trans (((below_drewN (Below.refl wr.heap.size wr) 1).trans gG).mono HZ_.out.1)
                  have cl := (HPW.out w' kb).nine.2.2.1
                  exact gives_val (by simp only [execOp, evF, h94]; go_simp) ⟨Gr.refl _, rfl⟩
                · intro f w' gG hF hD
                  have h9 : f 9 = .int .i64 (k : Int) := hF 9 (by kernel_rfl)
                  rw [if_pos (wanted_some (d := 93) rfl rfl (hD 2 93 (by kernel_rfl) rfl))]
                  clear hF hD
                  exact gives_val (by simp only [execOp, evF, h9]; first | rfl | go_simp) ⟨Gr.refl _, rfl⟩
                · intro f w' gG hF hD
                  have h96 : f 96 = .int .i64 (k : Int) := hD 5 96 (by kernel_rfl) rfl
                  rw [if_pos (wanted_some (d := 93) rfl rfl (hD 2 93 (by kernel_rfl) rfl))]
                  clear hF hD
                  exact gives_val (by simp only [execOp, evF, h96]; first | rfl | go_simp) ⟨Gr.refl _, rfl⟩
                · intro f w' gG hF hD
                  have h95 : f 95 = .slice (some ⟨g, o, none⟩) n1 c1 := hD 4 95 (by kernel_rfl) rfl
                  have h97 : f 97 = .int .i64 (m : Int) := hD 6 97 (by kernel_rfl) rfl
                  rw [if_pos (wanted_some (d := 93) rfl rfl (hD 2 93 (by kernel_rfl) rfl))]
                  clear hF hD
                  exact gives_val (by simp only [execOp, evF, h95, h97]; first | rfl | go_simp) ⟨Gr.refl _, rfl⟩
                · intro f w' gG hF hD
                  have h98 : f 98 = .pointer (some ⟨g, o + m * 6, none⟩) := hD 7 98 (by kernel_rfl) rfl
                  rw [if_pos (wanted_some (d := 93) rfl rfl (hD 2 93 (by kernel_rfl) rfl))]
                  clear hF hD
                  have kb : Below B0 W0 w' := HB_.out.trans (((below_drewN (Below.refl wr.heap.size wr) 1).trans gG).mono HZ_.out.1)
                  obtain ⟨z0, z1, z2, z3, z4, z5⟩ := HXA.out w' kb
                  exact gives_val (by simp only [execOp, evF, h98]; go_simp) ⟨Gr.refl _, rfl⟩
                · intro f w' gG hF hD
                  have h3 : f 3 = .pointer (some ⟨q, 0, none⟩) := hF 3 (by kernel_rfl)
                  rw [if_pos (wanted_some (d := 93) rfl rfl (hD 2 93 (by kernel_rfl) rfl))]
                  clear hF hD
                  exact gives_val (by simp only [execOp, evF, h3]; first | rfl | go_simp) ⟨Gr.refl _, rfl⟩
                · intro f w' gG hF hD
                  have h100 : f 100 = .pointer (some ⟨q, 2, none⟩) := hD 9 100 (by kernel_rfl) rfl
                  rw [if_pos (wanted_some (d := 93) rfl rfl (hD 2 93 (by kernel_rfl) rfl))]
                  clear hF hD
                  have kb : Below B0 W0 w' := HB_.out.trans (((below_drewN (Below.refl wr.heap.size wr) 1).trans gG).mono HZ_.out.1)
                  have cl := (HQW.out w' kb).nine.2.2.1
                  exact gives_val (by simp only [execOp, evF, h100]; go_simp) ⟨Gr.refl _, rfl⟩
                · intro f w' gG hF hD
                  have h9 : f 9 = .int .i64 (k : Int) := hF 9 (by kernel_rfl)
                  rw [if_pos (wanted_some (d := 93) rfl rfl (hD 2 93 (by kernel_rfl) rfl))]
                  clear hF hD
                  exact gives_val (by simp only [execOp, evF, h9]; first | rfl | go_simp) ⟨Gr.refl _, rfl⟩
                · intro f w' gG hF hD
                  have h102 : f 102 = .int .i64 (k : Int) := hD 11 102 (by kernel_rfl) rfl
                  rw [if_pos (wanted_some (d := 93) rfl rfl (hD 2 93 (by kernel_rfl) rfl))]
                  clear hF hD
                  exact gives_val (by simp only [execOp, evF, h102]; first | rfl | go_simp) ⟨Gr.refl _, rfl⟩
                · intro f w' gG hF hD
                  have h101 : f 101 = .slice (some ⟨g2, o2, none⟩) n1 c := hD 10 101 (by kernel_rfl) rfl
                  have h103 : f 103 = .int .i64 (m : Int) := hD 12 103 (by kernel_rfl) rfl
                  rw [if_pos (wanted_some (d := 93) rfl rfl (hD 2 93 (by kernel_rfl) rfl))]
                  clear hF hD
                  exact gives_val (by simp only [execOp, evF, h101, h103]; first | rfl | go_simp) ⟨Gr.refl _, rfl⟩
                · intro f w' gG hF hD
                  have h104 : f 104 = .pointer (some ⟨g2, o2 + m * 6, none⟩) := hD 13 104 (by kernel_rfl) rfl
                  rw [if_pos (wanted_some (d := 93) rfl rfl (hD 2 93 (by kernel_rfl) rfl))]
                  clear hF hD
                  have kb : Below B0 W0 w' := HB_.out.trans (((below_drewN (Below.refl wr.heap.size wr) 1).trans gG).mono HZ_.out.1)
                  obtain ⟨z0, z1, z2, z3, z4, z5⟩ := HXB.out w' kb
                  exact gives_val (by simp only [execOp, evF, h104]; go_simp) ⟨Gr.refl _, rfl⟩
                · intro f w' gG hF hD
                  have h99 : f 99 = .agg #[.int .i32 xa.r, .int .u8 xa.w, .int .u32 xa.fg, .int .u32 xa.bg, .int .u8 xa.at_, .int .u16 xa.ln] := hD 8 99 (by kernel_rfl) rfl
                  have h105 : f 105 = .agg #[.int .i32 xb.r, .int .u8 xb.w, .int .u32 xb.fg, .int .u32 xb.bg, .int .u8 xb.at_, .int .u16 xb.ln] := hD 14 105 (by kernel_rfl) rfl
                  rw [if_pos (wanted_some (d := 93) rfl rfl (hD 2 93 (by kernel_rfl) rfl))]
                  clear hF hD
                  have hpe := run_cellNe xa xb
                  unfold CeD.val at hpe
                  exact gives_val (by simp only [execOp, evF, h99, h105, hpe, EE1.out]; go_simp; try exact EE1.out) ⟨Gr.refl _, rfl⟩
                · intro f w' gG hF hD
                  have h93 : f 93 = .bool true := hD 2 93 (by kernel_rfl) rfl
                  have h106 : f 106 = .bool true := hD 15 106 (by kernel_rfl) rfl
                  rw [if_pos (wanted_none rfl)]
                  clear hF hD
                  exact gives_val (by simp only [execOp, evF, h93, h106]; first | rfl | go_simp) ⟨Gr.refl _, rfl⟩
                · intro f w' gG hF hD
                  have h107 : f 107 = .bool true := hD 16 107 (by kernel_rfl) rfl
                  rw [if_pos (wanted_none rfl)]
                  clear hF hD
                  exact gives_val (by simp only [execOp, evF, h107]; first | rfl | go_simp) ⟨Gr.refl _, rfl⟩
                · intro f w' gG hF hD
                  have h3 : f 3 = .pointer (some ⟨q, 0, none⟩) := hF 3 (by kernel_rfl)
                  rw [if_pos (wanted_some (d := 108) rfl rfl (hD 17 108 (by kernel_rfl) rfl))]
                  clear hF hD
                  exact gives_val (by simp only [execOp, evF, h3]; first | rfl | go_simp) ⟨Gr.refl _, rfl⟩
                · intro f w' gG hF hD
                  have h109 : f 109 = .pointer (some ⟨q, 2, none⟩) := hD 18 109 (by kernel_rfl) rfl
                  rw [if_pos (wanted_some (d := 108) rfl rfl (hD 17 108 (by kernel_rfl) rfl))]
                  clear hF hD
                  have kb : Below B0 W0 w' := HB_.out.trans (((below_drewN (Below.refl wr.heap.size wr) 1).trans gG).mono HZ_.out.1)
                  have cl := (HQW.out w' kb).nine.2.2.1
                  exact gives_val (by simp only [execOp, evF, h109]; go_simp) ⟨Gr.refl _, rfl⟩
                · intro f w' gG hF hD
                  have h9 : f 9 = .int .i64 (k : Int) := hF 9 (by kernel_rfl)
                  rw [if_pos (wanted_some (d := 108) rfl rfl (hD 17 108 (by kernel_rfl) rfl))]
                  clear hF hD
                  exact gives_val (by simp only [execOp, evF, h9]; first | rfl | go_simp) ⟨Gr.refl _, rfl⟩
                · intro f w' gG hF hD
                  have h111 : f 111 = .int .i64 (k : Int) := hD 20 111 (by kernel_rfl) rfl
                  rw [if_pos (wanted_some (d := 108) rfl rfl (hD 17 108 (by kernel_rfl) rfl))]
                  clear hF hD
                  exact gives_val (by simp only [execOp, evF, h111]; first | rfl | go_simp) ⟨Gr.refl _, rfl⟩
                · intro f w' gG hF hD
                  have h110 : f 110 = .slice (some ⟨g2, o2, none⟩) n1 c := hD 19 110 (by kernel_rfl) rfl
                  have h112 : f 112 = .int .i64 (m : Int) := hD 21 112 (by kernel_rfl) rfl
                  rw [if_pos (wanted_some (d := 108) rfl rfl (hD 17 108 (by kernel_rfl) rfl))]
                  clear hF hD
                  exact gives_val (by simp only [execOp, evF, h110, h112]; first | rfl | go_simp) ⟨Gr.refl _, rfl⟩
                · intro f w' gG hF hD
                  have h113 : f 113 = .pointer (some ⟨g2, o2 + m * 6, none⟩) := hD 22 113 (by kernel_rfl) rfl
                  rw [if_pos (wanted_some (d := 108) rfl rfl (hD 17 108 (by kernel_rfl) rfl))]
                  clear hF hD
                  exact gives_val (by simp only [execOp, evF, h113]; first | rfl | go_simp) ⟨Gr.refl _, rfl⟩
                · intro f w' gG hF hD
                  have h114 : f 114 = .pointer (some ⟨g2, o2 + m * 6 + 2, none⟩) := hD 23 114 (by kernel_rfl) rfl
                  rw [if_pos (wanted_some (d := 108) rfl rfl (hD 17 108 (by kernel_rfl) rfl))]
                  clear hF hD
                  have kb : Below B0 W0 w' := HB_.out.trans (((below_drewN (Below.refl wr.heap.size wr) 1).trans gG).mono HZ_.out.1)
                  obtain ⟨z0, z1, z2, z3, z4, z5⟩ := HXB.out w' kb
                  exact gives_val (by simp only [execOp, evF, h114]; go_simp) ⟨Gr.refl _, rfl⟩
                · intro f w' gG hF hD
                  have h3 : f 3 = .pointer (some ⟨q, 0, none⟩) := hF 3 (by kernel_rfl)
                  rw [if_pos (wanted_some (d := 108) rfl rfl (hD 17 108 (by kernel_rfl) rfl))]
                  clear hF hD
                  exact gives_val (by simp only [execOp, evF, h3]; first | rfl | go_simp) ⟨Gr.refl _, rfl⟩
                · intro f w' gG hF hD
                  have h116 : f 116 = .pointer (some ⟨q, 2, none⟩) := hD 25 116 (by kernel_rfl) rfl
                  rw [if_pos (wanted_some (d := 108) rfl rfl (hD 17 108 (by kernel_rfl) rfl))]
                  clear hF hD
                  have kb : Below B0 W0 w' := HB_.out.trans (((below_drewN (Below.refl wr.heap.size wr) 1).trans gG).mono HZ_.out.1)
                  have cl := (HQW.out w' kb).nine.2.2.1
                  exact gives_val (by simp only [execOp, evF, h116]; go_simp) ⟨Gr.refl _, rfl⟩
                · intro f w' gG hF hD
                  have h9 : f 9 = .int .i64 (k : Int) := hF 9 (by kernel_rfl)
                  rw [if_pos (wanted_some (d := 108) rfl rfl (hD 17 108 (by kernel_rfl) rfl))]
                  clear hF hD
                  exact gives_val (by simp only [execOp, evF, h9]; first | rfl | go_simp) ⟨Gr.refl _, rfl⟩
                · intro f w' gG hF hD
                  have h117 : f 117 = .slice (some ⟨g2, o2, none⟩) n1 c := hD 26 117 (by kernel_rfl) rfl
                  have h118 : f 118 = .int .i64 (k : Int) := hD 27 118 (by kernel_rfl) rfl
                  rw [if_pos (wanted_some (d := 108) rfl rfl (hD 17 108 (by kernel_rfl) rfl))]
                  clear hF hD
                  exact gives_val (by simp only [execOp, evF, h117, h118]; first | rfl | go_simp) ⟨Gr.refl _, rfl⟩
                · intro f w' gG hF hD
                  have h119 : f 119 = .pointer (some ⟨g2, o2 + k * 6, none⟩) := hD 28 119 (by kernel_rfl) rfl
                  rw [if_pos (wanted_some (d := 108) rfl rfl (hD 17 108 (by kernel_rfl) rfl))]
                  clear hF hD
                  exact gives_val (by simp only [execOp, evF, h119]; first | rfl | go_simp) ⟨Gr.refl _, rfl⟩
                · intro f w' gG hF hD
                  have h120 : f 120 = .pointer (some ⟨g2, o2 + k * 6 + 2, none⟩) := hD 29 120 (by kernel_rfl) rfl
                  rw [if_pos (wanted_some (d := 108) rfl rfl (hD 17 108 (by kernel_rfl) rfl))]
                  clear hF hD
                  have kb : Below B0 W0 w' := HB_.out.trans (((below_drewN (Below.refl wr.heap.size wr) 1).trans gG).mono HZ_.out.1)
                  obtain ⟨z0, z1, z2, z3, z4, z5⟩ := HYB.out w' kb
                  exact gives_val (by simp only [execOp, evF, h120]; go_simp) ⟨Gr.refl _, rfl⟩
                · intro f w' gG hF hD
                  have h115 : f 115 = .agg #[.int .u32 xb.fg, .int .u32 xb.bg, .int .u8 xb.at_, .int .u16 xb.ln] := hD 24 115 (by kernel_rfl) rfl
                  have h121 : f 121 = .agg #[.int .u32 yb.fg, .int .u32 yb.bg, .int .u8 yb.at_, .int .u16 yb.ln] := hD 30 121 (by kernel_rfl) rfl
                  rw [if_pos (wanted_some (d := 108) rfl rfl (hD 17 108 (by kernel_rfl) rfl))]
                  clear hF hD
                  have hpe := run_penEq xb yb
                  unfold CeD.pen at hpe
                  exact gives_val (by simp only [execOp, evF, h115, h121, hpe, EQ1.out]; go_simp; try exact EQ1.out) ⟨Gr.refl _, rfl⟩
                · intro f w' gG hF hD
                  have h108 : f 108 = .bool true := hD 17 108 (by kernel_rfl) rfl
                  have h122 : f 122 = .bool false := hD 31 122 (by kernel_rfl) rfl
                  rw [if_pos (wanted_none rfl)]
                  clear hF hD
                  exact gives_val (by simp only [execOp, evF, h108, h122]; first | rfl | go_simp) ⟨Gr.refl _, rfl⟩
                · intro f w' gG hF hD
                  have h123 : f 123 = .bool false := hD 32 123 (by kernel_rfl) rfl
                  rw [if_pos (wanted_none rfl)]
                  clear hF hD
                  exact gives_val (by simp only [execOp, evF, h123]; first | rfl | go_simp) ⟨Gr.refl _, rfl⟩
              · intro f w' gG hD
                have h10 : f 10 = .bool false := hD 33 10 rfl
                simp only [putAll, List.setIfInBounds_toArray, List.set_cons_zero, List.set_cons_succ, h10]
                clear hD
                have HFIN : Hid (Below wr.heap.size wr w') := Lib.hid ((below_drewN (Below.refl wr.heap.size wr) 1).trans gG)
                clear gG
                go_wp2_with (fail)
                go_meet
                exact ⟨by rw [← HSF.out] <;> rfl, HFIN⟩
            · skip
              refine wp_region_rw 255 [Rl.eq (.int .i64 (k : Int)), Rl.eq (.bool true), Rl.eq (.bool true), Rl.eq (.pointer (some ⟨p, 2, none⟩)), Rl.eq (.slice (some ⟨g, o, none⟩) n1 c1), Rl.eq (.int .i64 (k : Int)), Rl.eq (.int .i64 (m : Int)), Rl.eq (.pointer (some ⟨g, o + m * 6, none⟩)), Rl.eq (.agg #[.int .i32 xa.r, .int .u8 xa.w, .int .u32 xa.fg, .int .u32 xa.bg, .int .u8 xa.at_, .int .u16 xa.ln]), Rl.eq (.pointer (some ⟨q, 2, none⟩)), Rl.eq (.slice (some ⟨g2, o2, none⟩) n1 c), Rl.eq (.int .i64 (k : Int)), Rl.eq (.int .i64 (m : Int)), Rl.eq (.pointer (some ⟨g2, o2 + m * 6, none⟩)), Rl.eq (.agg #[.int .i32 xb.r, .int .u8 xb.w, .int .u32 xb.fg, .int .u32 xb.bg, .int .u8 xb.at_, .int .u16 xb.ln]), Rl.eq (.bool true), Rl.eq (.bool true), Rl.eq (.bool true), Rl.eq (.pointer (some ⟨q, 2, none⟩)), Rl.eq (.slice (some ⟨g2, o2, none⟩) n1 c), Rl.eq (.int .i64 (k : Int)), Rl.eq (.int .i64 (m : Int)), Rl.eq (.pointer (some ⟨g2, o2 + m * 6, none⟩)), Rl.eq (.pointer (some ⟨g2, o2 + m * 6 + 2, none⟩)), Rl.eq (.agg #[.int .u32 xb.fg, .int .u32 xb.bg, .int .u8 xb.at_, .int .u16 xb.ln]), Rl.eq (.pointer (some ⟨q, 2, none⟩)), Rl.eq (.slice (some ⟨g2, o2, none⟩) n1 c), Rl.eq (.int .i64 (k : Int)), Rl.eq (.pointer (some ⟨g2, o2 + k * 6, none⟩)), Rl.eq (.pointer (some ⟨g2, o2 + k * 6 + 2, none⟩)), Rl.eq (.agg #[.int .u32 yb.fg, .int .u32 yb.bg, .int .u8 yb.at_, .int .u16 yb.ln]), Rl.eq (.bool true), Rl.eq (.bool true), Rl.eq (.bool true)] [91, 92, 93, 94, 95, 96, 97, 98, 99, 100, 101, 102, 103, 104, 105, 106, 107, 108, 109, 110, 111, 112, 113, 114, 115, 116, 117, 118, 119, 120, 121, 122, 123, 10] (by kernel_rfl) rfl (by kernel_rfl) (by kernel_rfl) ?_ ?_
              · repeat (first | exact AllFrom.nil_ | (refine AllFrom.cons_ (by rfl) ?_ ?_; rotate_left))
                · intro f w' gG hF hD
                  have h9 : f 9 = .int .i64 (k : Int) := hF 9 (by kernel_rfl)
                  rw [if_pos (wanted_none rfl)]
                  clear hF hD
                  exact gives_val (by simp only [execOp, evF, h9]; first | rfl | go_simp) ⟨Gr.refl _, rfl⟩
                · intro f w' gG hF hD
                  have h91 : f 91 = .int .i64 (k : Int) := hD 0 91 (by kernel_rfl) rfl
                  rw [if_pos (wanted_none rfl)]
                  clear hF hD
                  exact gives_val (by simp only [execOp, evF, h91]; first | rfl | go_simp) ⟨Gr.refl _, rfl⟩
                · intro f w' gG hF hD
                  have h92 : f 92 = .bool true := hD 1 92 (by kernel_rfl) rfl
                  rw [if_pos (wanted_none rfl)]
                  clear hF hD
                  exact gives_val (by simp only [execOp, evF, h92]; first | rfl | go_simp) ⟨Gr.refl _, rfl⟩
                · intro f w' gG hF hD
                  have h2 : f 2 = .pointer (some ⟨p, 0, none⟩) := hF 2 (by kernel_rfl)
                  rw [if_pos (wanted_some (d := 93) rfl rfl (hD 2 93 (by kernel_rfl) rfl))]
                  clear hF hD
                  exact gives_val (by simp only [execOp, evF, h2]; first | rfl | go_simp) ⟨Gr.refl _, rfl⟩
                · intro f w' gG hF hD
                  have h94 : f 94 = .pointer (some ⟨p, 2, none⟩) := hD 3 94 (by kernel_rfl) rfl
                  rw [if_pos (wanted_some (d := 93) rfl rfl (hD 2 93 (by kernel_rfl) rfl))]
                  clear hF hD
                  have kb : Below B0 W0 w' := HB_.out.trans (((below_drewN (Below.refl wr.heap.size wr) 1).trans gG).mono HZ_.out.1)
                  have cl := (HPW.out w' kb).nine.2.2.1
                  exact gives_val (by simp only [execOp, evF, h94]; go_simp) ⟨Gr.refl _, rfl⟩
                · intro f w' gG hF hD
                  have h9 : f 9 = .int .i64 (k : Int) := hF 9 (by kernel_rfl)
                  rw [if_pos (wanted_some (d := 93) rfl rfl (hD 2 93 (by kernel_rfl) rfl))]
                  clear hF hD
                  exact gives_val (by simp only [execOp, evF, h9]; first | rfl | go_simp) ⟨Gr.refl _, rfl⟩
                · intro f w' gG hF hD
                  have h96 : f 96 = .int .i64 (k : Int) := hD 5 96 (by kernel_rfl) rfl
                  rw [if_pos (wanted_some (d := 93) rfl rfl (hD 2 93 (by kernel_rfl) rfl))]
                  clear hF hD
                  exact gives_val (by simp only [execOp, evF, h96]; first | rfl | go_simp) ⟨Gr.refl _, rfl⟩
                · intro f w' gG hF hD
                  have h95 : f 95 = .slice (some ⟨g, o, none⟩) n1 c1 := hD 4 95 (by kernel_rfl) rfl
                  have h97 : f 97 = .int .i64 (m : Int) := hD 6 97 (by kernel_rfl) rfl
                  rw [if_pos (wanted_some (d := 93) rfl rfl (hD 2 93 (by kernel_rfl) rfl))]
                  clear hF hD
                  exact gives_val (by simp only [execOp, evF, h95, h97]; first | rfl | go_simp) ⟨Gr.refl _, rfl⟩
                · intro f w' gG hF hD
                  have h98 : f 98 = .pointer (some ⟨g, o + m * 6, none⟩) := hD 7 98 (by kernel_rfl) rfl
                  rw [if_pos (wanted_some (d := 93) rfl rfl (hD 2 93 (by kernel_rfl) rfl))]
                  clear hF hD
                  have kb : Below B0 W0 w' := HB_.out.trans (((below_drewN (Below.refl wr.heap.size wr) 1).trans gG).mono HZ_.out.1)
                  obtain ⟨z0, z1, z2, z3, z4, z5⟩ := HXA.out w' kb
                  exact gives_val (by simp only [execOp, evF, h98]; go_simp) ⟨Gr.refl _, rfl⟩
                · intro f w' gG hF hD
                  have h3 : f 3 = .pointer (some ⟨q, 0, none⟩) := hF 3 (by kernel_rfl)
                  rw [if_pos (wanted_some (d := 93) rfl rfl (hD 2 93 (by kernel_rfl) rfl))]
                  clear hF hD
                  exact gives_val (by simp only [execOp, evF, h3]; first | rfl | go_simp) ⟨Gr.refl _, rfl⟩
                · intro f w' gG hF hD
                  have h100 : f 100 = .pointer (some ⟨q, 2, none⟩) := hD 9 100 (by kernel_rfl) rfl
                  rw [if_pos (wanted_some (d := 93) rfl rfl (hD 2 93 (by kernel_rfl) rfl))]
                  clear hF hD
                  have kb : Below B0 W0 w' := HB_.out.trans (((below_drewN (Below.refl wr.heap.size wr) 1).trans gG).mono HZ_.out.1)
                  have cl := (HQW.out w' kb).nine.2.2.1
                  exact gives_val (by simp only [execOp, evF, h100]; go_simp) ⟨Gr.refl _, rfl⟩
                · intro f w' gG hF hD
                  have h9 : f 9 = .int .i64 (k : Int) := hF 9 (by kernel_rfl)
                  rw [if_pos (wanted_some (d := 93) rfl rfl (hD 2 93 (by kernel_rfl) rfl))]
                  clear hF hD
                  exact gives_val (by simp only [execOp, evF, h9]; first | rfl | go_simp) ⟨Gr.refl _, rfl⟩
                · intro f w' gG hF hD
                  have h102 : f 102 = .int .i64 (k : Int) := hD 11 102 (by kernel_rfl) rfl
                  rw [if_pos (wanted_some (d := 93) rfl rfl (hD 2 93 (by kernel_rfl) rfl))]
                  clear hF hD
                  exact gives_val (by simp only [execOp, evF, h102]; first | rfl | go_simp) ⟨Gr.refl _, rfl⟩
                · intro f w' gG hF hD
                  have h101 : f 101 = .slice (some ⟨g2, o2, none⟩) n1 c := hD 10 101 (by kernel_rfl) rfl
                  have h103 : f 103 = .int .i64 (m : Int) := hD 12 103 (by kernel_rfl) rfl
                  rw [if_pos (wanted_some (d := 93) rfl rfl (hD 2 93 (by kernel_rfl) rfl))]
                  clear hF hD
                  exact gives_val (by simp only [execOp, evF, h101, h103]; first | rfl | go_simp) ⟨Gr.refl _, rfl⟩
                · intro f w' gG hF hD
                  have h104 : f 104 = .pointer (some ⟨g2, o2 + m * 6, none⟩) := hD 13 104 (by kernel_rfl) rfl
                  rw [if_pos (wanted_some (d := 93) rfl rfl (hD 2 93 (by kernel_rfl) rfl))]
                  clear hF hD
                  have kb : Below B0 W0 w' := HB_.out.trans (((below_drewN (Below.refl wr.heap.size wr) 1).trans gG).mono HZ_.out.1)
                  obtain ⟨z0, z1, z2, z3, z4, z5⟩ := HXB.out w' kb
                  exact gives_val (by simp only [execOp, evF, h104]; go_simp) ⟨Gr.refl _, rfl⟩
                · intro f w' gG hF hD
                  have h99 : f 99 = .agg #[.int .i32 xa.r, .int .u8 xa.w, .int .u32 xa.fg, .int .u32 xa.bg, .int .u8 xa.at_, .int .u16 xa.ln] := hD 8 99 (by kernel_rfl) rfl
                  have h105 : f 105 = .agg #[.int .i32 xb.r, .int .u8 xb.w, .int .u32 xb.fg, .int .u32 xb.bg, .int .u8 xb.at_, .int .u16 xb.ln] := hD 14 105 (by kernel_rfl) rfl
                  rw [if_pos (wanted_some (d := 93) rfl rfl (hD 2 93 (by kernel_rfl) rfl))]
                  clear hF hD
                  have hpe := run_cellNe xa xb
                  unfold CeD.val at hpe
                  exact gives_val (by simp only [execOp, evF, h99, h105, hpe, EE1.out]; go_simp; try exact EE1.out) ⟨Gr.refl _, rfl⟩
                · intro f w' gG hF hD
                  have h93 : f 93 = .bool true := hD 2 93 (by kernel_rfl) rfl
                  have h106 : f 106 = .bool true := hD 15 106 (by kernel_rfl) rfl
                  rw [if_pos (wanted_none rfl)]
                  clear hF hD
                  exact gives_val (by simp only [execOp, evF, h93, h106]; first | rfl | go_simp) ⟨Gr.refl _, rfl⟩
                · intro f w' gG hF hD
                  have h107 : f 107 = .bool true := hD 16 107 (by kernel_rfl) rfl
                  rw [if_pos (wanted_none rfl)]
                  clear hF hD
                  exact gives_val (by simp only [execOp, evF, h107]; first | rfl | go_simp) ⟨Gr.refl _, rfl⟩
                · intro f w' gG hF hD
                  have h3 : f 3 = .pointer (some ⟨q, 0, none⟩) := hF 3 (by kernel_rfl)
                  rw [if_pos (wanted_some (d := 108) rfl rfl (hD 17 108 (by kernel_rfl) rfl))]
                  clear hF hD
                  exact gives_val (by simp only [execOp, evF, h3]; first | rfl | go_simp) ⟨Gr.refl _, rfl⟩
                · intro f w' gG hF hD
                  have h109 : f 109 = .pointer (some ⟨q, 2, none⟩) := hD 18 109 (by kernel_rfl) rfl
                  rw [if_pos (wanted_some (d := 108) rfl rfl (hD 17 108 (by kernel_rfl) rfl))]
                  clear hF hD
                  have kb : Below B0 W0 w' := HB_.out.trans (((below_drewN (Below.refl wr.heap.size wr) 1).trans gG).mono HZ_.out.1)
                  have cl := (HQW.out w' kb).nine.2.2.1
                  exact gives_val (by simp only [execOp, evF, h109]; go_simp) ⟨Gr.refl _, rfl⟩
                · intro f w' gG hF hD
                  have h9 : f 9 = .int .i64 (k : Int) := hF 9 (by kernel_rfl)
                  rw [if_pos (wanted_some (d := 108) rfl rfl (hD 17 108 (by kernel_rfl) rfl))]
                  clear hF hD
                  exact gives_val (by simp only [execOp, evF, h9]; first | rfl | go_simp) ⟨Gr.refl _, rfl⟩
                · intro f w' gG hF hD
                  have h111 : f 111 = .int .i64 (k : Int) := hD 20 111 (by kernel_rfl) rfl
                  rw [if_pos (wanted_some (d := 108) rfl rfl (hD 17 108 (by kernel_rfl) rfl))]
                  clear hF hD
                  exact gives_val (by simp only [execOp, evF, h111]; first | rfl | go_simp) ⟨Gr.refl _, rfl⟩
                · intro f w' gG hF hD
                  have h110 : f 110 = .slice (some ⟨g2, o2, none⟩) n1 c := hD 19 110 (by kernel_rfl) rfl
                  have h112 : f 112 = .int .i64 (m : Int) := hD 21 112 (by kernel_rfl) rfl
                  rw [if_pos (wanted_some (d := 108) rfl rfl (hD 17 108 (by kernel_rfl) rfl))]
                  clear hF hD
                  exact gives_val (by simp only [execOp, evF, h110, h112]; first | rfl | go_simp) ⟨Gr.refl _, rfl⟩
                · intro f w' gG hF hD
                  have h113 : f 113 = .pointer (some ⟨g2, o2 + m * 6, none⟩) := hD 22 113 (by kernel_rfl) rfl
                  rw [if_pos (wanted_some (d := 108) rfl rfl (hD 17 108 (by kernel_rfl) rfl))]
                  clear hF hD
                  exact gives_val (by simp only [execOp, evF, h113]; first | rfl | go_simp) ⟨Gr.refl _, rfl⟩
                · intro f w' gG hF hD
                  have h114 : f 114 = .pointer (some ⟨g2, o2 + m * 6 + 2, none⟩) := hD 23 114 (by kernel_rfl) rfl
                  rw [if_pos (wanted_some (d := 108) rfl rfl (hD 17 108 (by kernel_rfl) rfl))]
                  clear hF hD
                  have kb : Below B0 W0 w' := HB_.out.trans (((below_drewN (Below.refl wr.heap.size wr) 1).trans gG).mono HZ_.out.1)
                  obtain ⟨z0, z1, z2, z3, z4, z5⟩ := HXB.out w' kb
                  exact gives_val (by simp only [execOp, evF, h114]; go_simp) ⟨Gr.refl _, rfl⟩
                · intro f w' gG hF hD
                  have h3 : f 3 = .pointer (some ⟨q, 0, none⟩) := hF 3 (by kernel_rfl)
                  rw [if_pos (wanted_some (d := 108) rfl rfl (hD 17 108 (by kernel_rfl) rfl))]
                  clear hF hD
                  exact gives_val (by simp only [execOp, evF, h3]; first | rfl | go_simp) ⟨Gr.refl _, rfl⟩
                · intro f w' gG hF hD
                  have h116 : f 116 = .pointer (some ⟨q, 2, none⟩) := hD 25 116 (by kernel_rfl) rfl
                  rw [if_pos (wanted_some (d := 108) rfl rfl (hD 17 108 (by kernel_rfl) rfl))]
                  clear hF hD
                  have kb : Below B0 W0 w' := HB_.out.trans (((below_drewN (Below.refl wr.heap.size wr) 1).trans gG).mono HZ_.out.1)
                  have cl := (HQW.out w' kb).nine.2.2.1
                  exact gives_val (by simp only [execOp, evF, h116]; go_simp) ⟨Gr.refl _, rfl⟩
                · intro f w' gG hF hD
                  have h9 : f 9 = .int .i64 (k : Int) := hF 9 (by kernel_rfl)
                  rw [if_pos (wanted_some (d := 108) rfl rfl (hD 17 108 (by kernel_rfl) rfl))]
                  clear hF hD
                  exact gives_val (by simp only [execOp, evF, h9]; first | rfl | go_simp) ⟨Gr.refl _, rfl⟩
                · intro f w' gG hF hD
                  have h117 : f 117 = .slice (some ⟨g2, o2, none⟩) n1 c := hD 26 117 (by kernel_rfl) rfl
                  have h118 : f 118 = .int .i64 (k : Int) := hD 27 118 (by kernel_rfl) rfl
                  rw [if_pos (wanted_some (d := 108) rfl rfl (hD 17 108 (by kernel_rfl) rfl))]
                  clear hF hD
                  exact gives_val (by simp only [execOp, evF, h117, h118]; first | rfl | go_simp) ⟨Gr.refl _, rfl⟩
                · intro f w' gG hF hD
                  have h119 : f 119 = .pointer (some ⟨g2, o2 + k * 6, none⟩) := hD 28 119 (by kernel_rfl) rfl
                  rw [if_pos (wanted_some (d := 108) rfl rfl (hD 17 108 (by kernel_rfl) rfl))]
                  clear hF hD
                  exact gives_val (by simp only [execOp, evF, h119]; first | rfl | go_simp) ⟨Gr.refl _, rfl⟩
                · intro f w' gG hF hD
                  have h120 : f 120 = .pointer (some ⟨g2, o2 + k * 6 + 2, none⟩) := hD 29 120 (by kernel_rfl) rfl
                  rw [if_pos (wanted_some (d := 108) rfl rfl (hD 17 108 (by kernel_rfl) rfl))]
                  clear hF hD
                  have kb : Below B0 W0 w' := HB_.out.trans (((below_drewN (Below.refl wr.heap.size wr) 1).trans gG).mono HZ_.out.1)
                  obtain ⟨z0, z1, z2, z3, z4, z5⟩ := HYB.out w' kb
                  exact gives_val (by simp only [execOp, evF, h120]; go_simp) ⟨Gr.refl _, rfl⟩
                · intro f w' gG hF hD
                  have h115 : f 115 = .agg #[.int .u32 xb.fg, .int .u32 xb.bg, .int .u8 xb.at_, .int .u16 xb.ln] := hD 24 115 (by kernel_rfl) rfl
                  have h121 : f 121 = .agg #[.int .u32 yb.fg, .int .u32 yb.bg, .int .u8 yb.at_, .int .u16 yb.ln] := hD 30 121 (by kernel_rfl) rfl
                  rw [if_pos (wanted_some (d := 108) rfl rfl (hD 17 108 (by kernel_rfl) rfl))]
                  clear hF hD
                  have hpe := run_penEq xb yb
                  unfold CeD.pen at hpe
                  exact gives_val (by simp only [execOp, evF, h115, h121, hpe, EQ1.out]; go_simp; try exact EQ1.out) ⟨Gr.refl _, rfl⟩
                · intro f w' gG hF hD
                  have h108 : f 108 = .bool true := hD 17 108 (by kernel_rfl) rfl
                  have h122 : f 122 = .bool true := hD 31 122 (by kernel_rfl) rfl
                  rw [if_pos (wanted_none rfl)]
                  clear hF hD
                  exact gives_val (by simp only [execOp, evF, h108, h122]; first | rfl | go_simp) ⟨Gr.refl _, rfl⟩
                · intro f w' gG hF hD
                  have h123 : f 123 = .bool true := hD 32 123 (by kernel_rfl) rfl
                  rw [if_pos (wanted_none rfl)]
                  clear hF hD
                  exact gives_val (by simp only [execOp, evF, h123]; first | rfl | go_simp) ⟨Gr.refl _, rfl⟩
              · intro f w' gG hD
                have h10 : f 10 = .bool true := hD 33 10 rfl
                simp only [putAll, List.setIfInBounds_toArray, List.set_cons_zero, List.set_cons_succ, h10]
                clear hD
                have HFIN : Hid (Below wr.heap.size wr w') := Lib.hid ((below_drewN (Below.refl wr.heap.size wr) 1).trans gG)
                clear gG
                go_wp2_with (fail)
                go_meet
                exact ⟨by rw [← HSF.out] <;> rfl, HFIN⟩
          · skip
            refine wp_region_rw 255 [Rl.eq (.int .i64 (k : Int)), Rl.eq (.bool true), Rl.eq (.bool true), Rl.eq (.pointer (some ⟨p, 2, none⟩)), Rl.eq (.slice (some ⟨g, o, none⟩) n1 c1), Rl.eq (.int .i64 (k : Int)), Rl.eq (.int .i64 (m : Int)), Rl.eq (.pointer (some ⟨g, o + m * 6, none⟩)), Rl.eq (.agg #[.int .i32 xa.r, .int .u8 xa.w, .int .u32 xa.fg, .int .u32 xa.bg, .int .u8 xa.at_, .int .u16 xa.ln]), Rl.eq (.pointer (some ⟨q, 2, none⟩)), Rl.eq (.slice (some ⟨g2, o2, none⟩) n1 c), Rl.eq (.int .i64 (k : Int)), Rl.eq (.int .i64 (m : Int)), Rl.eq (.pointer (some ⟨g2, o2 + m * 6, none⟩)), Rl.eq (.agg #[.int .i32 xb.r, .int .u8 xb.w, .int .u32 xb.fg, .int .u32 xb.bg, .int .u8 xb.at_, .int .u16 xb.ln]), Rl.eq (.bool false), Rl.eq (.bool false), Rl.eq (.bool false), Rl.eq (undef), Rl.eq (undef), Rl.eq (undef), Rl.eq (undef), Rl.eq (undef), Rl.eq (undef), Rl.eq (undef), Rl.eq (undef), Rl.eq (undef), Rl.eq (undef), Rl.eq (undef), Rl.eq (undef), Rl.eq (undef), Rl.eq (undef), Rl.eq (.bool false), Rl.eq (.bool false)] [91, 92, 93, 94, 95, 96, 97, 98, 99, 100, 101, 102, 103, 104, 105, 106, 107, 108, 109, 110, 111, 112, 113, 114, 115, 116, 117, 118, 119, 120, 121, 122, 123, 10] (by kernel_rfl) rfl (by kernel_rfl) (by kernel_rfl) ?_ ?_
            · repeat (first | exact AllFrom.nil_ | (refine AllFrom.cons_ (by rfl) ?_ ?_; rotate_left))
              · intro f w' gG hF hD
                have h9 : f 9 = .int .i64 (k : Int) := hF 9 (by kernel_rfl)
                rw [if_pos (wanted_none rfl)]
                clear hF hD
                exact gives_val (by simp only [execOp, evF, h9]; first | rfl | go_simp) ⟨Gr.refl _, rfl⟩
              · intro f w' gG hF hD
                have h91 : f 91 = .int .i64 (k : Int) := hD 0 91 (by kernel_rfl) rfl
                rw [if_pos (wanted_none rfl)]
                clear hF hD
                exact gives_val (by simp only [execOp, evF, h91]; first | rfl | go_simp) ⟨Gr.refl _, rfl⟩
              · intro f w' gG hF hD
                have h92 : f 92 = .bool true := hD 1 92 (by kernel_rfl) rfl
                rw [if_pos (wanted_none rfl)]
                clear hF hD
                exact gives_val (by simp only [execOp, evF, h92]; first | rfl | go_simp) ⟨Gr.refl _, rfl⟩
              · intro f w' gG hF hD
                have h2 : f 2 = .pointer (some ⟨p, 0, none⟩) := hF 2 (by kernel_rfl)
                rw [if_pos (wanted_some (d := 93) rfl rfl (hD 2 93 (by kernel_rfl) rfl))]
                clear hF hD
                exact gives_val (by simp only [execOp, evF, h2]; first | rfl | go_simp) ⟨Gr.refl _, rfl⟩
              · intro f w' gG hF hD
                have h94 : f 94 = .pointer (some ⟨p, 2, none⟩) := hD 3 94 (by kernel_rfl) rfl
                rw [if_pos (wanted_some (d := 93) rfl rfl (hD 2 93 (by kernel_rfl) rfl))]
                clear hF hD
                have kb : Below B0 W0 w' := HB_.out.trans (((below_drewN (Below.refl wr.heap.size wr) 1).trans gG).mono HZ_.out.1)
                have cl := (HPW.out w' kb).nine.2.2.1
                exact gives_val (by simp only [execOp, evF, h94]; go_simp) ⟨Gr.refl _, rfl⟩
              · intro f w' gG hF hD
                have h9 : f 9 = .int .i64 (k : Int) := hF 9 (by kernel_rfl)
                rw [if_pos (wanted_some (d := 93) rfl rfl (hD 2 93 (by kernel_rfl) rfl))]
                clear hF hD
                exact gives_val (by simp only [execOp, evF, h9]; first | rfl | go_simp) ⟨Gr.refl _, rfl⟩
              · intro f w' gG hF hD
                have h96 : f 96 = .int .i64 (k : Int) := hD 5 96 (by kernel_rfl) rfl
                rw [if_pos (wanted_some (d := 93) rfl rfl (hD 2 93 (by kernel_rfl) rfl))]
                clear hF hD
                exact gives_val (by simp only [execOp, evF, h96]; first | rfl | go_simp) ⟨Gr.refl _, rfl⟩
              · intro f w' gG hF hD
                have h95 : f 95 = .slice (some ⟨g, o, none⟩) n1 c1 := hD 4 95 (by kernel_rfl) rfl
                have h97 : f 97 = .int .i64 (m : Int) := hD 6 97 (by kernel_rfl) rfl
                rw [if_pos (wanted_some (d := 93) rfl rfl (hD 2 93 (by kernel_rfl) rfl))]
                clear hF hD
                exact gives_val (by simp only [execOp, evF, h95, h97]; first | rfl | go_simp) ⟨Gr.refl _, rfl⟩
              · intro f w' gG hF hD
                have h98 : f 98 = .pointer (some ⟨g, o + m * 6, none⟩) := hD 7 98 (by kernel_rfl) rfl
                rw [if_pos (wanted_some (d := 93) rfl rfl (hD 2 93 (by kernel_rfl) rfl))]
                clear hF hD
                have kb : Below B0 W0 w' := HB_.out.trans (((below_drewN (Below.refl wr.heap.size wr) 1).trans gG).mono HZ_.out.1)
                obtain ⟨z0, z1, z2, z3, z4, z5⟩ := HXA.out w' kb
                exact gives_val (by simp only [execOp, evF, h98]; go_simp) ⟨Gr.refl _, rfl⟩
              · intro f w' gG hF hD
                have h3 : f 3 = .pointer (some ⟨q, 0, none⟩) := hF 3 (by kernel_rfl)
                rw [if_pos (wanted_some (d := 93) rfl rfl (hD 2 93 (by kernel_rfl) rfl))]
                clear hF hD
                exact gives_val (by simp only [execOp, evF, h3]; first | rfl | go_simp) ⟨Gr.refl _, rfl⟩
              · intro f w' gG hF hD
                have h100 : f 100 = .pointer (some ⟨q, 2, none⟩) := hD 9 100 (by kernel_rfl) rfl
                rw [if_pos (wanted_some (d := 93) rfl rfl (hD 2 93 (by kernel_rfl) rfl))]
                clear hF hD
                have kb : Below B0 W0 w' := HB_.out.trans (((below_drewN (Below.refl wr.heap.size wr) 1).trans gG).mono HZ_.out.1)
                have cl := (HQW.out w' kb).nine.2.2.1
                exact gives_val (by simp only [execOp, evF, h100]; go_simp) ⟨Gr.refl _, rfl⟩
              · intro f w' gG hF hD
                have h9 : f 9 = .int .i64 (k : Int) := hF 9 (by kernel_rfl)
                rw [if_pos (wanted_some (d := 93) rfl rfl (hD 2 93 (by kernel_rfl) rfl))]
                clear hF hD
                exact gives_val (by simp only [execOp, evF, h9]; first | rfl | go_simp) ⟨Gr.refl _, rfl⟩
              · intro f w' gG hF hD
                have h102 : f 102 = .int .i64 (k : Int) := hD 11 102 (by kernel_rfl) rfl
                rw [if_pos (wanted_some (d := 93) rfl rfl (hD 2 93 (by kernel_rfl) rfl))]
                clear hF hD
                exact gives_val (by simp only [execOp, evF, h102]; first | rfl | go_simp) ⟨Gr.refl _, rfl⟩
              · intro f w' gG hF hD
                have h101 : f 101 = .slice (some ⟨g2, o2, none⟩) n1 c := hD 10 101 (by kernel_rfl) rfl
                have h103 : f 103 = .int .i64 (m : Int) := hD 12 103 (by kernel_rfl) rfl
                rw [if_pos (wanted_some (d := 93) rfl rfl (hD 2 93 (by kernel_rfl) rfl))]
                clear hF hD
                exact gives_val (by simp only [execOp, evF, h101, h103]; first | rfl | go_simp) ⟨Gr.refl _, rfl⟩
              · intro f w' gG hF hD
                have h104 : f 104 = .pointer (some ⟨g2, o2 + m * 6, none⟩) := hD 13 104 (by kernel_rfl) rfl
                rw [if_pos (wanted_some (d := 93) rfl rfl (hD 2 93 (by kernel_rfl) rfl))]
                clear hF hD
                have kb : Below B0 W0 w' := HB_.out.trans (((below_drewN (Below.refl wr.heap.size wr) 1).trans gG).mono HZ_.out.1)
                obtain ⟨z0, z1, z2, z3, z4, z5⟩ := HXB.out w' kb
                exact gives_val (by simp only [execOp, evF, h104]; go_simp) ⟨Gr.refl _, rfl⟩
              · intro f w' gG hF hD
                have h99 : f 99 = .agg #[.int .i32 xa.r, .int .u8 xa.w, .int .u32 xa.fg, .int .u32 xa.bg, .int .u8 xa.at_, .int .u16 xa.ln] := hD 8 99 (by kernel_rfl) rfl
                have h105 : f 105 = .agg #[.int .i32 xb.r, .int .u8 xb.w, .int .u32 xb.fg, .int .u32 xb.bg, .int .u8 xb.at_, .int .u16 xb.ln] := hD 14 105 (by kernel_rfl) rfl
                rw [if_pos (wanted_some (d := 93) rfl rfl (hD 2 93 (by kernel_rfl) rfl))]
                clear hF hD
                have hpe := run_cellNe xa xb
                unfold CeD.val at hpe
                exact gives_val (by simp only [execOp, evF, h99, h105, hpe, EE1.out]; go_simp; try exact EE1.out) ⟨Gr.refl _, rfl⟩
              · intro f w' gG hF hD
                have h93 : f 93 = .bool true := hD 2 93 (by kernel_rfl) rfl
                have h106 : f 106 = .bool false := hD 15 106 (by kernel_rfl) rfl
                rw [if_pos (wanted_none rfl)]
                clear hF hD
                exact gives_val (by simp only [execOp, evF, h93, h106]; first | rfl | go_simp) ⟨Gr.refl _, rfl⟩
              · intro f w' gG hF hD
                have h107 : f 107 = .bool false := hD 16 107 (by kernel_rfl) rfl
                rw [if_pos (wanted_none rfl)]
                clear hF hD
                exact gives_val (by simp only [execOp, evF, h107]; first | rfl | go_simp) ⟨Gr.refl _, rfl⟩
              · intro f w' gG hF hD
                rw [if_neg (unwanted_some (d := 108) (b := true) rfl rfl (show f 108 = .bool false from hD 17 108 (by kernel_rfl) rfl))]
                exact rfl
              · intro f w' gG hF hD
                rw [if_neg (unwanted_some (d := 108) (b := true) rfl rfl (show f 108 = .bool false from hD 17 108 (by kernel_rfl) rfl))]
                exact rfl
              · intro f w' gG hF hD
                rw [if_neg (unwanted_some (d := 108) (b := true) rfl rfl (show f 108 = .bool false from hD 17 108 (by kernel_rfl) rfl))]
                exact rfl
              · intro f w' gG hF hD
                rw [if_neg (unwanted_some (d := 108) (b := true) rfl rfl (show f 108 = .bool false from hD 17 108 (by kernel_rfl) rfl))]
                exact rfl
              · intro f w' gG hF hD
                rw [if_neg (unwanted_some (d := 108) (b := true) rfl rfl (show f 108 = .bool false from hD 17 108 (by kernel_rfl) rfl))]
                exact rfl
              · intro f w' gG hF hD
                rw [if_neg (unwanted_some (d := 108) (b := true) rfl rfl (show f 108 = .bool false from hD 17 108 (by kernel_rfl) rfl))]
                exact rfl
              · intro f w' gG hF hD
                rw [if_neg (unwanted_some (d := 108) (b := true) rfl rfl (show f 108 = .bool false from hD 17 108 (by kernel_rfl) rfl))]
                exact rfl
              · intro f w' gG hF hD
                rw [if_neg (unwanted_some (d := 108) (b := true) rfl rfl (show f 108 = .bool false from hD 17 108 (by kernel_rfl) rfl))]
                exact rfl
              · intro f w' gG hF hD
                rw [if_neg (unwanted_some (d := 108) (b := true) rfl rfl (show f 108 = .bool false from hD 17 108 (by kernel_rfl) rfl))]
                exact rfl
              · intro f w' gG hF hD
                rw [if_neg (unwanted_some (d := 108) (b := true) rfl rfl (show f 108 = .bool false from hD 17 108 (by kernel_rfl) rfl))]
                exact rfl
              · intro f w' gG hF hD
                rw [if_neg (unwanted_some (d := 108) (b := true) rfl rfl (show f 108 = .bool false from hD 17 108 (by kernel_rfl) rfl))]
                exact rfl
              · intro f w' gG hF hD
                rw [if_neg (unwanted_some (d := 108) (b := true) rfl rfl (show f 108 = .bool false from hD 17 108 (by kernel_rfl) rfl))]
                exact rfl
              · intro f w' gG hF hD
                rw [if_neg (unwanted_some (d := 108) (b := true) rfl rfl (show f 108 = .bool false from hD 17 108 (by kernel_rfl) rfl))]
                exact rfl
              · intro f w' gG hF hD
                rw [if_neg (unwanted_some (d := 108) (b := true) rfl rfl (show f 108 = .bool false from hD 17 108 (by kernel_rfl) rfl))]
                exact rfl
              · intro f w' gG hF hD
                have h108 : f 108 = .bool false := hD 17 108 (by kernel_rfl) rfl
                have h122 : f 122 = undef := hD 31 122 (by kernel_rfl) rfl
                rw [if_pos (wanted_none rfl)]
                clear hF hD
                exact gives_val (by simp only [execOp, evF, h108, h122]; first | rfl | go_simp) ⟨Gr.refl _, rfl⟩
              · intro f w' gG hF hD
                have h123 : f 123 = .bool false := hD 32 123 (by kernel_rfl) rfl
                rw [if_pos (wanted_none rfl)]
                clear hF hD
                exact gives_val (by simp only [execOp, evF, h123]; first | rfl | go_simp) ⟨Gr.refl _, rfl⟩
            · intro f w' gG hD
              have h10 : f 10 = .bool false := hD 33 10 rfl
              simp only [putAll, List.setIfInBounds_toArray, List.set_cons_zero, List.set_cons_succ, h10]
              clear hD
              have HFIN : Hid (Below wr.heap.size wr w') := Lib.hid ((below_drewN (Below.refl wr.heap.size wr) 1).trans gG)
              clear gG
              go_wp2_with (fail)
              go_meet
              exact ⟨by rw [← HSF.out] <;> rfl, HFIN⟩
      case rest =>
      obtain ⟨rfl, HKC⟩ := hcut
      have HKD : Hid (Below BN W7 wc) := Lib.hid (HKR.out.trans (HKC.out.mono HZ_.out.2))
      have HBC : Hid (Below B0 W0 wc) := Lib.hid (HK7.out.trans (HKD.out.mono HBN.out))
      have HZC : Hid (B0 ≤ wc.heap.size ∧ BN ≤ wc.heap.size) := Lib.hid ⟨HSW.out wc HBC.out, by rw [EBN.out]; exact HKD.out.size⟩
      have HBG2 := Lib.hid (HBG.out.below HKC.out)
      have HBLE : Hid ((begA a.cells b.cells k).length ≤ 1920) := Lib.hid (Nat.le_trans (begA_le _ _ _) (by omega))
      clear HKR HBG HB_ HZ_ HKC
      cases E2
      · cases S
        · go_wp2_with (fail)
          refine wp_region_rw 255 [Rl.eq (.pointer (some ⟨p, 2, none⟩)), Rl.eq (.slice (some ⟨g, o, none⟩) n1 c1), Rl.eq (.int .i64 (k : Int)), Rl.eq (.pointer (some ⟨g, o + k * 6, none⟩)), Rl.eq (.agg #[.int .i32 ya.r, .int .u8 ya.w, .int .u32 ya.fg, .int .u32 ya.bg, .int .u8 ya.at_, .int .u16 ya.ln]), Rl.eq (.pointer (some ⟨q, 2, none⟩)), Rl.eq (.slice (some ⟨g2, o2, none⟩) n1 c), Rl.eq (.int .i64 (k : Int)), Rl.eq (.pointer (some ⟨g2, o2 + k * 6, none⟩)), Rl.eq (.agg #[.int .i32 yb.r, .int .u8 yb.w, .int .u32 yb.fg, .int .u32 yb.bg, .int .u8 yb.at_, .int .u16 yb.ln]), Rl.eq (.bool true), Rl.eq (.bool true), Rl.eq (.bool false), Rl.eq (.bool true), Rl.eq (.bool true)] [124, 125, 126, 127, 128, 129, 130, 131, 132, 133, 134, 135, 136, 137, 138] (by kernel_rfl) rfl (by kernel_rfl) (by kernel_rfl) ?_ ?_
          · repeat (first | exact AllFrom.nil_ | (refine AllFrom.cons_ (by rfl) ?_ ?_; rotate_left))
            · intro f w' gG hF hD
              have h2 : f 2 = .pointer (some ⟨p, 0, none⟩) := hF 2 (by kernel_rfl)
              rw [if_pos (wanted_none rfl)]
              clear hF hD
              exact gives_val (by simp only [execOp, evF, h2]; first | rfl | go_simp) ⟨Gr.refl _, rfl⟩
            · intro f w' gG hF hD
              have h124 : f 124 = .pointer (some ⟨p, 2, none⟩) := hD 0 124 (by kernel_rfl) rfl
              rw [if_pos (wanted_none rfl)]
              clear hF hD
              have kb : Below B0 W0 w' := HBC.out.trans (((below_drewN (Below.refl wc.heap.size wc) 1).trans gG).mono HZC.out.1)
              have cl := (HPW.out w' kb).nine.2.2.1
              exact gives_val (by simp only [execOp, evF, h124]; go_simp) ⟨Gr.refl _, rfl⟩
            · intro f w' gG hF hD
              have h9 : f 9 = .int .i64 (k : Int) := hF 9 (by kernel_rfl)
              rw [if_pos (wanted_none rfl)]
              clear hF hD
              exact gives_val (by simp only [execOp, evF, h9]; first | rfl | go_simp) ⟨Gr.refl _, rfl⟩
            · intro f w' gG hF hD
              have h125 : f 125 = .slice (some ⟨g, o, none⟩) n1 c1 := hD 1 125 (by kernel_rfl) rfl
              have h126 : f 126 = .int .i64 (k : Int) := hD 2 126 (by kernel_rfl) rfl
              rw [if_pos (wanted_none rfl)]
              clear hF hD
              exact gives_val (by simp only [execOp, evF, h125, h126]; first | rfl | go_simp) ⟨Gr.refl _, rfl⟩
            · intro f w' gG hF hD
              have h127 : f 127 = .pointer (some ⟨g, o + k * 6, none⟩) := hD 3 127 (by kernel_rfl) rfl
              rw [if_pos (wanted_none rfl)]
              clear hF hD
              have kb : Below B0 W0 w' := HBC.out.trans (((below_drewN (Below.refl wc.heap.size wc) 1).trans gG).mono HZC.out.1)
              obtain ⟨z0, z1, z2, z3, z4, z5⟩ := HYA.out w' kb
              exact gives_val (by simp only [execOp, evF, h127]; go_simp) ⟨Gr.refl _, rfl⟩
            · intro f w' gG hF hD
              have h3 : f 3 = .pointer (some ⟨q, 0, none⟩) := hF 3 (by kernel_rfl)
              rw [if_pos (wanted_none rfl)]
              clear hF hD
              exact gives_val (by simp only [execOp, evF, h3]; first | rfl | go_simp) ⟨Gr.refl _, rfl⟩
            · intro f w' gG hF hD
              have h129 : f 129 = .pointer (some ⟨q, 2, none⟩) := hD 5 129 (by kernel_rfl) rfl
              rw [if_pos (wanted_none rfl)]
              clear hF hD
              have kb : Below B0 W0 w' := HBC.out.trans (((below_drewN (Below.refl wc.heap.size wc) 1).trans gG).mono HZC.out.1)
              have cl := (HQW.out w' kb).nine.2.2.1
              exact gives_val (by simp only [execOp, evF, h129]; go_simp) ⟨Gr.refl _, rfl⟩
            · intro f w' gG hF hD
              have h9 : f 9 = .int .i64 (k : Int) := hF 9 (by kernel_rfl)
              rw [if_pos (wanted_none rfl)]
              clear hF hD
              exact gives_val (by simp only [execOp, evF, h9]; first | rfl | go_simp) ⟨Gr.refl _, rfl⟩
            · intro f w' gG hF hD
              have h130 : f 130 = .slice (some ⟨g2, o2, none⟩) n1 c := hD 6 130 (by kernel_rfl) rfl
              have h131 : f 131 = .int .i64 (k : Int) := hD 7 131 (by kernel_rfl) rfl
              rw [if_pos (wanted_none rfl)]
              clear hF hD
              exact gives_val (by simp only [execOp, evF, h130, h131]; first | rfl | go_simp) ⟨Gr.refl _, rfl⟩
            · intro f w' gG hF hD
              have h132 : f 132 = .pointer (some ⟨g2, o2 + k * 6, none⟩) := hD 8 132 (by kernel_rfl) rfl
              rw [if_pos (wanted_none rfl)]
              clear hF hD
              have kb : Below B0 W0 w' := HBC.out.trans (((below_drewN (Below.refl wc.heap.size wc) 1).trans gG).mono HZC.out.1)
              obtain ⟨z0, z1, z2, z3, z4, z5⟩ := HYB.out w' kb
              exact gives_val (by simp only [execOp, evF, h132]; go_simp) ⟨Gr.refl _, rfl⟩
            · intro f w' gG hF hD
              have h128 : f 128 = .agg #[.int .i32 ya.r, .int .u8 ya.w, .int .u32 ya.fg, .int .u32 ya.bg, .int .u8 ya.at_, .int .u16 ya.ln] := hD 4 128 (by kernel_rfl) rfl
              have h133 : f 133 = .agg #[.int .i32 yb.r, .int .u8 yb.w, .int .u32 yb.fg, .int .u32 yb.bg, .int .u8 yb.at_, .int .u16 yb.ln] := hD 9 133 (by kernel_rfl) rfl
              rw [if_pos (wanted_none rfl)]
              clear hF hD
              have hpe := run_cellNe ya yb
              unfold CeD.val at hpe
              exact gives_val (by simp only [execOp, evF, h128, h133, hpe, EE2.out]; go_simp; try exact EE2.out) ⟨Gr.refl _, rfl⟩
            · intro f w' gG hF hD
              have h134 : f 134 = .bool true := hD 10 134 (by kernel_rfl) rfl
              rw [if_pos (wanted_none rfl)]
              clear hF hD
              exact gives_val (by simp only [execOp, evF, h134]; first | rfl | go_simp) ⟨Gr.refl _, rfl⟩
            · intro f w' gG hF hD
              have h10 : f 10 = .bool false := hF 10 (by kernel_rfl)
              rw [if_pos (wanted_some (d := 135) rfl rfl (hD 11 135 (by kernel_rfl) rfl))]
              clear hF hD
              exact gives_val (by simp only [execOp, evF, h10]; first | rfl | go_simp) ⟨Gr.refl _, rfl⟩
            · intro f w' gG hF hD
              have h136 : f 136 = .bool false := hD 12 136 (by kernel_rfl) rfl
              rw [if_pos (wanted_some (d := 135) rfl rfl (hD 11 135 (by kernel_rfl) rfl))]
              clear hF hD
              exact gives_val (by simp only [execOp, evF, h136]; first | rfl | go_simp) ⟨Gr.refl _, rfl⟩
            · intro f w' gG hF hD
              have h135 : f 135 = .bool true := hD 11 135 (by kernel_rfl) rfl
              have h137 : f 137 = .bool true := hD 13 137 (by kernel_rfl) rfl
              rw [if_pos (wanted_none rfl)]
              clear hF hD
              exact gives_val (by simp only [execOp, evF, h135, h137]; first | rfl | go_simp) ⟨Gr.refl _, rfl⟩
          · intro f w' gG hD
            have h138 : f 138 = .bool true := hD 14 138 rfl
            simp only [putAll, List.setIfInBounds_toArray, List.set_cons_zero, List.set_cons_succ, h138]
            clear hD
            have HKE : Hid (Below BN W7 w') := Lib.hid (HKD.out.trans (((below_drewN (Below.refl wc.heap.size wc) 1).trans gG).mono HZC.out.2))
            have HBG3 := Lib.hid (HBG2.out.below ((below_drewN (Below.refl wc.heap.size wc) 1).trans gG))
            have HZE : Hid (BN ≤ w'.heap.size) := Lib.hid (by rw [EBN.out]; exact HKE.out.size)
            clear gG HKD HBG2 HBC HZC HYA HYB
            have HBT := Lib.hid (begA_snoc HBF.out rfl)
            go_wp2_with (first
              | (at_builtin; (refine wpList_appN1 _ rfl (.tmp 139) (.tmp 141) rfl BN _ _ rfl HBG3.out k rfl (by have := HBLE.out; omega) HZE.out ?_); intro v2 w2 h2 hg2 _; have hk2 : Below BN w' w2 := ((Below.refl _ _).alloc HZE.out _).grown hg2 (Nat.le_trans HZE.out (by simp)) (fun x e => (OwnN.lt HBG3.out x e).1); have HBG4 := Lib.hid h2; have HK4 := Lib.hid (HKE.out.trans hk2); clear h2 hg2 hk2))
            go_roundw
            case rel => exact ⟨k + 1, by omega, by go_num, Lib.hid (by rw [HBT.out]; exact HBG4.out), HK4⟩
            case measure => simp [intOf]; omega
        · go_wp2_with (fail)
          refine wp_region_rw 255 [Rl.eq (.pointer (some ⟨p, 2, none⟩)), Rl.eq (.slice (some ⟨g, o, none⟩) n1 c1), Rl.eq (.int .i64 (k : Int)), Rl.eq (.pointer (some ⟨g, o + k * 6, none⟩)), Rl.eq (.agg #[.int .i32 ya.r, .int .u8 ya.w, .int .u32 ya.fg, .int .u32 ya.bg, .int .u8 ya.at_, .int .u16 ya.ln]), Rl.eq (.pointer (some ⟨q, 2, none⟩)), Rl.eq (.slice (some ⟨g2, o2, none⟩) n1 c), Rl.eq (.int .i64 (k : Int)), Rl.eq (.pointer (some ⟨g2, o2 + k * 6, none⟩)), Rl.eq (.agg #[.int .i32 yb.r, .int .u8 yb.w, .int .u32 yb.fg, .int .u32 yb.bg, .int .u8 yb.at_, .int .u16 yb.ln]), Rl.eq (.bool true), Rl.eq (.bool true), Rl.eq (.bool true), Rl.eq (.bool false), Rl.eq (.bool false)] [124, 125, 126, 127, 128, 129, 130, 131, 132, 133, 134, 135, 136, 137, 138] (by kernel_rfl) rfl (by kernel_rfl) (by kernel_rfl) ?_ ?_
          · repeat (first | exact AllFrom.nil_ | (refine AllFrom.cons_ (by rfl) ?_ ?_; rotate_left))
            · intro f w' gG hF hD
              have h2 : f 2 = .pointer (some ⟨p, 0, none⟩) := hF 2 (by kernel_rfl)
              rw [if_pos (wanted_none rfl)]
              clear hF hD
              exact gives_val (by simp only [execOp, evF, h2]; first | rfl | go_simp) ⟨Gr.refl _, rfl⟩
            · intro f w' gG hF hD
              have h124 : f 124 = .pointer (some ⟨p, 2, none⟩) := hD 0 124 (by kernel_rfl) rfl
              rw [if_pos (wanted_none rfl)]
              clear hF hD
              have kb : Below B0 W0 w' := HBC.out.trans (((below_drewN (Below.refl wc.heap.size wc) 1).trans gG).mono HZC.out.1)
              have cl := (HPW.out w' kb).nine.2.2.1
              exact gives_val (by simp only [execOp, evF, h124]; go_simp) ⟨Gr.refl _, rfl⟩
            · intro f w' gG hF hD
              have h9 : f 9 = .int .i64 (k : Int) := hF 9 (by kernel_rfl)
              rw [if_pos (wanted_none rfl)]
              clear hF hD
              exact gives_val (by simp only [execOp, evF, h9]; first | rfl | go_simp) ⟨Gr.refl _, rfl⟩
            · intro f w' gG hF hD
              have h125 : f 125 = .slice (some ⟨g, o, none⟩) n1 c1 := hD 1 125 (by kernel_rfl) rfl
              have h126 : f 126 = .int .i64 (k : Int) := hD 2 126 (by kernel_rfl) rfl
              rw [if_pos (wanted_none rfl)]
              clear hF hD
              exact gives_val (by simp only [execOp, evF, h125, h126]; first | rfl | go_simp) ⟨Gr.refl _, rfl⟩
            · intro f w' gG hF hD
              have h127 : f 127 = .pointer (some ⟨g, o + k * 6, none⟩) := hD 3 127 (by kernel_rfl) rfl
              rw [if_pos (wanted_none rfl)]
              clear hF hD
              have kb : Below B0 W0 w' := HBC.out.trans (((below_drewN (Below.refl wc.heap.size wc) 1).trans gG).mono HZC.out.1)
              obtain ⟨z0, z1, z2, z3, z4, z5⟩ := HYA.out w' kb
              exact gives_val (by simp only [execOp, evF, h127]; go_simp) ⟨Gr.refl _, rfl⟩
            · intro f w' gG hF hD
              have h3 : f 3 = .pointer (some ⟨q, 0, none⟩) := hF 3 (by kernel_rfl)
              rw [if_pos (wanted_none rfl)]
              clear hF hD
              exact gives_val (by simp only [execOp, evF, h3]; first | rfl | go_simp) ⟨Gr.refl _, rfl⟩
            · intro f w' gG hF hD
              have h129 : f 129 = .pointer (some ⟨q, 2, none⟩) := hD 5 129 (by kernel_rfl) rfl
              rw [if_pos (wanted_none rfl)]
              clear hF hD
              have kb : Below B0 W0 w' := HBC.out.trans (((below_drewN (Below.refl wc.heap.size wc) 1).trans gG).mono HZC.out.1)
              have cl := (HQW.out w' kb).nine.2.2.1
              exact gives_val (by simp only [execOp, evF, h129]; go_simp) ⟨Gr.refl _, rfl⟩
            · intro f w' gG hF hD
              have h9 : f 9 = .int .i64 (k : Int) := hF 9 (by kernel_rfl)
              rw [if_pos (wanted_none rfl)]
              clear hF hD
              exact gives_val (by simp only [execOp, evF, h9]; first | rfl | go_simp) ⟨Gr.refl _, rfl⟩
            · intro f w' gG hF hD
              have h130 : f 130 = .slice (some ⟨g2, o2, none⟩) n1 c := hD 6 130 (by kernel_rfl) rfl
              have h131 : f 131 = .int .i64 (k : Int) := hD 7 131 (by kernel_rfl) rfl
              rw [if_pos (wanted_none rfl)]
              clear hF hD
              exact gives_val (by simp only [execOp, evF, h130, h131]; first | rfl | go_simp) ⟨Gr.refl _, rfl⟩
            · intro f w' gG hF hD
              have h132 : f 132 = .pointer (some ⟨g2, o2 + k * 6, none⟩) := hD 8 132 (by kernel_rfl) rfl
              rw [if_pos (wanted_none rfl)]
              clear hF hD
              have kb : Below B0 W0 w' := HBC.out.trans (((below_drewN (Below.refl wc.heap.size wc) 1).trans gG).mono HZC.out.1)
              obtain ⟨z0, z1, z2, z3, z4, z5⟩ := HYB.out w' kb
              exact gives_val (by simp only [execOp, evF, h132]; go_simp) ⟨Gr.refl _, rfl⟩
            · intro f w' gG hF hD
              have h128 : f 128 = .agg #[.int .i32 ya.r, .int .u8 ya.w, .int .u32 ya.fg, .int .u32 ya.bg, .int .u8 ya.at_, .int .u16 ya.ln] := hD 4 128 (by kernel_rfl) rfl
              have h133 : f 133 = .agg #[.int .i32 yb.r, .int .u8 yb.w, .int .u32 yb.fg, .int .u32 yb.bg, .int .u8 yb.at_, .int .u16 yb.ln] := hD 9 133 (by kernel_rfl) rfl
              rw [if_pos (wanted_none rfl)]
              clear hF hD
              have hpe := run_cellNe ya yb
              unfold CeD.val at hpe
              exact gives_val (by simp only [execOp, evF, h128, h133, hpe, EE2.out]; go_simp; try exact EE2.out) ⟨Gr.refl _, rfl⟩
            · intro f w' gG hF hD
              have h134 : f 134 = .bool true := hD 10 134 (by kernel_rfl) rfl
              rw [if_pos (wanted_none rfl)]
              clear hF hD
              exact gives_val (by simp only [execOp, evF, h134]; first | rfl | go_simp) ⟨Gr.refl _, rfl⟩
            · intro f w' gG hF hD
              have h10 : f 10 = .bool true := hF 10 (by kernel_rfl)
              rw [if_pos (wanted_some (d := 135) rfl rfl (hD 11 135 (by kernel_rfl) rfl))]
              clear hF hD
              exact gives_val (by simp only [execOp, evF, h10]; first | rfl | go_simp) ⟨Gr.refl _, rfl⟩
            · intro f w' gG hF hD
              have h136 : f 136 = .bool true := hD 12 136 (by kernel_rfl) rfl
              rw [if_pos (wanted_some (d := 135) rfl rfl (hD 11 135 (by kernel_rfl) rfl))]
              clear hF hD
              exact gives_val (by simp only [execOp, evF, h136]; first | rfl | go_simp) ⟨Gr.refl _, rfl⟩
            · intro f w' gG hF hD
              have h135 : f 135 = .bool true := hD 11 135 (by kernel_rfl) rfl
              have h137 : f 137 = .bool false := hD 13 137 (by kernel_rfl) rfl
              rw [if_pos (wanted_none rfl)]
              clear hF hD
              exact gives_val (by simp only [execOp, evF, h135, h137]; first | rfl | go_simp) ⟨Gr.refl _, rfl⟩
          · intro f w' gG hD
            have h138 : f 138 = .bool false := hD 14 138 rfl
            simp only [putAll, List.setIfInBounds_toArray, List.set_cons_zero, List.set_cons_succ, h138]
            clear hD
            have HKE : Hid (Below BN W7 w') := Lib.hid (HKD.out.trans (((below_drewN (Below.refl wc.heap.size wc) 1).trans gG).mono HZC.out.2))
            have HBG3 := Lib.hid (HBG2.out.below ((below_drewN (Below.refl wc.heap.size wc) 1).trans gG))
            have HZE : Hid (BN ≤ w'.heap.size) := Lib.hid (by rw [EBN.out]; exact HKE.out.size)
            clear gG HKD HBG2 HBC HZC HYA HYB
            have HBT := Lib.hid (begA_stay HBF.out rfl)
            go_wp2_with (fail)
            go_roundw
            case rel => exact ⟨k + 1, by omega, by go_num, Lib.hid (by rw [HBT.out]; exact HBG3.out), HKE⟩
            case measure => simp [intOf]; omega
      · cases S
        · go_wp2_with (fail)
          refine wp_region_rw 255 [Rl.eq (.pointer (some ⟨p, 2, none⟩)), Rl.eq (.slice (some ⟨g, o, none⟩) n1 c1), Rl.eq (.int .i64 (k : Int)), Rl.eq (.pointer (some ⟨g, o + k * 6, none⟩)), Rl.eq (.agg #[.int .i32 ya.r, .int .u8 ya.w, .int .u32 ya.fg, .int .u32 ya.bg, .int .u8 ya.at_, .int .u16 ya.ln]), Rl.eq (.pointer (some ⟨q, 2, none⟩)), Rl.eq (.slice (some ⟨g2, o2, none⟩) n1 c), Rl.eq (.int .i64 (k : Int)), Rl.eq (.pointer (some ⟨g2, o2 + k * 6, none⟩)), Rl.eq (.agg #[.int .i32 yb.r, .int .u8 yb.w, .int .u32 yb.fg, .int .u32 yb.bg, .int .u8 yb.at_, .int .u16 yb.ln]), Rl.eq (.bool false), Rl.eq (.bool false), Rl.eq (undef), Rl.eq (undef), Rl.eq (.bool false)] [124, 125, 126, 127, 128, 129, 130, 131, 132, 133, 134, 135, 136, 137, 138] (by kernel_rfl) rfl (by kernel_rfl) (by kernel_rfl) ?_ ?_
          · repeat (first | exact AllFrom.nil_ | (refine AllFrom.cons_ (by rfl) ?_ ?_; rotate_left))
            · intro f w' gG hF hD
              have h2 : f 2 = .pointer (some ⟨p, 0, none⟩) := hF 2 (by kernel_rfl)
              rw [if_pos (wanted_none rfl)]
              clear hF hD
              exact gives_val (by simp only [execOp, evF, h2]; first | rfl | go_simp) ⟨Gr.refl _, rfl⟩
            · intro f w' gG hF hD
              have h124 : f 124 = .pointer (some ⟨p, 2, none⟩) := hD 0 124 (by kernel_rfl) rfl
              rw [if_pos (wanted_none rfl)]
              clear hF hD
              have kb : Below B0 W0 w' := HBC.out.trans (((below_drewN (Below.refl wc.heap.size wc) 1).trans gG).mono HZC.out.1)
              have cl := (HPW.out w' kb).nine.2.2.1
              exact gives_val (by simp only [execOp, evF, h124]; go_simp) ⟨Gr.refl _, rfl⟩
            · intro f w' gG hF hD
              have h9 : f 9 = .int .i64 (k : Int) := hF 9 (by kernel_rfl)
              rw [if_pos (wanted_none rfl)]
              clear hF hD
              exact gives_val (by simp only [execOp, evF, h9]; first | rfl | go_simp) ⟨Gr.refl _, rfl⟩
            · intro f w' gG hF hD
              have h125 : f 125 = .slice (some ⟨g, o, none⟩) n1 c1 := hD 1 125 (by kernel_rfl) rfl
              have h126 : f 126 = .int .i64 (k : Int) := hD 2 126 (by kernel_rfl) rfl
              rw [if_pos (wanted_none rfl)]
              clear hF hD
              exact gives_val (by simp only [execOp, evF, h125, h126]; first | rfl | go_simp) ⟨Gr.refl _, rfl⟩
            · intro f w' gG hF hD
              have h127 : f 127 = .pointer (some ⟨g, o + k * 6, none⟩) := hD 3 127 (by kernel_rfl) rfl
              rw [if_pos (wanted_none rfl)]
              clear hF hD
              have kb : Below B0 W0 w' := HBC.out.trans (((below_drewN (Below.refl wc.heap.size wc) 1).trans gG).mono HZC.out.1)
              obtain ⟨z0, z1, z2, z3, z4, z5⟩ := HYA.out w' kb
              exact gives_val (by simp only [execOp, evF, h127]; go_simp) ⟨Gr.refl _, rfl⟩
            · intro f w' gG hF hD
              have h3 : f 3 = .pointer (some ⟨q, 0, none⟩) := hF 3 (by kernel_rfl)
              rw [if_pos (wanted_none rfl)]
              clear hF hD
              exact gives_val (by simp only [execOp, evF, h3]; first | rfl | go_simp) ⟨Gr.refl _, rfl⟩
            · intro f w' gG hF hD
              have h129 : f 129 = .pointer (some ⟨q, 2, none⟩) := hD 5 129 (by kernel_rfl) rfl
              rw [if_pos (wanted_none rfl)]
              clear hF hD
              have kb : Below B0 W0 w' := HBC.out.trans (((below_drewN (Below.refl wc.heap.size wc) 1).trans gG).mono HZC.out.1)
              have cl := (HQW.out w' kb).nine.2.2.1
              exact gives_val (by simp only [execOp, evF, h129]; go_simp) ⟨Gr.refl _, rfl⟩
            · intro f w' gG hF hD
              have h9 : f 9 = .int .i64 (k : Int) := hF 9 (by kernel_rfl)
              rw [if_pos (wanted_none rfl)]
              clear hF hD
              exact gives_val (by simp only [execOp, evF, h9]; first | rfl | go_simp) ⟨Gr.refl _, rfl⟩
            · intro f w' gG hF hD
              have h130 : f 130 = .slice (some ⟨g2, o2, none⟩) n1 c := hD 6 130 (by kernel_rfl) rfl
              have h131 : f 131 = .int .i64 (k : Int) := hD 7 131 (by kernel_rfl) rfl
              rw [if_pos (wanted_none rfl)]
              clear hF hD
              exact gives_val (by simp only [execOp, evF, h130, h131]; first | rfl | go_simp) ⟨Gr.refl _, rfl⟩
            · intro f w' gG hF hD
              have h132 : f 132 = .pointer (some ⟨g2, o2 + k * 6, none⟩) := hD 8 132 (by kernel_rfl) rfl
              rw [if_pos (wanted_none rfl)]
              clear hF hD
              have kb : Below B0 W0 w' := HBC.out.trans (((below_drewN (Below.refl wc.heap.size wc) 1).trans gG).mono HZC.out.1)
              obtain ⟨z0, z1, z2, z3, z4, z5⟩ := HYB.out w' kb
              exact gives_val (by simp only [execOp, evF, h132]; go_simp) ⟨Gr.refl _, rfl⟩
            · intro f w' gG hF hD
              have h128 : f 128 = .agg #[.int .i32 ya.r, .int .u8 ya.w, .int .u32 ya.fg, .int .u32 ya.bg, .int .u8 ya.at_, .int .u16 ya.ln] := hD 4 128 (by kernel_rfl) rfl
              have h133 : f 133 = .agg #[.int .i32 yb.r, .int .u8 yb.w, .int .u32 yb.fg, .int .u32 yb.bg, .int .u8 yb.at_, .int .u16 yb.ln] := hD 9 133 (by kernel_rfl) rfl
              rw [if_pos (wanted_none rfl)]
              clear hF hD
              have hpe := run_cellNe ya yb
              unfold CeD.val at hpe
              exact gives_val (by simp only [execOp, evF, h128, h133, hpe, EE2.out]; go_simp; try exact EE2.out) ⟨Gr.refl _, rfl⟩
            · intro f w' gG hF hD
              have h134 : f 134 = .bool false := hD 10 134 (by kernel_rfl) rfl
              rw [if_pos (wanted_none rfl)]
              clear hF hD
              exact gives_val (by simp only [execOp, evF, h134]; first | rfl | go_simp) ⟨Gr.refl _, rfl⟩
            · intro f w' gG hF hD
              rw [if_neg (unwanted_some (d := 135) (b := true) rfl rfl (show f 135 = .bool false from hD 11 135 (by kernel_rfl) rfl))]
              exact rfl
            · intro f w' gG hF hD
              rw [if_neg (unwanted_some (d := 135) (b := true) rfl rfl (show f 135 = .bool false from hD 11 135 (by kernel_rfl) rfl))]
              exact rfl
            · intro f w' gG hF hD
              have h135 : f 135 = .bool false := hD 11 135 (by kernel_rfl) rfl
              have h137 : f 137 = undef := hD 13 137 (by kernel_rfl) rfl
              rw [if_pos (wanted_none rfl)]
              clear hF hD
              exact gives_val (by simp only [execOp, evF, h135, h137]; first | rfl | go_simp) ⟨Gr.refl _, rfl⟩
          · intro f w' gG hD
            have h138 : f 138 = .bool false := hD 14 138 rfl
            simp only [putAll, List.setIfInBounds_toArray, List.set_cons_zero, List.set_cons_succ, h138]
            clear hD
            have HKE : Hid (Below BN W7 w') := Lib.hid (HKD.out.trans (((below_drewN (Below.refl wc.heap.size wc) 1).trans gG).mono HZC.out.2))
            have HBG3 := Lib.hid (HBG2.out.below ((below_drewN (Below.refl wc.heap.size wc) 1).trans gG))
            have HZE : Hid (BN ≤ w'.heap.size) := Lib.hid (by rw [EBN.out]; exact HKE.out.size)
            clear gG HKD HBG2 HBC HZC HYA HYB
            have HBT := Lib.hid (begA_stay HBF.out rfl)
            go_wp2_with (fail)
            go_roundw
            case rel => exact ⟨k + 1, by omega, by go_num, Lib.hid (by rw [HBT.out]; exact HBG3.out), HKE⟩
            case measure => simp [intOf]; omega
        · go_wp2_with (fail)
          refine wp_region_rw 255 [Rl.eq (.pointer (some ⟨p, 2, none⟩)), Rl.eq (.slice (some ⟨g, o, none⟩) n1 c1), Rl.eq (.int .i64 (k : Int)), Rl.eq (.pointer (some ⟨g, o + k * 6, none⟩)), Rl.eq (.agg #[.int .i32 ya.r, .int .u8 ya.w, .int .u32 ya.fg, .int .u32 ya.bg, .int .u8 ya.at_, .int .u16 ya.ln]), Rl.eq (.pointer (some ⟨q, 2, none⟩)), Rl.eq (.slice (some ⟨g2, o2, none⟩) n1 c), Rl.eq (.int .i64 (k : Int)), Rl.eq (.pointer (some ⟨g2, o2 + k * 6, none⟩)), Rl.eq (.agg #[.int .i32 yb.r, .int .u8 yb.w, .int .u32 yb.fg, .int .u32 yb.bg, .int .u8 yb.at_, .int .u16 yb.ln]), Rl.eq (.bool false), Rl.eq (.bool false), Rl.eq (undef), Rl.eq (undef), Rl.eq (.bool false)] [124, 125, 126, 127, 128, 129, 130, 131, 132, 133, 134, 135, 136, 137, 138] (by kernel_rfl) rfl (by kernel_rfl) (by kernel_rfl) ?_ ?_
          · repeat (first | exact AllFrom.nil_ | (refine AllFrom.cons_ (by rfl) ?_ ?_; rotate_left))
            · intro f w' gG hF hD
              have h2 : f 2 = .pointer (some ⟨p, 0, none⟩) := hF 2 (by kernel_rfl)
              rw [if_pos (wanted_none rfl)]
              clear hF hD
              exact gives_val (by simp only [execOp, evF, h2]; first | rfl | go_simp) ⟨Gr.refl _, rfl⟩
            · intro f w' gG hF hD
              have h124 : f 124 = .pointer (some ⟨p, 2, none⟩) := hD 0 124 (by kernel_rfl) rfl
              rw [if_pos (wanted_none rfl)]
              clear hF hD
              have kb : Below B0 W0 w' := HBC.out.trans (((below_drewN (Below.refl wc.heap.size wc) 1).trans gG).mono HZC.out.1)
              have cl := (HPW.out w' kb).nine.2.2.1
              exact gives_val (by simp only [execOp, evF, h124]; go_simp) ⟨Gr.refl _, rfl⟩
            · intro f w' gG hF hD
              have h9 : f 9 = .int .i64 (k : Int) := hF 9 (by kernel_rfl)
              rw [if_pos (wanted_none rfl)]
              clear hF hD
              exact gives_val (by simp only [execOp, evF, h9]; first | rfl | go_simp) ⟨Gr.refl _, rfl⟩
            · intro f w' gG hF hD
              have h125 : f 125 = .slice (some ⟨g, o, none⟩) n1 c1 := hD 1 125 (by kernel_rfl) rfl
              have h126 : f 126 = .int .i64 (k : Int) := hD 2 126 (by kernel_rfl) rfl
              rw [if_pos (wanted_none rfl)]
              clear hF hD
              exact gives_val (by simp only [execOp, evF, h125, h126]; first | rfl | go_simp) ⟨Gr.refl _, rfl⟩
            · intro f w' gG hF hD
              have h127 : f 127 = .pointer (some ⟨g, o + k * 6, none⟩) := hD 3 127 (by kernel_rfl) rfl
              rw [if_pos (wanted_none rfl)]
              clear hF hD
              have kb : Below B0 W0 w' := HBC.out.trans (((below_drewN (Below.refl wc.heap.size wc) 1).trans gG).mono HZC.out.1)
              obtain ⟨z0, z1, z2, z3, z4, z5⟩ := HYA.out w' kb
              exact gives_val (by simp only [execOp, evF, h127]; go_simp) ⟨Gr.refl _, rfl⟩
            · intro f w' gG hF hD
              have h3 : f 3 = .pointer (some ⟨q, 0, none⟩) := hF 3 (by kernel_rfl)
              rw [if_pos (wanted_none rfl)]
              clear hF hD
              exact gives_val (by simp only [execOp, evF, h3]; first | rfl | go_simp) ⟨Gr.refl _, rfl⟩
            · intro f w' gG hF hD
              have h129 : f 129 = .pointer (some ⟨q, 2, none⟩) := hD 5 129 (by kernel_rfl) rfl
              rw [if_pos (wanted_none rfl)]
              clear hF hD
              have kb : Below B0 W0 w' := HBC.out.trans (((below_drewN (Below.refl wc.heap.size wc) 1).trans gG).mono HZC.out.1)
              have cl := (HQW.out w' kb).nine.2.2.1
              exact gives_val (by simp only [execOp, evF, h129]; go_simp) ⟨Gr.refl _, rfl⟩
            · intro f w' gG hF hD
              have h9 : f 9 = .int .i64 (k : Int) := hF 9 (by kernel_rfl)
              rw [if_pos (wanted_none rfl)]
              clear hF hD
              exact gives_val (by simp only [execOp, evF, h9]; first | rfl | go_simp) ⟨Gr.refl _, rfl⟩
            · intro f w' gG hF hD
              have h130 : f 130 = .slice (some ⟨g2, o2, none⟩) n1 c := hD 6 130 (by kernel_rfl) rfl
              have h131 : f 131 = .int .i64 (k : Int) := hD 7 131 (by kernel_rfl) rfl
              rw [if_pos (wanted_none rfl)]
              clear hF hD
              exact gives_val (by simp only [execOp, evF, h130, h131]; first | rfl | go_simp) ⟨Gr.refl _, rfl⟩
            · intro f w' gG hF hD
              have h132 : f 132 = .pointer (some ⟨g2, o2 + k * 6, none⟩) := hD 8 132 (by kernel_rfl) rfl
              rw [if_pos (wanted_none rfl)]
              clear hF hD
              have kb : Below B0 W0 w' := HBC.out.trans (((below_drewN (Below.refl wc.heap.size wc) 1).trans gG).mono HZC.out.1)
              obtain ⟨z0, z1, z2, z3, z4, z5⟩ := HYB.out w' kb
              exact gives_val (by simp only [execOp, evF, h132]; go_simp) ⟨Gr.refl _, rfl⟩
            · intro f w' gG hF hD
              have h128 : f 128 = .agg #[.int .i32 ya.r, .int .u8 ya.w, .int .u32 ya.fg, .int .u32 ya.bg, .int .u8 ya.at_, .int .u16 ya.ln] := hD 4 128 (by kernel_rfl) rfl
              have h133 : f 133 = .agg #[.int .i32 yb.r, .int .u8 yb.w, .int .u32 yb.fg, .int .u32 yb.bg, .int .u8 yb.at_, .int .u16 yb.ln] := hD 9 133 (by kernel_rfl) rfl
              rw [if_pos (wanted_none rfl)]
              clear hF hD
              have hpe := run_cellNe ya yb
              unfold CeD.val at hpe
              exact gives_val (by simp only [execOp, evF, h128, h133, hpe, EE2.out]; go_simp; try exact EE2.out) ⟨Gr.refl _, rfl⟩
            · intro f w' gG hF hD
              have h134 : f 134 = .bool false := hD 10 134 (by kernel_rfl) rfl
              rw [if_pos (wanted_none rfl)]
              clear hF hD
              exact gives_val (by simp only [execOp, evF, h134]; first | rfl | go_simp) ⟨Gr.refl _, rfl⟩
            · intro f w' gG hF hD
              rw [if_neg (unwanted_some (d := 135) (b := true) rfl rfl (show f 135 = .bool false from hD 11 135 (by kernel_rfl) rfl))]
              exact rfl
            · intro f w' gG hF hD
              rw [if_neg (unwanted_some (d := 135) (b := true) rfl rfl (show f 135 = .bool false from hD 11 135 (by kernel_rfl) rfl))]
              exact rfl
            · intro f w' gG hF hD
              have h135 : f 135 = .bool false := hD 11 135 (by kernel_rfl) rfl
              have h137 : f 137 = undef := hD 13 137 (by kernel_rfl) rfl
              rw [if_pos (wanted_none rfl)]
              clear hF hD
              exact gives_val (by simp only [execOp, evF, h135, h137]; first | rfl | go_simp) ⟨Gr.refl _, rfl⟩
          · intro f w' gG hD
            have h138 : f 138 = .bool false := hD 14 138 rfl
            simp only [putAll, List.setIfInBounds_toArray, List.set_cons_zero, List.set_cons_succ, h138]
            clear hD
            have HKE : Hid (Below BN W7 w') := Lib.hid (HKD.out.trans (((below_drewN (Below.refl wc.heap.size wc) 1).trans gG).mono HZC.out.2))
            have HBG3 := Lib.hid (HBG2.out.below ((below_drewN (Below.refl wc.heap.size wc) 1).trans gG))
            have HZE : Hid (BN ≤ w'.heap.size) := Lib.hid (by rw [EBN.out]; exact HKE.out.size)
            clear gG HKD HBG2 HBC HZC HYA HYB
            have HBT := Lib.hid (begA_stay HBF.out rfl)
            go_wp2_with (fail)
            go_roundw
            case rel => exact ⟨k + 1, by omega, by go_num, Lib.hid (by rw [HBT.out]; exact HBG3.out), HKE⟩
            case measure => simp [intOf]; omega
    · obtain rfl : n1 = k := by omega
      have hge' : ¬ ((n1 : Int) < (n1 : Int)) := by omega
      obtain ⟨bl, ebl⟩ : ∃ bl, bl = begA a.cells b.cells n1 := ⟨_, rfl⟩
      rw [← ebl] at HBG
      have HRUNS : Hid (celB a b = (if bl.length = 0 then [] else 5 :: (varL bl.length ++ runsL a.cells b.cells 0 bl)) ∧ okL a.cells b.cells 0 bl ∧ bl.length ≤ 1920) := Lib.hid (by
        have e := runs_begA (a := a.cells) (b := b.cells) (by rw [HN.out.2.1, HN.out.2.2])
        rw [HN.out.2.2, ← ebl] at e
        refine ⟨by unfold celB; rw [e.1], e.2, ?_⟩
        rw [ebl]; exact Nat.le_trans (begA_le _ _ _) HN.out.1)
      clear ebl
      have HO7r : Hid (OwnB wr B0 V7 O7) := Lib.hid (HO7.out.below (by rw [← EBN.out]; exact HKR.out))
      have EZF : Hid (O7 ++ celB a b = Z) := Lib.hid (by rw [← EZ.out, EO7.out, EO6.out, EO5.out]; unfold lay17; simp only [List.append_assoc])
      obtain ⟨Ab, cb, ev, RB, FB⟩ := OwnN.form HBG.out
      subst ev
      obtain ⟨K, eK⟩ : ∃ K, K = bl.length := ⟨_, rfl⟩
      rw [← eK]
      rcases Nat.eq_zero_or_pos K with hK0 | hKp
      · have HE : Hid (O7 = Z) := Lib.hid (by rw [← EZF.out, HRUNS.out.1, ← eK, if_pos hK0, List.append_nil])
        have hk0 : (K : Int) = 0 := by omega
        have HOZ : Hid (OwnB wr B0 V7 Z) := Lib.hid (by rw [← HE.out]; exact HO7r.out)
        clear RB FB eK hK0 HBG
        go_wp2_with (fail)
        go_ret
        exact ⟨_, rfl, Own.low HOZ.out HB00.out.1, HB0.out.trans (HB_.out.mono HB00.out.1), by rw [← HE.out]; have := HL7.out; omega⟩
      · obtain ⟨gb, off, eA, -, -⟩ := RB.addr (by rw [List.length_map, ← eK]; exact hKp)
        subst eA
        have hoff : off = 0 := (FB _ rfl).2.2.1
        subst hoff
        have HGB : Hid (BN ≤ gb ∧ gb < wr.heap.size) := Lib.hid ⟨(FB _ rfl).1, (FB _ rfl).2.1⟩
        have HRB2 : Hid (Rd wr (some ⟨gb, 0, none⟩) (bl.map nv)) := Lib.hid RB
        have HU7 : Hid (V7.ownBlock ≠ some gb) := Lib.hid (fun e => by have h1 := (Own.lt HO7.out gb e).2; have h2 := HGB.out.1; rw [EBN.out] at h2; omega)
        have HK19 : Hid (K = bl.length ∧ K ≤ 1920) := Lib.hid ⟨eK, by rw [eK]; exact HRUNS.out.2.2⟩
        obtain ⟨ns, ens⟩ : ∃ ns : List Nat, ns = [K] := ⟨_, rfl⟩
        have HNS : Hid (ns.length = 1 ∧ (∀ x ∈ ns, x < 2 ^ 63) ∧ (varsL ns).length ≤ 10) := Lib.hid (by
          have h1 := HK19.out.2
          have h3 : ∀ x ∈ ns, x < 2 ^ 63 := by
            intro x hx
            rw [ens] at hx
            rw [List.mem_singleton] at hx
            omega
          refine ⟨by rw [ens]; rfl, h3, ?_⟩
          have h4 := varsL_le ns (fun x hx => by have := h3 x hx; unfold U64; omega)
          rw [ens] at h4 ⊢
          simpa using h4)
        have HRLW : Hid (∀ W : World, Rd (W.alloc (.cells #[.int .i64 (K : Int)] 3)) (some ⟨W.heap.size, 0, none⟩) (ns.map nv)) := Lib.hid (fun W => rd_nums W ns _ _ (by rw [ens]; rfl))
        have EZ2 : Hid ((O7 ++ [5]) ++ (varsL ns ++ runsL a.cells b.cells 0 bl) = Z) := Lib.hid (by rw [← EZF.out, HRUNS.out.1, ← eK, if_neg (by omega), ens]; simp [varsL])
        have hk1 : ¬ ((K : Int) = 0) := by omega
        have hk1b : ((K : Int) == 0) = false := by simpa using hk1
        have HOK := Lib.hid HRUNS.out.2.1
        clear ens RB FB eK HBG HKR
        go_wp2_with (first
          | (at_builtin; (refine wpList_appB1 _ rfl (.tmp 148) (.tmp 149) rfl B0 V7 O7 rfl HO7r.out (.int .u8 5) rfl 5 bv_five (by have := HL7.out; omega) HZ_.out.1 ?_); intro v2 w2 h2 hg2 hv2; have hk2 : Below B0 wr w2 := ((Below.refl _ _).alloc HZ_.out.1 _).grown hg2 (Nat.le_trans HZ_.out.1 (by simp)) (fun k e => (Own.lt HO7r.out k e).1); have HO2 : Hid (OwnB w2 B0 v2 (O7 ++ [5])) := Lib.hid h2; have HK2 := Lib.hid (HB_.out.trans hk2); have HS2 := Lib.hid (HSW.out w2 HK2.out); have HR2 := Lib.hid (rd_other (HRB2.out.below ((Below.refl _ _).alloc (Nat.le_refl _) _)) hg2 HU7.out); have HU2 := Lib.hid (ne_other hv2 HU7.out (by have := HGB.out.2; omega)); have HG2 : Hid (gb < w2.heap.size) := Lib.hid (by have h := hg2.size; have := HGB.out.2; simp at h; omega); clear h2 hg2 hk2 hv2)
          | (go_at_call 24; (refine (vars17_c (some ⟨w2.heap.size, 0, none⟩) 1 1 ns _ HNS.out.1 (HRLW.out w2) (by decide) HNS.out.2.1).mono ?_); rintro _ w3 ⟨v3, rfl, ho3, hb3⟩; obtain ⟨A3, c3, rfl, _, _, r3, _⟩ := OwnB.form ho3; have R3 := Lib.hid r3; have ha3 : Below B0 W0 (w2.alloc (.cells #[.int .i64 (K : Int)] 3)) := HK2.out.alloc HS2.out _; have HK3 := Lib.hid (ha3.trans (hb3.mono (HSW.out _ ha3))); have HS3 := Lib.hid (HSW.out w3 HK3.out); have HO3 := Lib.hid ((HO2.out.below ((Below.refl _ _).alloc (Nat.le_refl _) _)).below hb3); have HR3 := Lib.hid ((HR2.out.below ((Below.refl _ _).alloc (Nat.le_refl _) _)).below hb3); have HG3 : Hid (gb < w3.heap.size) := Lib.hid (by have h := hb3.size; have := HG2.out; simp at h; omega); clear ho3 hb3 r3 ha3)
          | (at_builtin; refine wpList_appB _ rfl (.tmp 151) (.tmp 155) rfl B0 v2 (O7 ++ [5]) rfl HO3.out A3 _ c3 (varsL ns) rfl rfl R3.out (by have := HNS.out.2.2; have := HL7.out; simp only [List.length_append, List.length_cons, List.length_nil]; omega) HS3.out ?_; intro v4 w4 h4 hg4 hv4; have HO4 : Hid (OwnB w4 B0 v4 ((O7 ++ [5]) ++ varsL ns)) := Lib.hid h4; have HK4 := Lib.hid (HK3.out.grown hg4 HS3.out (fun q e => (Own.lt HO3.out q e).1)); have HR4 := Lib.hid (rd_other HR3.out hg4 HU2.out); have HU4 := Lib.hid (ne_other hv4 HU2.out HG3.out); clear h4 hg4 hv4))
        have HST : Hid (∃ bs : List UInt8, OwnB w4 B0 v4 bs ∧ bs.length ≤ 200 + 0 * 60 ∧ bs ++ runsL a.cells b.cells 0 (bl.drop 0) = Z ∧ okL a.cells b.cells 0 (bl.drop 0)) := Lib.hid ⟨_, HO4.out, by (have h1 := HL7.out; have h2 := HNS.out.2.2; simp only [List.length_append, List.length_cons, List.length_nil]; omega), by (rw [List.drop_zero, ← EZ2.out]; simp only [List.append_assoc]), HOK.out⟩
        clear HO4 HNS HRLW EZ2 HOK HRUNS hk1 hk1b HO7r HU7 HRB2 HGB HU2 HR2 HG2 HO2 HK2 HS2 HK3 HS3 HO3 HR3 HG3 R3
        go_loopw [5, 11, 159] (fun v hh i wr => ∃ (U : Value) (z h : Nat), U = v ∧ z ≤ K ∧ h ≤ n1 ∧ hh = .int .i64 h ∧ i = .int .i64 z ∧ Hid (∃ bs : List UInt8, OwnB wr B0 U bs ∧ bs.length ≤ 200 + h * 60 ∧ bs ++ runsL a.cells b.cells h (bl.drop z) = Z ∧ okL a.cells b.cells h (bl.drop z)) ∧ Hid (U.ownBlock ≠ some gb) ∧ Hid (Rd wr (some ⟨gb, 0, none⟩) (bl.map nv)) ∧ Hid (Below B0 W0 wr)) (fun _ _ i _ => K - (intOf i).toNat)
        case atStart => exact ⟨_, 0, 0, rfl, Nat.zero_le _, Nat.zero_le _, rfl, rfl, HST, HU4, HR4, HK4⟩
        case round =>
          clear HST HU4 HR4 HK4
          obtain ⟨U, z, h, rfl, hz, hh, rfl, rfl, HST, HU, HR, HK⟩ := hrel
          have HSZ : Hid (B0 ≤ wr.heap.size) := Lib.hid (HSW.out wr HK.out)
          rcases Nat.lt_or_ge z K with zlt | zge
          · have zlt' : (z : Int) < (K : Int) := by omega
            have hzl : z < bl.length := by rw [← HK19.out.1]; exact zlt
            obtain ⟨fr, ef⟩ : ∃ fr, fr = bl[z] := ⟨_, rfl⟩
            have hdr : bl.drop z = fr :: bl.drop (z + 1) := by rw [ef]; exact List.drop_eq_getElem_cons hzl
            obtain ⟨gb', off', e1, hgl, hcs⟩ := HR.out.addr (by rw [List.length_map]; omega)
            injection e1 with e1
            injection e1 with e1 e2
            subst e1 e2
            have HGB : Hid (gb < wr.heap.size) := Lib.hid hgl
            have hc : wr.cell? ⟨gb, 0 + z, none⟩ = some (.int .i64 (fr : Int)) := by
              have h := hcs z (by rw [List.length_map]; exact hzl)
              rw [List.getElem_map, ← ef] at h
              exact h
            rw [Nat.zero_add] at hc
            obtain ⟨y, ey⟩ : ∃ y, y = atC b.cells fr := ⟨_, rfl⟩
            obtain ⟨T', eT'⟩ : ∃ T', endG y a.cells b.cells (fr + 1) = T' := ⟨_, rfl⟩
            have HST2 : Hid (∃ bs : List UInt8, OwnB wr B0 U bs ∧ bs.length ≤ 200 + h * 60 ∧ bs ++ (runB (fr - h) y ((b.cells.drop fr).take (T' - fr)) ++ runsL a.cells b.cells T' (bl.drop (z + 1))) = Z ∧ h ≤ fr ∧ fr < n1 ∧ cellEq (atC a.cells fr) y = false ∧ okL a.cells b.cells T' (bl.drop (z + 1))) := Lib.hid (by
              obtain ⟨bs, q1, q2, q3, q4⟩ := HST.out
              rw [hdr] at q3 q4
              simp only [runsL, okL, ← ey, eT'] at q3 q4
              exact ⟨bs, q1, q2, q3, q4.1, by rw [← HN.out.2.2]; exact q4.2.1, q4.2.2.1, q4.2.2.2⟩)
            obtain ⟨bs, hbs, hbl, hbz, hhf, hfn, hfe, hok⟩ := HST2.out
            have HBS := Lib.hid hbs
            have HBL := Lib.hid hbl
            have HBZ := Lib.hid hbz
            have HOK := Lib.hid hok
            have hle := endG_le y a.cells b.cells (fr + 1) (by rw [HN.out.2.2]; exact hfn)
            rw [eT', HN.out.2.2] at hle
            obtain ⟨N, eN⟩ : ∃ N, N = T' - fr := ⟨_, rfl⟩
            have HTN : Hid (fr + N = T' ∧ 1 ≤ N ∧ T' ≤ n1 ∧ N ≤ 1920) := Lib.hid (by omega)
            have HT0 : Hid (endG y a.cells b.cells fr = T') := Lib.hid (by
              have ha2 : fr < a.cells.length := by rw [HN.out.2.1]; exact hfn
              have hb2 : fr < b.cells.length := by rw [HN.out.2.2]; exact hfn
              rw [endG_go (p := y) hb2 ha2 (by rw [← atC_eq hb2, ← atC_eq ha2, ← ey]; exact hfe) (by rw [← atC_eq hb2, ← ey]; simp [penEq]), eT'])
            have HYC : Hid (∀ W, Below B0 W0 W → CellsAt W g2 (o2 + fr * 6) y) := Lib.hid (fun W hW => by rw [ey]; exact HCBW.out W hW fr hfn)
            have HYM : Hid (CeOk y ∧ 0 ≤ y.r ∧ y.r ≤ 1114111) := Lib.hid (by
              have hb2 : fr < b.cells.length := by rw [HN.out.2.2]; exact hfn
              exact HCE.out y (by rw [ey, atC_eq hb2]; exact List.getElem_mem hb2))
            rw [← eN] at HBZ
            clear HST HST2 hbs hbl hbz hok hle eN eT' ey hfe hcs hgl hdr ef hzl
            go_upto_region 31 with (fail)
            clear hc zlt'
            obtain ⟨wo, ewo⟩ : ∃ x, x = wr := ⟨_, rfl⟩
            subst ewo
            go_upto_block 4 with (fail)
            go_cut [14] from 160 to 208 (fun t wx => t = .int .i64 (N : Int) ∧ Hid (Below wo.heap.size wo wx))
            case first => as_aux_lemma =>
              go_wp2_with (fail)
              go_loopw [14] (fun t w2 => ∃ j : Nat, fr + j ≤ n1 ∧ t = .int .i64 j ∧ Hid (endG y a.cells b.cells (fr + j) = T') ∧ Hid (Below wo.heap.size wo w2)) (fun t _ => n1 - fr - (intOf t).toNat)
              case atStart => exact ⟨0, by omega, rfl, HT0, Lib.hid (Below.refl _ _)⟩
              case round =>
                obtain ⟨j, hj, rfl, HZ, HKJ⟩ := hrel
                have HK2 : Hid (Below B0 W0 wr) := Lib.hid (HK.out.trans (HKJ.out.mono HSZ.out))
                have HS2 : Hid (B0 ≤ wr.heap.size) := Lib.hid (HSW.out wr HK2.out)
                obtain ⟨m, em⟩ : ∃ m : Nat, m = fr + j := ⟨_, rfl⟩
                have hfj : (fr : Int) + (j : Int) = (m : Int) := by omega
                have hwm : IntKind.i64.wrap (m : Int) = (m : Int) := IntWalk.i64_in _ ⟨by omega, by omega⟩
                rw [← em] at HZ
                rcases Nat.lt_or_ge m n1 with mlt | mge
                · have ha2 : m < a.cells.length := by rw [HN.out.2.1]; exact mlt
                  have hb2 : m < b.cells.length := by rw [HN.out.2.2]; exact mlt
                  have mlt' : decide ((m : Int) < (n1 : Int)) = true := decide_eq_true (by omega)
                  obtain ⟨u, eu⟩ : ∃ u, u = atC a.cells m := ⟨_, rfl⟩
                  obtain ⟨v, ev⟩ : ∃ v, v = atC b.cells m := ⟨_, rfl⟩
                  have HCU : Hid (∀ W, Below B0 W0 W → CellsAt W g (o + m * 6) u) := Lib.hid (fun W hW => by rw [eu]; exact HCAW.out W hW m mlt)
                  have HCV : Hid (∀ W, Below B0 W0 W → CellsAt W g2 (o2 + m * 6) v) := Lib.hid (fun W hW => by rw [ev]; exact HCBW.out W hW m mlt)
                  rw [atC_eq ha2] at eu
                  rw [atC_eq hb2] at ev
                  obtain ⟨E, eE⟩ : ∃ E, cellEq u v = E := ⟨_, rfl⟩
                  obtain ⟨Q, eQ⟩ : ∃ Q, penEq v y = Q := ⟨_, rfl⟩
                  have EU := Lib.hid eE
                  have EV := Lib.hid eQ
                  cases E
                  · cases Q
                    · have HJN : Hid (j = N) := Lib.hid (by have h := HZ.out; rw [endG_pen (p := y) hb2 ha2 (by rw [← ev]; exact eQ)] at h; have := HTN.out.1; omega)
                      clear eu ev eE eQ ha2 hb2 HZ em
                      go_wp2_with (fail)
                      refine wp_region_rw 255 [Rl.eq (.int .i64 (fr : Int)), Rl.eq (.int .i64 (j : Int)), Rl.eq (.int .i64 (m : Int)), Rl.eq (.pointer (some ⟨q, 2, none⟩)), Rl.eq (.slice (some ⟨g2, o2, none⟩) n1 c), Rl.eq (.int .i64 (n1 : Int)), Rl.eq (.bool true), Rl.eq (.bool true), Rl.eq (.pointer (some ⟨p, 2, none⟩)), Rl.eq (.slice (some ⟨g, o, none⟩) n1 c1), Rl.eq (.int .i64 (fr : Int)), Rl.eq (.int .i64 (j : Int)), Rl.eq (.int .i64 (m : Int)), Rl.eq (.pointer (some ⟨g, o + m * 6, none⟩)), Rl.eq (.agg #[.int .i32 u.r, .int .u8 u.w, .int .u32 u.fg, .int .u32 u.bg, .int .u8 u.at_, .int .u16 u.ln]), Rl.eq (.pointer (some ⟨q, 2, none⟩)), Rl.eq (.slice (some ⟨g2, o2, none⟩) n1 c), Rl.eq (.int .i64 (fr : Int)), Rl.eq (.int .i64 (j : Int)), Rl.eq (.int .i64 (m : Int)), Rl.eq (.pointer (some ⟨g2, o2 + m * 6, none⟩)), Rl.eq (.agg #[.int .i32 v.r, .int .u8 v.w, .int .u32 v.fg, .int .u32 v.bg, .int .u8 v.at_, .int .u16 v.ln]), Rl.eq (.bool true), Rl.eq (.bool true), Rl.eq (.bool true), Rl.eq (.pointer (some ⟨q, 2, none⟩)), Rl.eq (.slice (some ⟨g2, o2, none⟩) n1 c), Rl.eq (.int .i64 (fr : Int)), Rl.eq (.int .i64 (j : Int)), Rl.eq (.int .i64 (m : Int)), Rl.eq (.pointer (some ⟨g2, o2 + m * 6, none⟩)), Rl.eq (.pointer (some ⟨g2, o2 + m * 6 + 2, none⟩)), Rl.eq (.agg #[.int .u32 v.fg, .int .u32 v.bg, .int .u8 v.at_, .int .u16 v.ln]), Rl.eq (.pointer (some ⟨q, 2, none⟩)), Rl.eq (.slice (some ⟨g2, o2, none⟩) n1 c), Rl.eq (.int .i64 (fr : Int)), Rl.eq (.pointer (some ⟨g2, o2 + fr * 6, none⟩)), Rl.eq (.pointer (some ⟨g2, o2 + fr * 6 + 2, none⟩)), Rl.eq (.agg #[.int .u32 y.fg, .int .u32 y.bg, .int .u8 y.at_, .int .u16 y.ln]), Rl.eq (.bool false), Rl.eq (.bool false)] [166, 167, 168, 169, 170, 171, 172, 173, 174, 175, 176, 177, 178, 179, 180, 181, 182, 183, 184, 185, 186, 187, 188, 189, 190, 191, 192, 193, 194, 195, 196, 197, 198, 199, 200, 201, 202, 203, 204, 205, 206] (by kernel_rfl) rfl (by kernel_rfl) (by kernel_rfl) ?_ ?_
                      · repeat (first | exact AllFrom.nil_ | (refine AllFrom.cons_ (by rfl) ?_ ?_; rotate_left))
                        · intro f w' gG hF hD
                          have h13 : f 13 = .int .i64 (fr : Int) := hF 13 (by kernel_rfl)
                          rw [if_pos (wanted_none rfl)]
                          clear hF hD
                          exact gives_val (by simp only [execOp, evF, h13]; first | rfl | go_simp) ⟨Gr.refl _, rfl⟩
                        · intro f w' gG hF hD
                          have h14 : f 14 = .int .i64 (j : Int) := hF 14 (by kernel_rfl)
                          rw [if_pos (wanted_none rfl)]
                          clear hF hD
                          exact gives_val (by simp only [execOp, evF, h14]; first | rfl | go_simp) ⟨Gr.refl _, rfl⟩
                        · intro f w' gG hF hD
                          have h166 : f 166 = .int .i64 (fr : Int) := hD 0 166 (by kernel_rfl) rfl
                          have h167 : f 167 = .int .i64 (j : Int) := hD 1 167 (by kernel_rfl) rfl
                          rw [if_pos (wanted_none rfl)]
                          clear hF hD
                          exact gives_val (by simp only [execOp, evF, h166, h167]; first | rfl | go_simp) ⟨Gr.refl _, rfl⟩
                        · intro f w' gG hF hD
                          have h3 : f 3 = .pointer (some ⟨q, 0, none⟩) := hF 3 (by kernel_rfl)
                          rw [if_pos (wanted_none rfl)]
                          clear hF hD
                          exact gives_val (by simp only [execOp, evF, h3]; first | rfl | go_simp) ⟨Gr.refl _, rfl⟩
                        · intro f w' gG hF hD
                          have h169 : f 169 = .pointer (some ⟨q, 2, none⟩) := hD 3 169 (by kernel_rfl) rfl
                          rw [if_pos (wanted_none rfl)]
                          clear hF hD
                          have kb : Below B0 W0 w' := HK2.out.trans (((below_drewN (Below.refl wr.heap.size wr) 1).trans gG).mono HS2.out)
                          have cl := (HQW.out w' kb).nine.2.2.1
                          exact gives_val (by simp only [execOp, evF, h169]; go_simp) ⟨Gr.refl _, rfl⟩
                        · intro f w' gG hF hD
                          have h170 : f 170 = .slice (some ⟨g2, o2, none⟩) n1 c := hD 4 170 (by kernel_rfl) rfl
                          rw [if_pos (wanted_none rfl)]
                          clear hF hD
                          exact gives_val (by unfold execOp; simp only [resolve, invoke, builtin, Sem.run_bind, Sem.run_pure, Result.andThen_ok, List.map_toArray, List.map_cons, List.map_nil, evF, h170]; first | rfl | go_simp) ⟨Gr.refl _, rfl⟩
                        · intro f w' gG hF hD
                          have h168 : f 168 = .int .i64 (m : Int) := hD 2 168 (by kernel_rfl) rfl
                          have h171 : f 171 = .int .i64 (n1 : Int) := hD 5 171 (by kernel_rfl) rfl
                          rw [if_pos (wanted_none rfl)]
                          clear hF hD
                          exact gives_val (by simp only [execOp, evF, h168, h171]; first | rfl | go_simp) ⟨Gr.refl _, rfl⟩
                        · intro f w' gG hF hD
                          have h172 : f 172 = .bool true := hD 6 172 (by kernel_rfl) rfl
                          rw [if_pos (wanted_none rfl)]
                          clear hF hD
                          exact gives_val (by simp only [execOp, evF, h172]; first | rfl | go_simp) ⟨Gr.refl _, rfl⟩
                        · intro f w' gG hF hD
                          have h2 : f 2 = .pointer (some ⟨p, 0, none⟩) := hF 2 (by kernel_rfl)
                          rw [if_pos (wanted_some (d := 173) rfl rfl (hD 7 173 (by kernel_rfl) rfl))]
                          clear hF hD
                          exact gives_val (by simp only [execOp, evF, h2]; first | rfl | go_simp) ⟨Gr.refl _, rfl⟩
                        · intro f w' gG hF hD
                          have h174 : f 174 = .pointer (some ⟨p, 2, none⟩) := hD 8 174 (by kernel_rfl) rfl
                          rw [if_pos (wanted_some (d := 173) rfl rfl (hD 7 173 (by kernel_rfl) rfl))]
                          clear hF hD
                          have kb : Below B0 W0 w' := HK2.out.trans (((below_drewN (Below.refl wr.heap.size wr) 1).trans gG).mono HS2.out)
                          have cl := (HPW.out w' kb).nine.2.2.1
                          exact gives_val (by simp only [execOp, evF, h174]; go_simp) ⟨Gr.refl _, rfl⟩
                        · intro f w' gG hF hD
                          have h13 : f 13 = .int .i64 (fr : Int) := hF 13 (by kernel_rfl)
                          rw [if_pos (wanted_some (d := 173) rfl rfl (hD 7 173 (by kernel_rfl) rfl))]
                          clear hF hD
                          exact gives_val (by simp only [execOp, evF, h13]; first | rfl | go_simp) ⟨Gr.refl _, rfl⟩
                        · intro f w' gG hF hD
                          have h14 : f 14 = .int .i64 (j : Int) := hF 14 (by kernel_rfl)
                          rw [if_pos (wanted_some (d := 173) rfl rfl (hD 7 173 (by kernel_rfl) rfl))]
                          clear hF hD
                          exact gives_val (by simp only [execOp, evF, h14]; first | rfl | go_simp) ⟨Gr.refl _, rfl⟩
                        · intro f w' gG hF hD
                          have h176 : f 176 = .int .i64 (fr : Int) := hD 10 176 (by kernel_rfl) rfl
                          have h177 : f 177 = .int .i64 (j : Int) := hD 11 177 (by kernel_rfl) rfl
                          rw [if_pos (wanted_some (d := 173) rfl rfl (hD 7 173 (by kernel_rfl) rfl))]
                          clear hF hD
                          exact gives_val (by simp only [execOp, evF, h176, h177]; first | rfl | go_simp) ⟨Gr.refl _, rfl⟩
                        · intro f w' gG hF hD
                          have h175 : f 175 = .slice (some ⟨g, o, none⟩) n1 c1 := hD 9 175 (by kernel_rfl) rfl
                          have h178 : f 178 = .int .i64 (m : Int) := hD 12 178 (by kernel_rfl) rfl
                          rw [if_pos (wanted_some (d := 173) rfl rfl (hD 7 173 (by kernel_rfl) rfl))]
                          clear hF hD
                          exact gives_val (by simp only [execOp, evF, h175, h178]; first | rfl | go_simp) ⟨Gr.refl _, rfl⟩
                        · intro f w' gG hF hD
                          have h179 : f 179 = .pointer (some ⟨g, o + m * 6, none⟩) := hD 13 179 (by kernel_rfl) rfl
                          rw [if_pos (wanted_some (d := 173) rfl rfl (hD 7 173 (by kernel_rfl) rfl))]
                          clear hF hD
                          have kb : Below B0 W0 w' := HK2.out.trans (((below_drewN (Below.refl wr.heap.size wr) 1).trans gG).mono HS2.out)
                          obtain ⟨z0, z1, z2, z3, z4, z5⟩ := HCU.out w' kb
                          exact gives_val (by simp only [execOp, evF, h179]; go_simp) ⟨Gr.refl _, rfl⟩
                        · intro f w' gG hF hD
                          have h3 : f 3 = .pointer (some ⟨q, 0, none⟩) := hF 3 (by kernel_rfl)
                          rw [if_pos (wanted_some (d := 173) rfl rfl (hD 7 173 (by kernel_rfl) rfl))]
                          clear hF hD
                          exact gives_val (by simp only [execOp, evF, h3]; first | rfl | go_simp) ⟨Gr.refl _, rfl⟩
                        · intro f w' gG hF hD
                          have h181 : f 181 = .pointer (some ⟨q, 2, none⟩) := hD 15 181 (by kernel_rfl) rfl
                          rw [if_pos (wanted_some (d := 173) rfl rfl (hD 7 173 (by kernel_rfl) rfl))]
                          clear hF hD
                          have kb : Below B0 W0 w' := HK2.out.trans (((below_drewN (Below.refl wr.heap.size wr) 1).trans gG).mono HS2.out)
                          have cl := (HQW.out w' kb).nine.2.2.1
                          exact gives_val (by simp only [execOp, evF, h181]; go_simp) ⟨Gr.refl _, rfl⟩
                        · intro f w' gG hF hD
                          have h13 : f 13 = .int .i64 (fr : Int) := hF 13 (by kernel_rfl)
                          rw [if_pos (wanted_some (d := 173) rfl rfl (hD 7 173 (by kernel_rfl) rfl))]
                          clear hF hD
                          exact gives_val (by simp only [execOp, evF, h13]; first | rfl | go_simp) ⟨Gr.refl _, rfl⟩
                        · intro f w' gG hF hD
                          have h14 : f 14 = .int .i64 (j : Int) := hF 14 (by kernel_rfl)
                          rw [if_pos (wanted_some (d := 173) rfl rfl (hD 7 173 (by kernel_rfl) rfl))]
                          clear hF hD
                          exact gives_val (by simp only [execOp, evF, h14]; first | rfl | go_simp) ⟨Gr.refl _, rfl⟩
                        · intro f w' gG hF hD
                          have h183 : f 183 = .int .i64 (fr : Int) := hD 17 183 (by kernel_rfl) rfl
                          have h184 : f 184 = .int .i64 (j : Int) := hD 18 184 (by kernel_rfl) rfl
                          rw [if_pos (wanted_some (d := 173) rfl rfl (hD 7 173 (by kernel_rfl) rfl))]
                          clear hF hD
                          exact gives_val (by simp only [execOp, evF, h183, h184]; first | rfl | go_simp) ⟨Gr.refl _, rfl⟩
                        · intro f w' gG hF hD
                          have h182 : f 182 = .slice (some ⟨g2, o2, none⟩) n1 c := hD 16 182 (by kernel_rfl) rfl
                          have h185 : f 185 = .int .i64 (m : Int) := hD 19 185 (by kernel_rfl) rfl
                          rw [if_pos (wanted_some (d := 173) rfl rfl (hD 7 173 (by kernel_rfl) rfl))]
                          clear hF hD
                          exact gives_val (by simp only [execOp, evF, h182, h185]; first | rfl | go_simp) ⟨Gr.refl _, rfl⟩
                        · intro f w' gG hF hD
                          have h186 : f 186 = .pointer (some ⟨g2, o2 + m * 6, none⟩) := hD 20 186 (by kernel_rfl) rfl
                          rw [if_pos (wanted_some (d := 173) rfl rfl (hD 7 173 (by kernel_rfl) rfl))]
                          clear hF hD
                          have kb : Below B0 W0 w' := HK2.out.trans (((below_drewN (Below.refl wr.heap.size wr) 1).trans gG).mono HS2.out)
                          obtain ⟨z0, z1, z2, z3, z4, z5⟩ := HCV.out w' kb
                          exact gives_val (by simp only [execOp, evF, h186]; go_simp) ⟨Gr.refl _, rfl⟩
                        · intro f w' gG hF hD
                          have h180 : f 180 = .agg #[.int .i32 u.r, .int .u8 u.w, .int .u32 u.fg, .int .u32 u.bg, .int .u8 u.at_, .int .u16 u.ln] := hD 14 180 (by kernel_rfl) rfl
                          have h187 : f 187 = .agg #[.int .i32 v.r, .int .u8 v.w, .int .u32 v.fg, .int .u32 v.bg, .int .u8 v.at_, .int .u16 v.ln] := hD 21 187 (by kernel_rfl) rfl
                          rw [if_pos (wanted_some (d := 173) rfl rfl (hD 7 173 (by kernel_rfl) rfl))]
                          clear hF hD
                          have hpe := run_cellNe u v
                          unfold CeD.val at hpe
                          exact gives_val (by simp only [execOp, evF, h180, h187, hpe, EU.out]; go_simp; try exact EU.out) ⟨Gr.refl _, rfl⟩
                        · intro f w' gG hF hD
                          have h173 : f 173 = .bool true := hD 7 173 (by kernel_rfl) rfl
                          have h188 : f 188 = .bool true := hD 22 188 (by kernel_rfl) rfl
                          rw [if_pos (wanted_none rfl)]
                          clear hF hD
                          exact gives_val (by simp only [execOp, evF, h173, h188]; first | rfl | go_simp) ⟨Gr.refl _, rfl⟩
                        · intro f w' gG hF hD
                          have h189 : f 189 = .bool true := hD 23 189 (by kernel_rfl) rfl
                          rw [if_pos (wanted_none rfl)]
                          clear hF hD
                          exact gives_val (by simp only [execOp, evF, h189]; first | rfl | go_simp) ⟨Gr.refl _, rfl⟩
                        · intro f w' gG hF hD
                          have h3 : f 3 = .pointer (some ⟨q, 0, none⟩) := hF 3 (by kernel_rfl)
                          rw [if_pos (wanted_some (d := 190) rfl rfl (hD 24 190 (by kernel_rfl) rfl))]
                          clear hF hD
                          exact gives_val (by simp only [execOp, evF, h3]; first | rfl | go_simp) ⟨Gr.refl _, rfl⟩
                        · intro f w' gG hF hD
                          have h191 : f 191 = .pointer (some ⟨q, 2, none⟩) := hD 25 191 (by kernel_rfl) rfl
                          rw [if_pos (wanted_some (d := 190) rfl rfl (hD 24 190 (by kernel_rfl) rfl))]
                          clear hF hD
                          have kb : Below B0 W0 w' := HK2.out.trans (((below_drewN (Below.refl wr.heap.size wr) 1).trans gG).mono HS2.out)
                          have cl := (HQW.out w' kb).nine.2.2.1
                          exact gives_val (by simp only [execOp, evF, h191]; go_simp) ⟨Gr.refl _, rfl⟩
                        · intro f w' gG hF hD
                          have h13 : f 13 = .int .i64 (fr : Int) := hF 13 (by kernel_rfl)
                          rw [if_pos (wanted_some (d := 190) rfl rfl (hD 24 190 (by kernel_rfl) rfl))]
                          clear hF hD
                          exact gives_val (by simp only [execOp, evF, h13]; first | rfl | go_simp) ⟨Gr.refl _, rfl⟩
                        · intro f w' gG hF hD
                          have h14 : f 14 = .int .i64 (j : Int) := hF 14 (by kernel_rfl)
                          rw [if_pos (wanted_some (d := 190) rfl rfl (hD 24 190 (by kernel_rfl) rfl))]
                          clear hF hD
                          exact gives_val (by simp only [execOp, evF, h14]; first | rfl | go_simp) ⟨Gr.refl _, rfl⟩
                        · intro f w' gG hF hD
                          have h193 : f 193 = .int .i64 (fr : Int) := hD 27 193 (by kernel_rfl) rfl
                          have h194 : f 194 = .int .i64 (j : Int) := hD 28 194 (by kernel_rfl) rfl
                          rw [if_pos (wanted_some (d := 190) rfl rfl (hD 24 190 (by kernel_rfl) rfl))]
                          clear hF hD
                          exact gives_val (by simp only [execOp, evF, h193, h194]; first | rfl | go_simp) ⟨Gr.refl _, rfl⟩
                        · intro f w' gG hF hD
                          have h192 : f 192 = .slice (some ⟨g2, o2, none⟩) n1 c := hD 26 192 (by kernel_rfl) rfl
                          have h195 : f 195 = .int .i64 (m : Int) := hD 29 195 (by kernel_rfl) rfl
                          rw [if_pos (wanted_some (d := 190) rfl rfl (hD 24 190 (by kernel_rfl) rfl))]
                          clear hF hD
                          exact gives_val (by simp only [execOp, evF, h192, h195]; first | rfl | go_simp) ⟨Gr.refl _, rfl⟩
                        · intro f w' gG hF hD
                          have h196 : f 196 = .pointer (some ⟨g2, o2 + m * 6, none⟩) := hD 30 196 (by kernel_rfl) rfl
                          rw [if_pos (wanted_some (d := 190) rfl rfl (hD 24 190 (by kernel_rfl) rfl))]
                          clear hF hD
                          exact gives_val (by simp only [execOp, evF, h196]; first | rfl | go_simp) ⟨Gr.refl _, rfl⟩
                        · intro f w' gG hF hD
                          have h197 : f 197 = .pointer (some ⟨g2, o2 + m * 6 + 2, none⟩) := hD 31 197 (by kernel_rfl) rfl
                          rw [if_pos (wanted_some (d := 190) rfl rfl (hD 24 190 (by kernel_rfl) rfl))]
                          clear hF hD
                          have kb : Below B0 W0 w' := HK2.out.trans (((below_drewN (Below.refl wr.heap.size wr) 1).trans gG).mono HS2.out)
                          obtain ⟨z0, z1, z2, z3, z4, z5⟩ := HCV.out w' kb
                          exact gives_val (by simp only [execOp, evF, h197]; go_simp) ⟨Gr.refl _, rfl⟩
                        · intro f w' gG hF hD
                          have h3 : f 3 = .pointer (some ⟨q, 0, none⟩) := hF 3 (by kernel_rfl)
                          rw [if_pos (wanted_some (d := 190) rfl rfl (hD 24 190 (by kernel_rfl) rfl))]
                          clear hF hD
                          exact gives_val (by simp only [execOp, evF, h3]; first | rfl | go_simp) ⟨Gr.refl _, rfl⟩
                        · intro f w' gG hF hD
                          have h199 : f 199 = .pointer (some ⟨q, 2, none⟩) := hD 33 199 (by kernel_rfl) rfl
                          rw [if_pos (wanted_some (d := 190) rfl rfl (hD 24 190 (by kernel_rfl) rfl))]
                          clear hF hD
                          have kb : Below B0 W0 w' := HK2.out.trans (((below_drewN (Below.refl wr.heap.size wr) 1).trans gG).mono HS2.out)
                          have cl := (HQW.out w' kb).nine.2.2.1
                          exact gives_val (by simp only [execOp, evF, h199]; go_simp) ⟨Gr.refl _, rfl⟩
                        · intro f w' gG hF hD
                          have h13 : f 13 = .int .i64 (fr : Int) := hF 13 (by kernel_rfl)
                          rw [if_pos (wanted_some (d := 190) rfl rfl (hD 24 190 (by kernel_rfl) rfl))]
                          clear hF hD
                          exact gives_val (by simp only [execOp, evF, h13]; first | rfl | go_simp) ⟨Gr.refl _, rfl⟩
                        · intro f w' gG hF hD
                          have h200 : f 200 = .slice (some ⟨g2, o2, none⟩) n1 c := hD 34 200 (by kernel_rfl) rfl
                          have h201 : f 201 = .int .i64 (fr : Int) := hD 35 201 (by kernel_rfl) rfl
                          rw [if_pos (wanted_some (d := 190) rfl rfl (hD 24 190 (by kernel_rfl) rfl))]
                          clear hF hD
                          exact gives_val (by simp only [execOp, evF, h200, h201]; first | rfl | go_simp) ⟨Gr.refl _, rfl⟩
                        · intro f w' gG hF hD
                          have h202 : f 202 = .pointer (some ⟨g2, o2 + fr * 6, none⟩) := hD 36 202 (by kernel_rfl) rfl
                          rw [if_pos (wanted_some (d := 190) rfl rfl (hD 24 190 (by kernel_rfl) rfl))]
                          clear hF hD
                          exact gives_val (by simp only [execOp, evF, h202]; first | rfl | go_simp) ⟨Gr.refl _, rfl⟩
                        · intro f w' gG hF hD
                          have h203 : f 203 = .pointer (some ⟨g2, o2 + fr * 6 + 2, none⟩) := hD 37 203 (by kernel_rfl) rfl
                          rw [if_pos (wanted_some (d := 190) rfl rfl (hD 24 190 (by kernel_rfl) rfl))]
                          clear hF hD
                          have kb : Below B0 W0 w' := HK2.out.trans (((below_drewN (Below.refl wr.heap.size wr) 1).trans gG).mono HS2.out)
                          obtain ⟨z0, z1, z2, z3, z4, z5⟩ := HYC.out w' kb
                          exact gives_val (by simp only [execOp, evF, h203]; go_simp) ⟨Gr.refl _, rfl⟩
                        · intro f w' gG hF hD
                          have h198 : f 198 = .agg #[.int .u32 v.fg, .int .u32 v.bg, .int .u8 v.at_, .int .u16 v.ln] := hD 32 198 (by kernel_rfl) rfl
                          have h204 : f 204 = .agg #[.int .u32 y.fg, .int .u32 y.bg, .int .u8 y.at_, .int .u16 y.ln] := hD 38 204 (by kernel_rfl) rfl
                          rw [if_pos (wanted_some (d := 190) rfl rfl (hD 24 190 (by kernel_rfl) rfl))]
                          clear hF hD
                          have hpe := run_penEq v y
                          unfold CeD.pen at hpe
                          exact gives_val (by simp only [execOp, evF, h198, h204, hpe, EV.out]; go_simp; try exact EV.out) ⟨Gr.refl _, rfl⟩
                        · intro f w' gG hF hD
                          have h190 : f 190 = .bool true := hD 24 190 (by kernel_rfl) rfl
                          have h205 : f 205 = .bool false := hD 39 205 (by kernel_rfl) rfl
                          rw [if_pos (wanted_none rfl)]
                          clear hF hD
                          exact gives_val (by simp only [execOp, evF, h190, h205]; first | rfl | go_simp) ⟨Gr.refl _, rfl⟩
                      · intro f w' gG hD
                        have h206 : f 206 = .bool false := hD 40 206 rfl
                        simp only [putAll, List.setIfInBounds_toArray, List.set_cons_zero, List.set_cons_succ, h206]
                        clear hD
                        have HFIN2 : Hid (Below wo.heap.size wo w') := Lib.hid (HKJ.out.trans (Below.mono ((below_drewN (Below.refl wr.heap.size wr) 1).trans gG) HKJ.out.size))
                        clear gG
                        go_wp2_with (fail)
                        go_meet
                        exact ⟨by rw [← HJN.out], HFIN2⟩
                    · have HZ2 : Hid (endG y a.cells b.cells (fr + (j + 1)) = T') := Lib.hid (by have h := HZ.out; rw [endG_go (p := y) hb2 ha2 (by rw [← ev, ← eu]; exact eE) (by rw [← ev]; exact eQ)] at h; rw [← Nat.add_assoc, ← em]; exact h)
                      clear eu ev eE eQ ha2 hb2 HZ em
                      go_upto_region 32 with (fail)
                      refine wp_region_rw 255 [Rl.eq (.int .i64 (fr : Int)), Rl.eq (.int .i64 (j : Int)), Rl.eq (.int .i64 (m : Int)), Rl.eq (.pointer (some ⟨q, 2, none⟩)), Rl.eq (.slice (some ⟨g2, o2, none⟩) n1 c), Rl.eq (.int .i64 (n1 : Int)), Rl.eq (.bool true), Rl.eq (.bool true), Rl.eq (.pointer (some ⟨p, 2, none⟩)), Rl.eq (.slice (some ⟨g, o, none⟩) n1 c1), Rl.eq (.int .i64 (fr : Int)), Rl.eq (.int .i64 (j : Int)), Rl.eq (.int .i64 (m : Int)), Rl.eq (.pointer (some ⟨g, o + m * 6, none⟩)), Rl.eq (.agg #[.int .i32 u.r, .int .u8 u.w, .int .u32 u.fg, .int .u32 u.bg, .int .u8 u.at_, .int .u16 u.ln]), Rl.eq (.pointer (some ⟨q, 2, none⟩)), Rl.eq (.slice (some ⟨g2, o2, none⟩) n1 c), Rl.eq (.int .i64 (fr : Int)), Rl.eq (.int .i64 (j : Int)), Rl.eq (.int .i64 (m : Int)), Rl.eq (.pointer (some ⟨g2, o2 + m * 6, none⟩)), Rl.eq (.agg #[.int .i32 v.r, .int .u8 v.w, .int .u32 v.fg, .int .u32 v.bg, .int .u8 v.at_, .int .u16 v.ln]), Rl.eq (.bool true), Rl.eq (.bool true), Rl.eq (.bool true), Rl.eq (.pointer (some ⟨q, 2, none⟩)), Rl.eq (.slice (some ⟨g2, o2, none⟩) n1 c), Rl.eq (.int .i64 (fr : Int)), Rl.eq (.int .i64 (j : Int)), Rl.eq (.int .i64 (m : Int)), Rl.eq (.pointer (some ⟨g2, o2 + m * 6, none⟩)), Rl.eq (.pointer (some ⟨g2, o2 + m * 6 + 2, none⟩)), Rl.eq (.agg #[.int .u32 v.fg, .int .u32 v.bg, .int .u8 v.at_, .int .u16 v.ln]), Rl.eq (.pointer (some ⟨q, 2, none⟩)), Rl.eq (.slice (some ⟨g2, o2, none⟩) n1 c), Rl.eq (.int .i64 (fr : Int)), Rl.eq (.pointer (some ⟨g2, o2 + fr * 6, none⟩)), Rl.eq (.pointer (some ⟨g2, o2 + fr * 6 + 2, none⟩)), Rl.eq (.agg #[.int .u32 y.fg, .int .u32 y.bg, .int .u8 y.at_, .int .u16 y.ln]), Rl.eq (.bool true), Rl.eq (.bool true)] [166, 167, 168, 169, 170, 171, 172, 173, 174, 175, 176, 177, 178, 179, 180, 181, 182, 183, 184, 185, 186, 187, 188, 189, 190, 191, 192, 193, 194, 195, 196, 197, 198, 199, 200, 201, 202, 203, 204, 205, 206] (by kernel_rfl) rfl (by kernel_rfl) (by kernel_rfl) ?_ ?_
                      · repeat (first | exact AllFrom.nil_ | (refine AllFrom.cons_ (by rfl) ?_ ?_; rotate_left))
                        · intro f w' gG hF hD
                          have h13 : f 13 = .int .i64 (fr : Int) := hF 13 (by kernel_rfl)
                          rw [if_pos (wanted_none rfl)]
                          clear hF hD
                          exact gives_val (by simp only [execOp, evF, h13]; first | rfl | go_simp) ⟨Gr.refl _, rfl⟩
                        · intro f w' gG hF hD
                          have h14 : f 14 = .int .i64 (j : Int) := hF 14 (by kernel_rfl)
                          rw [if_pos (wanted_none rfl)]
                          clear hF hD
                          exact gives_val (by simp only [execOp, evF, h14]; first | rfl | go_simp) ⟨Gr.refl _, rfl⟩
                        · intro f w' gG hF hD
                          have h166 : f 166 = .int .i64 (fr : Int) := hD 0 166 (by kernel_rfl) rfl
                          have h167 : f 167 = .int .i64 (j : Int) := hD 1 167 (by kernel_rfl) rfl
                          rw [if_pos (wanted_none rfl)]
                          clear hF hD
                          exact gives_val (by simp only [execOp, evF, h166, h167]; first | rfl | go_simp) ⟨Gr.refl _, rfl⟩
                        · intro f w' gG hF hD
                          have h3 : f 3 = .pointer (some ⟨q, 0, none⟩) := hF 3 (by kernel_rfl)
                          rw [if_pos (wanted_none rfl)]
                          clear hF hD
                          exact gives_val (by simp only [execOp, evF, h3]; first | rfl | go_simp) ⟨Gr.refl _, rfl⟩
                        · intro f w' gG hF hD
                          have h169 : f 169 = .pointer (some ⟨q, 2, none⟩) := hD 3 169 (by kernel_rfl) rfl
                          rw [if_pos (wanted_none rfl)]
                          clear hF hD
                          have kb : Below B0 W0 w' := HK2.out.trans (((below_drewN (Below.refl wr.heap.size wr) 1).trans gG).mono HS2.out)
                          have cl := (HQW.out w' kb).nine.2.2.1
                          exact gives_val (by simp only [execOp, evF, h169]; go_simp) ⟨Gr.refl _, rfl⟩
                        · intro f w' gG hF hD
                          have h170 : f 170 = .slice (some ⟨g2, o2, none⟩) n1 c := hD 4 170 (by kernel_rfl) rfl
                          rw [if_pos (wanted_none rfl)]
                          clear hF hD
                          exact gives_val (by unfold execOp; simp only [resolve, invoke, builtin, Sem.run_bind, Sem.run_pure, Result.andThen_ok, List.map_toArray, List.map_cons, List.map_nil, evF, h170]; first | rfl | go_simp) ⟨Gr.refl _, rfl⟩
                        · intro f w' gG hF hD
                          have h168 : f 168 = .int .i64 (m : Int) := hD 2 168 (by kernel_rfl) rfl
                          have h171 : f 171 = .int .i64 (n1 : Int) := hD 5 171 (by kernel_rfl) rfl
                          rw [if_pos (wanted_none rfl)]
                          clear hF hD
                          exact gives_val (by simp only [execOp, evF, h168, h171]; first | rfl | go_simp) ⟨Gr.refl _, rfl⟩
                        · intro f w' gG hF hD
                          have h172 : f 172 = .bool true := hD 6 172 (by kernel_rfl) rfl
                          rw [if_pos (wanted_none rfl)]
                          clear hF hD
                          exact gives_val (by simp only [execOp, evF, h172]; first | rfl | go_simp) ⟨Gr.refl _, rfl⟩
                        · intro f w' gG hF hD
                          have h2 : f 2 = .pointer (some ⟨p, 0, none⟩) := hF 2 (by kernel_rfl)
                          rw [if_pos (wanted_some (d := 173) rfl rfl (hD 7 173 (by kernel_rfl) rfl))]
                          clear hF hD
                          exact gives_val (by simp only [execOp, evF, h2]; first | rfl | go_simp) ⟨Gr.refl _, rfl⟩
                        · intro f w' gG hF hD
                          have h174 : f 174 = .pointer (some ⟨p, 2, none⟩) := hD 8 174 (by kernel_rfl) rfl
                          rw [if_pos (wanted_some (d := 173) rfl rfl (hD 7 173 (by kernel_rfl) rfl))]
                          clear hF hD
                          have kb : Below B0 W0 w' := HK2.out.trans (((below_drewN (Below.refl wr.heap.size wr) 1).trans gG).mono HS2.out)
                          have cl := (HPW.out w' kb).nine.2.2.1
                          exact gives_val (by simp only [execOp, evF, h174]; go_simp) ⟨Gr.refl _, rfl⟩
                        · intro f w' gG hF hD
                          have h13 : f 13 = .int .i64 (fr : Int) := hF 13 (by kernel_rfl)
                          rw [if_pos (wanted_some (d := 173) rfl rfl (hD 7 173 (by kernel_rfl) rfl))]
                          clear hF hD
                          exact gives_val (by simp only [execOp, evF, h13]; first | rfl | go_simp) ⟨Gr.refl _, rfl⟩
                        · intro f w' gG hF hD
                          have h14 : f 14 = .int .i64 (j : Int) := hF 14 (by kernel_rfl)
                          rw [if_pos (wanted_some (d := 173) rfl rfl (hD 7 173 (by kernel_rfl) rfl))]
                          clear hF hD
                          exact gives_val (by simp only [execOp, evF, h14]; first | rfl | go_simp) ⟨Gr.refl _, rfl⟩
                        · intro f w' gG hF hD
                          have h176 : f 176 = .int .i64 (fr : Int) := hD 10 176 (by kernel_rfl) rfl
                          have h177 : f 177 = .int .i64 (j : Int) := hD 11 177 (by kernel_rfl) rfl
                          rw [if_pos (wanted_some (d := 173) rfl rfl (hD 7 173 (by kernel_rfl) rfl))]
                          clear hF hD
                          exact gives_val (by simp only [execOp, evF, h176, h177]; first | rfl | go_simp) ⟨Gr.refl _, rfl⟩
                        · intro f w' gG hF hD
                          have h175 : f 175 = .slice (some ⟨g, o, none⟩) n1 c1 := hD 9 175 (by kernel_rfl) rfl
                          have h178 : f 178 = .int .i64 (m : Int) := hD 12 178 (by kernel_rfl) rfl
                          rw [if_pos (wanted_some (d := 173) rfl rfl (hD 7 173 (by kernel_rfl) rfl))]
                          clear hF hD
                          exact gives_val (by simp only [execOp, evF, h175, h178]; first | rfl | go_simp) ⟨Gr.refl _, rfl⟩
                        · intro f w' gG hF hD
                          have h179 : f 179 = .pointer (some ⟨g, o + m * 6, none⟩) := hD 13 179 (by kernel_rfl) rfl
                          rw [if_pos (wanted_some (d := 173) rfl rfl (hD 7 173 (by kernel_rfl) rfl))]
                          clear hF hD
                          have kb : Below B0 W0 w' := HK2.out.trans (((below_drewN (Below.refl wr.heap.size wr) 1).trans gG).mono HS2.out)
                          obtain ⟨z0, z1, z2, z3, z4, z5⟩ := HCU.out w' kb
                          exact gives_val (by simp only [execOp, evF, h179]; go_simp) ⟨Gr.refl _, rfl⟩
                        · intro f w' gG hF hD
                          have h3 : f 3 = .pointer (some ⟨q, 0, none⟩) := hF 3 (by kernel_rfl)
                          rw [if_pos (wanted_some (d := 173) rfl rfl (hD 7 173 (by kernel_rfl) rfl))]
                          clear hF hD
                          exact gives_val (by simp only [execOp, evF, h3]; first | rfl | go_simp) ⟨Gr.refl _, rfl⟩
                        · intro f w' gG hF hD
                          have h181 : f 181 = .pointer (some ⟨q, 2, none⟩) := hD 15 181 (by kernel_rfl) rfl
                          rw [if_pos (wanted_some (d := 173) rfl rfl (hD 7 173 (by kernel_rfl) rfl))]
                          clear hF hD
                          have kb : Below B0 W0 w' := HK2.out.trans (((below_drewN (Below.refl wr.heap.size wr) 1).trans gG).mono HS2.out)
                          have cl := (HQW.out w' kb).nine.2.2.1
                          exact gives_val (by simp only [execOp, evF, h181]; go_simp) ⟨Gr.refl _, rfl⟩
                        · intro f w' gG hF hD
                          have h13 : f 13 = .int .i64 (fr : Int) := hF 13 (by kernel_rfl)
                          rw [if_pos (wanted_some (d := 173) rfl rfl (hD 7 173 (by kernel_rfl) rfl))]
                          clear hF hD
                          exact gives_val (by simp only [execOp, evF, h13]; first | rfl | go_simp) ⟨Gr.refl _, rfl⟩
                        · intro f w' gG hF hD
                          have h14 : f 14 = .int .i64 (j : Int) := hF 14 (by kernel_rfl)
                          rw [if_pos (wanted_some (d := 173) rfl rfl (hD 7 173 (by kernel_rfl) rfl))]
                          clear hF hD
                          exact gives_val (by simp only [execOp, evF, h14]; first | rfl | go_simp) ⟨Gr.refl _, rfl⟩
                        · intro f w' gG hF hD
                          have h183 : f 183 = .int .i64 (fr : Int) := hD 17 183 (by kernel_rfl) rfl
                          have h184 : f 184 = .int .i64 (j : Int) := hD 18 184 (by kernel_rfl) rfl
                          rw [if_pos (wanted_some (d := 173) rfl rfl (hD 7 173 (by kernel_rfl) rfl))]
                          clear hF hD
                          exact gives_val (by simp only [execOp, evF, h183, h184]; first | rfl | go_simp) ⟨Gr.refl _, rfl⟩
                        · intro f w' gG hF hD
                          have h182 : f 182 = .slice (some ⟨g2, o2, none⟩) n1 c := hD 16 182 (by kernel_rfl) rfl
                          have h185 : f 185 = .int .i64 (m : Int) := hD 19 185 (by kernel_rfl) rfl
                          rw [if_pos (wanted_some (d := 173) rfl rfl (hD 7 173 (by kernel_rfl) rfl))]
                          clear hF hD
                          exact gives_val (by simp only [execOp, evF, h182, h185]; first | rfl | go_simp) ⟨Gr.refl _, rfl⟩
                        · intro f w' gG hF hD
                          have h186 : f 186 = .pointer (some ⟨g2, o2 + m * 6, none⟩) := hD 20 186 (by kernel_rfl) rfl
                          rw [if_pos (wanted_some (d := 173) rfl rfl (hD 7 173 (by kernel_rfl) rfl))]
                          clear hF hD
                          have kb : Below B0 W0 w' := HK2.out.trans (((below_drewN (Below.refl wr.heap.size wr) 1).trans gG).mono HS2.out)
                          obtain ⟨z0, z1, z2, z3, z4, z5⟩ := HCV.out w' kb
                          exact gives_val (by simp only [execOp, evF, h186]; go_simp) ⟨Gr.refl _, rfl⟩
                        · intro f w' gG hF hD
                          have h180 : f 180 = .agg #[.int .i32 u.r, .int .u8 u.w, .int .u32 u.fg, .int .u32 u.bg, .int .u8 u.at_, .int .u16 u.ln] := hD 14 180 (by kernel_rfl) rfl
                          have h187 : f 187 = .agg #[.int .i32 v.r, .int .u8 v.w, .int .u32 v.fg, .int .u32 v.bg, .int .u8 v.at_, .int .u16 v.ln] := hD 21 187 (by kernel_rfl) rfl
                          rw [if_pos (wanted_some (d := 173) rfl rfl (hD 7 173 (by kernel_rfl) rfl))]
                          clear hF hD
                          have hpe := run_cellNe u v
                          unfold CeD.val at hpe
                          exact gives_val (by simp only [execOp, evF, h180, h187, hpe, EU.out]; go_simp; try exact EU.out) ⟨Gr.refl _, rfl⟩
                        · intro f w' gG hF hD
                          have h173 : f 173 = .bool true := hD 7 173 (by kernel_rfl) rfl
                          have h188 : f 188 = .bool true := hD 22 188 (by kernel_rfl) rfl
                          rw [if_pos (wanted_none rfl)]
                          clear hF hD
                          exact gives_val (by simp only [execOp, evF, h173, h188]; first | rfl | go_simp) ⟨Gr.refl _, rfl⟩
                        · intro f w' gG hF hD
                          have h189 : f 189 = .bool true := hD 23 189 (by kernel_rfl) rfl
                          rw [if_pos (wanted_none rfl)]
                          clear hF hD
                          exact gives_val (by simp only [execOp, evF, h189]; first | rfl | go_simp) ⟨Gr.refl _, rfl⟩
                        · intro f w' gG hF hD
                          have h3 : f 3 = .pointer (some ⟨q, 0, none⟩) := hF 3 (by kernel_rfl)
                          rw [if_pos (wanted_some (d := 190) rfl rfl (hD 24 190 (by kernel_rfl) rfl))]
                          clear hF hD
                          exact gives_val (by simp only [execOp, evF, h3]; first | rfl | go_simp) ⟨Gr.refl _, rfl⟩
                        · intro f w' gG hF hD
                          have h191 : f 191 = .pointer (some ⟨q, 2, none⟩) := hD 25 191 (by kernel_rfl) rfl
                          rw [if_pos (wanted_some (d := 190) rfl rfl (hD 24 190 (by kernel_rfl) rfl))]
                          clear hF hD
                          have kb : Below B0 W0 w' := HK2.out.trans (((below_drewN (Below.refl wr.heap.size wr) 1).trans gG).mono HS2.out)
                          have cl := (HQW.out w' kb).nine.2.2.1
                          exact gives_val (by simp only [execOp, evF, h191]; go_simp) ⟨Gr.refl _, rfl⟩
                        · intro f w' gG hF hD
                          have h13 : f 13 = .int .i64 (fr : Int) := hF 13 (by kernel_rfl)
                          rw [if_pos (wanted_some (d := 190) rfl rfl (hD 24 190 (by kernel_rfl) rfl))]
                          clear hF hD
                          exact gives_val (by simp only [execOp, evF, h13]; first | rfl | go_simp) ⟨Gr.refl _, rfl⟩
                        · intro f w' gG hF hD
                          have h14 : f 14 = .int .i64 (j : Int) := hF 14 (by kernel_rfl)
                          rw [if_pos (wanted_some (d := 190) rfl rfl (hD 24 190 (by kernel_rfl) rfl))]
                          clear hF hD
                          exact gives_val (by simp only [execOp, evF, h14]; first | rfl | go_simp) ⟨Gr.refl _, rfl⟩
                        · intro f w' gG hF hD
                          have h193 : f 193 = .int .i64 (fr : Int) := hD 27 193 (by kernel_rfl) rfl
                          have h194 : f 194 = .int .i64 (j : Int) := hD 28 194 (by kernel_rfl) rfl
                          rw [if_pos (wanted_some (d := 190) rfl rfl (hD 24 190 (by kernel_rfl) rfl))]
                          clear hF hD
                          exact gives_val (by simp only [execOp, evF, h193, h194]; first | rfl | go_simp) ⟨Gr.refl _, rfl⟩
                        · intro f w' gG hF hD
                          have h192 : f 192 = .slice (some ⟨g2, o2, none⟩) n1 c := hD 26 192 (by kernel_rfl) rfl
                          have h195 : f 195 = .int .i64 (m : Int) := hD 29 195 (by kernel_rfl) rfl
                          rw [if_pos (wanted_some (d := 190) rfl rfl (hD 24 190 (by kernel_rfl) rfl))]
                          clear hF hD
                          exact gives_val (by simp only [execOp, evF, h192, h195]; first | rfl | go_simp) ⟨Gr.refl _, rfl⟩
                        · intro f w' gG hF hD
                          have h196 : f 196 = .pointer (some ⟨g2, o2 + m * 6, none⟩) := hD 30 196 (by kernel_rfl) rfl
                          rw [if_pos (wanted_some (d := 190) rfl rfl (hD 24 190 (by kernel_rfl) rfl))]
                          clear hF hD
                          exact gives_val (by simp only [execOp, evF, h196]; first | rfl | go_simp) ⟨Gr.refl _, rfl⟩
                        · intro f w' gG hF hD
                          have h197 : f 197 = .pointer (some ⟨g2, o2 + m * 6 + 2, none⟩) := hD 31 197 (by kernel_rfl) rfl
                          rw [if_pos (wanted_some (d := 190) rfl rfl (hD 24 190 (by kernel_rfl) rfl))]
                          clear hF hD
                          have kb : Below B0 W0 w' := HK2.out.trans (((below_drewN (Below.refl wr.heap.size wr) 1).trans gG).mono HS2.out)
                          obtain ⟨z0, z1, z2, z3, z4, z5⟩ := HCV.out w' kb
                          exact gives_val (by simp only [execOp, evF, h197]; go_simp) ⟨Gr.refl _, rfl⟩
                        · intro f w' gG hF hD
                          have h3 : f 3 = .pointer (some ⟨q, 0, none⟩) := hF 3 (by kernel_rfl)
                          rw [if_pos (wanted_some (d := 190) rfl rfl (hD 24 190 (by kernel_rfl) rfl))]
                          clear hF hD
                          exact gives_val (by simp only [execOp, evF, h3]; first | rfl | go_simp) ⟨Gr.refl _, rfl⟩
                        · intro f w' gG hF hD
                          have h199 : f 199 = .pointer (some ⟨q, 2, none⟩) := hD 33 199 (by kernel_rfl) rfl
                          rw [if_pos (wanted_some (d := 190) rfl rfl (hD 24 190 (by kernel_rfl) rfl))]
                          clear hF hD
                          have kb : Below B0 W0 w' := HK2.out.trans (((below_drewN (Below.refl wr.heap.size wr) 1).trans gG).mono HS2.out)
                          have cl := (HQW.out w' kb).nine.2.2.1
                          exact gives_val (by simp only [execOp, evF, h199]; go_simp) ⟨Gr.refl _, rfl⟩
                        · intro f w' gG hF hD
                          have h13 : f 13 = .int .i64 (fr : Int) := hF 13 (by kernel_rfl)
                          rw [if_pos (wanted_some (d := 190) rfl rfl (hD 24 190 (by kernel_rfl) rfl))]
                          clear hF hD
                          exact gives_val (by simp only [execOp, evF, h13]; first | rfl | go_simp) ⟨Gr.refl _, rfl⟩
                        · intro f w' gG hF hD
                          have h200 : f 200 = .slice (some ⟨g2, o2, none⟩) n1 c := hD 34 200 (by kernel_rfl) rfl
                          have h201 : f 201 = .int .i64 (fr : Int) := hD 35 201 (by kernel_rfl) rfl
                          rw [if_pos (wanted_some (d := 190) rfl rfl (hD 24 190 (by kernel_rfl) rfl))]
                          clear hF hD
                          exact gives_val (by simp only [execOp, evF, h200, h201]; first | rfl | go_simp) ⟨Gr.refl _, rfl⟩
                        · intro f w' gG hF hD
                          have h202 : f 202 = .pointer (some ⟨g2, o2 + fr * 6, none⟩) := hD 36 202 (by kernel_rfl) rfl
                          rw [if_pos (wanted_some (d := 190) rfl rfl (hD 24 190 (by kernel_rfl) rfl))]
                          clear hF hD
                          exact gives_val (by simp only [execOp, evF, h202]; first | rfl | go_simp) ⟨Gr.refl _, rfl⟩
                        · intro f w' gG hF hD
                          have h203 : f 203 = .pointer (some ⟨g2, o2 + fr * 6 + 2, none⟩) := hD 37 203 (by kernel_rfl) rfl
                          rw [if_pos (wanted_some (d := 190) rfl rfl (hD 24 190 (by kernel_rfl) rfl))]
                          clear hF hD
                          have kb : Below B0 W0 w' := HK2.out.trans (((below_drewN (Below.refl wr.heap.size wr) 1).trans gG).mono HS2.out)
                          obtain ⟨z0, z1, z2, z3, z4, z5⟩ := HYC.out w' kb
                          exact gives_val (by simp only [execOp, evF, h203]; go_simp) ⟨Gr.refl _, rfl⟩
                        · intro f w' gG hF hD
                          have h198 : f 198 = .agg #[.int .u32 v.fg, .int .u32 v.bg, .int .u8 v.at_, .int .u16 v.ln] := hD 32 198 (by kernel_rfl) rfl
                          have h204 : f 204 = .agg #[.int .u32 y.fg, .int .u32 y.bg, .int .u8 y.at_, .int .u16 y.ln] := hD 38 204 (by kernel_rfl) rfl
                          rw [if_pos (wanted_some (d := 190) rfl rfl (hD 24 190 (by kernel_rfl) rfl))]
                          clear hF hD
                          have hpe := run_penEq v y
                          unfold CeD.pen at hpe
                          exact gives_val (by simp only [execOp, evF, h198, h204, hpe, EV.out]; go_simp; try exact EV.out) ⟨Gr.refl _, rfl⟩
                        · intro f w' gG hF hD
                          have h190 : f 190 = .bool true := hD 24 190 (by kernel_rfl) rfl
                          have h205 : f 205 = .bool true := hD 39 205 (by kernel_rfl) rfl
                          rw [if_pos (wanted_none rfl)]
                          clear hF hD
                          exact gives_val (by simp only [execOp, evF, h190, h205]; first | rfl | go_simp) ⟨Gr.refl _, rfl⟩
                      · intro f w' gG hD
                        have h206 : f 206 = .bool true := hD 40 206 rfl
                        simp only [putAll, List.setIfInBounds_toArray, List.set_cons_zero, List.set_cons_succ, h206]
                        clear hD
                        have HFIN2 : Hid (Below wo.heap.size wo w') := Lib.hid (HKJ.out.trans (Below.mono ((below_drewN (Below.refl wr.heap.size wr) 1).trans gG) HKJ.out.size))
                        clear gG
                        go_wp2_with (fail)
                        go_roundw
                        case rel => exact ⟨j + 1, by omega, by go_num, HZ2, HFIN2⟩
                        case measure => simp [intOf]; omega
                  · have HJN : Hid (j = N) := Lib.hid (by have h := HZ.out; rw [endG_same (p := y) hb2 ha2 (by rw [← ev, ← eu]; exact eE)] at h; have := HTN.out.1; omega)
                    clear eu ev eE eQ ha2 hb2 HZ em
                    go_upto_region 32 with (fail)
                    refine wp_region_rw 255 [Rl.eq (.int .i64 (fr : Int)), Rl.eq (.int .i64 (j : Int)), Rl.eq (.int .i64 (m : Int)), Rl.eq (.pointer (some ⟨q, 2, none⟩)), Rl.eq (.slice (some ⟨g2, o2, none⟩) n1 c), Rl.eq (.int .i64 (n1 : Int)), Rl.eq (.bool true), Rl.eq (.bool true), Rl.eq (.pointer (some ⟨p, 2, none⟩)), Rl.eq (.slice (some ⟨g, o, none⟩) n1 c1), Rl.eq (.int .i64 (fr : Int)), Rl.eq (.int .i64 (j : Int)), Rl.eq (.int .i64 (m : Int)), Rl.eq (.pointer (some ⟨g, o + m * 6, none⟩)), Rl.eq (.agg #[.int .i32 u.r, .int .u8 u.w, .int .u32 u.fg, .int .u32 u.bg, .int .u8 u.at_, .int .u16 u.ln]), Rl.eq (.pointer (some ⟨q, 2, none⟩)), Rl.eq (.slice (some ⟨g2, o2, none⟩) n1 c), Rl.eq (.int .i64 (fr : Int)), Rl.eq (.int .i64 (j : Int)), Rl.eq (.int .i64 (m : Int)), Rl.eq (.pointer (some ⟨g2, o2 + m * 6, none⟩)), Rl.eq (.agg #[.int .i32 v.r, .int .u8 v.w, .int .u32 v.fg, .int .u32 v.bg, .int .u8 v.at_, .int .u16 v.ln]), Rl.eq (.bool false), Rl.eq (.bool false), Rl.eq (.bool false), Rl.eq (undef), Rl.eq (undef), Rl.eq (undef), Rl.eq (undef), Rl.eq (undef), Rl.eq (undef), Rl.eq (undef), Rl.eq (undef), Rl.eq (undef), Rl.eq (undef), Rl.eq (undef), Rl.eq (undef), Rl.eq (undef), Rl.eq (undef), Rl.eq (undef), Rl.eq (.bool false)] [166, 167, 168, 169, 170, 171, 172, 173, 174, 175, 176, 177, 178, 179, 180, 181, 182, 183, 184, 185, 186, 187, 188, 189, 190, 191, 192, 193, 194, 195, 196, 197, 198, 199, 200, 201, 202, 203, 204, 205, 206] (by kernel_rfl) rfl (by kernel_rfl) (by kernel_rfl) ?_ ?_
                    · repeat (first | exact AllFrom.nil_ | (refine AllFrom.cons_ (by rfl) ?_ ?_; rotate_left))
                      · intro f w' gG hF hD
                        have h13 : f 13 = .int .i64 (fr : Int) := hF 13 (by kernel_rfl)
                        rw [if_pos (wanted_none rfl)]
                        clear hF hD
                        exact gives_val (by simp only [execOp, evF, h13]; first | rfl | go_simp) ⟨Gr.refl _, rfl⟩
                      · intro f w' gG hF hD
                        have h14 : f 14 = .int .i64 (j : Int) := hF 14 (by kernel_rfl)
                        rw [if_pos (wanted_none rfl)]
                        clear hF hD
                        exact gives_val (by simp only [execOp, evF, h14]; first | rfl | go_simp) ⟨Gr.refl _, rfl⟩
                      · intro f w' gG hF hD
                        have h166 : f 166 = .int .i64 (fr : Int) := hD 0 166 (by kernel_rfl) rfl
                        have h167 : f 167 = .int .i64 (j : Int) := hD 1 167 (by kernel_rfl) rfl
                        rw [if_pos (wanted_none rfl)]
                        clear hF hD
                        exact gives_val (by simp only [execOp, evF, h166, h167]; first | rfl | go_simp) ⟨Gr.refl _, rfl⟩
                      · intro f w' gG hF hD
                        have h3 : f 3 = .pointer (some ⟨q, 0, none⟩) := hF 3 (by kernel_rfl)
                        rw [if_pos (wanted_none rfl)]
                        clear hF hD
                        exact gives_val (by simp only [execOp, evF, h3]; first | rfl | go_simp) ⟨Gr.refl _, rfl⟩
                      · intro f w' gG hF hD
                        have h169 : f 169 = .pointer (some ⟨q, 2, none⟩) := hD 3 169 (by kernel_rfl) rfl
                        rw [if_pos (wanted_none rfl)]
                        clear hF hD
                        have kb : Below B0 W0 w' := HK2.out.trans (((below_drewN (Below.refl wr.heap.size wr) 1).trans gG).mono HS2.out)
                        have cl := (HQW.out w' kb).nine.2.2.1
                        exact gives_val (by simp only [execOp, evF, h169]; go_simp) ⟨Gr.refl _, rfl⟩
                      · intro f w' gG hF hD
                        have h170 : f 170 = .slice (some ⟨g2, o2, none⟩) n1 c := hD 4 170 (by kernel_rfl) rfl
                        rw [if_pos (wanted_none rfl)]
                        clear hF hD
                        exact gives_val (by unfold execOp; simp only [resolve, invoke, builtin, Sem.run_bind, Sem.run_pure, Result.andThen_ok, List.map_toArray, List.map_cons, List.map_nil, evF, h170]; first | rfl | go_simp) ⟨Gr.refl _, rfl⟩
                      · intro f w' gG hF hD
                        have h168 : f 168 = .int .i64 (m : Int) := hD 2 168 (by kernel_rfl) rfl
                        have h171 : f 171 = .int .i64 (n1 : Int) := hD 5 171 (by kernel_rfl) rfl
                        rw [if_pos (wanted_none rfl)]
                        clear hF hD
                        exact gives_val (by simp only [execOp, evF, h168, h171]; first | rfl | go_simp) ⟨Gr.refl _, rfl⟩
                      · intro f w' gG hF hD
                        have h172 : f 172 = .bool true := hD 6 172 (by kernel_rfl) rfl
                        rw [if_pos (wanted_none rfl)]
                        clear hF hD
                        exact gives_val (by simp only [execOp, evF, h172]; first | rfl | go_simp) ⟨Gr.refl _, rfl⟩
                      · intro f w' gG hF hD
                        have h2 : f 2 = .pointer (some ⟨p, 0, none⟩) := hF 2 (by kernel_rfl)
                        rw [if_pos (wanted_some (d := 173) rfl rfl (hD 7 173 (by kernel_rfl) rfl))]
                        clear hF hD
                        exact gives_val (by simp only [execOp, evF, h2]; first | rfl | go_simp) ⟨Gr.refl _, rfl⟩
                      · intro f w' gG hF hD
                        have h174 : f 174 = .pointer (some ⟨p, 2, none⟩) := hD 8 174 (by kernel_rfl) rfl
                        rw [if_pos (wanted_some (d := 173) rfl rfl (hD 7 173 (by kernel_rfl) rfl))]
                        clear hF hD
                        have kb : Below B0 W0 w' := HK2.out.trans (((below_drewN (Below.refl wr.heap.size wr) 1).trans gG).mono HS2.out)
                        have cl := (HPW.out w' kb).nine.2.2.1
                        exact gives_val (by simp only [execOp, evF, h174]; go_simp) ⟨Gr.refl _, rfl⟩
                      · intro f w' gG hF hD
                        have h13 : f 13 = .int .i64 (fr : Int) := hF 13 (by kernel_rfl)
                        rw [if_pos (wanted_some (d := 173) rfl rfl (hD 7 173 (by kernel_rfl) rfl))]
                        clear hF hD
                        exact gives_val (by simp only [execOp, evF, h13]; first | rfl | go_simp) ⟨Gr.refl _, rfl⟩
                      · intro f w' gG hF hD
                        have h14 : f 14 = .int .i64 (j : Int) := hF 14 (by kernel_rfl)
                        rw [if_pos (wanted_some (d := 173) rfl rfl (hD 7 173 (by kernel_rfl) rfl))]
                        clear hF hD
                        exact gives_val (by simp only [execOp, evF, h14]; first | rfl | go_simp) ⟨Gr.refl _, rfl⟩
                      · intro f w' gG hF hD
                        have h176 : f 176 = .int .i64 (fr : Int) := hD 10 176 (by kernel_rfl) rfl
                        have h177 : f 177 = .int .i64 (j : Int) := hD 11 177 (by kernel_rfl) rfl
                        rw [if_pos (wanted_some (d := 173) rfl rfl (hD 7 173 (by kernel_rfl) rfl))]
                        clear hF hD
                        exact gives_val (by simp only [execOp, evF, h176, h177]; first | rfl | go_simp) ⟨Gr.refl _, rfl⟩
                      · intro f w' gG hF hD
                        have h175 : f 175 = .slice (some ⟨g, o, none⟩) n1 c1 := hD 9 175 (by kernel_rfl) rfl
                        have h178 : f 178 = .int .i64 (m : Int) := hD 12 178 (by kernel_rfl) rfl
                        rw [if_pos (wanted_some (d := 173) rfl rfl (hD 7 173 (by kernel_rfl) rfl))]
                        clear hF hD
                        exact gives_val (by simp only [execOp, evF, h175, h178]; first | rfl | go_simp) ⟨Gr.refl _, rfl⟩
                      · intro f w' gG hF hD
                        have h179 : f 179 = .pointer (some ⟨g, o + m * 6, none⟩) := hD 13 179 (by kernel_rfl) rfl
                        rw [if_pos (wanted_some (d := 173) rfl rfl (hD 7 173 (by kernel_rfl) rfl))]
                        clear hF hD
                        have kb : Below B0 W0 w' := HK2.out.trans (((below_drewN (Below.refl wr.heap.size wr) 1).trans gG).mono HS2.out)
                        obtain ⟨z0, z1, z2, z3, z4, z5⟩ := HCU.out w' kb
                        exact gives_val (by simp only [execOp, evF, h179]; go_simp) ⟨Gr.refl _, rfl⟩
                      · intro f w' gG hF hD
                        have h3 : f 3 = .pointer (some ⟨q, 0, none⟩) := hF 3 (by kernel_rfl)
                        rw [if_pos (wanted_some (d := 173) rfl rfl (hD 7 173 (by kernel_rfl) rfl))]
                        clear hF hD
                        exact gives_val (by simp only [execOp, evF, h3]; first | rfl | go_simp) ⟨Gr.refl _, rfl⟩
                      · intro f w' gG hF hD
                        have h181 : f 181 = .pointer (some ⟨q, 2, none⟩) := hD 15 181 (by kernel_rfl) rfl
                        rw [if_pos (wanted_some (d := 173) rfl rfl (hD 7 173 (by kernel_rfl) rfl))]
                        clear hF hD
                        have kb : Below B0 W0 w' := HK2.out.trans (((below_drewN (Below.refl wr.heap.size wr) 1).trans gG).mono HS2.out)
                        have cl := (HQW.out w' kb).nine.2.2.1
                        exact gives_val (by simp only [execOp, evF, h181]; go_simp) ⟨Gr.refl _, rfl⟩
                      · intro f w' gG hF hD
                        have h13 : f 13 = .int .i64 (fr : Int) := hF 13 (by kernel_rfl)
                        rw [if_pos (wanted_some (d := 173) rfl rfl (hD 7 173 (by kernel_rfl) rfl))]
                        clear hF hD
                        exact gives_val (by simp only [execOp, evF, h13]; first | rfl | go_simp) ⟨Gr.refl _, rfl⟩
                      · intro f w' gG hF hD
                        have h14 : f 14 = .int .i64 (j : Int) := hF 14 (by kernel_rfl)
                        rw [if_pos (wanted_some (d := 173) rfl rfl (hD 7 173 (by kernel_rfl) rfl))]
                        clear hF hD
                        exact gives_val (by simp only [execOp, evF, h14]; first | rfl | go_simp) ⟨Gr.refl _, rfl⟩
                      · intro f w' gG hF hD
                        have h183 : f 183 = .int .i64 (fr : Int) := hD 17 183 (by kernel_rfl) rfl
                        have h184 : f 184 = .int .i64 (j : Int) := hD 18 184 (by kernel_rfl) rfl
                        rw [if_pos (wanted_some (d := 173) rfl rfl (hD 7 173 (by kernel_rfl) rfl))]
                        clear hF hD
                        exact gives_val (by simp only [execOp, evF, h183, h184]; first | rfl | go_simp) ⟨Gr.refl _, rfl⟩
                      · intro f w' gG hF hD
                        have h182 : f 182 = .slice (some ⟨g2, o2, none⟩) n1 c := hD 16 182 (by kernel_rfl) rfl
                        have h185 : f 185 = .int .i64 (m : Int) := hD 19 185 (by kernel_rfl) rfl
                        rw [if_pos (wanted_some (d := 173) rfl rfl (hD 7 173 (by kernel_rfl) rfl))]
                        clear hF hD
                        exact gives_val (by simp only [execOp, evF, h182, h185]; first | rfl | go_simp) ⟨Gr.refl _, rfl⟩
                      · intro f w' gG hF hD
                        have h186 : f 186 = .pointer (some ⟨g2, o2 + m * 6, none⟩) := hD 20 186 (by kernel_rfl) rfl
                        rw [if_pos (wanted_some (d := 173) rfl rfl (hD 7 173 (by kernel_rfl) rfl))]
                        clear hF hD
                        have kb : Below B0 W0 w' := HK2.out.trans (((below_drewN (Below.refl wr.heap.size wr) 1).trans gG).mono HS2.out)
                        obtain ⟨z0, z1, z2, z3, z4, z5⟩ := HCV.out w' kb
                        exact gives_val (by simp only [execOp, evF, h186]; go_simp) ⟨Gr.refl _, rfl⟩
                      · intro f w' gG hF hD
                        have h180 : f 180 = .agg #[.int .i32 u.r, .int .u8 u.w, .int .u32 u.fg, .int .u32 u.bg, .int .u8 u.at_, .int .u16 u.ln] := hD 14 180 (by kernel_rfl) rfl
                        have h187 : f 187 = .agg #[.int .i32 v.r, .int .u8 v.w, .int .u32 v.fg, .int .u32 v.bg, .int .u8 v.at_, .int .u16 v.ln] := hD 21 187 (by kernel_rfl) rfl
                        rw [if_pos (wanted_some (d := 173) rfl rfl (hD 7 173 (by kernel_rfl) rfl))]
                        clear hF hD
                        have hpe := run_cellNe u v
                        unfold CeD.val at hpe
                        exact gives_val (by simp only [execOp, evF, h180, h187, hpe, EU.out]; go_simp; try exact EU.out) ⟨Gr.refl _, rfl⟩
                      · intro f w' gG hF hD
                        have h173 : f 173 = .bool true := hD 7 173 (by kernel_rfl) rfl
                        have h188 : f 188 = .bool false := hD 22 188 (by kernel_rfl) rfl
                        rw [if_pos (wanted_none rfl)]
                        clear hF hD
                        exact gives_val (by simp only [execOp, evF, h173, h188]; first | rfl | go_simp) ⟨Gr.refl _, rfl⟩
                      · intro f w' gG hF hD
                        have h189 : f 189 = .bool false := hD 23 189 (by kernel_rfl) rfl
                        rw [if_pos (wanted_none rfl)]
                        clear hF hD
                        exact gives_val (by simp only [execOp, evF, h189]; first | rfl | go_simp) ⟨Gr.refl _, rfl⟩
                      · intro f w' gG hF hD
                        rw [if_neg (unwanted_some (d := 190) (b := true) rfl rfl (show f 190 = .bool false from hD 24 190 (by kernel_rfl) rfl))]
                        exact rfl
                      · intro f w' gG hF hD
                        rw [if_neg (unwanted_some (d := 190) (b := true) rfl rfl (show f 190 = .bool false from hD 24 190 (by kernel_rfl) rfl))]
                        exact rfl
                      · intro f w' gG hF hD
                        rw [if_neg (unwanted_some (d := 190) (b := true) rfl rfl (show f 190 = .bool false from hD 24 190 (by kernel_rfl) rfl))]
                        exact rfl
                      · intro f w' gG hF hD
                        rw [if_neg (unwanted_some (d := 190) (b := true) rfl rfl (show f 190 = .bool false from hD 24 190 (by kernel_rfl) rfl))]
                        exact rfl
                      · intro f w' gG hF hD
                        rw [if_neg (unwanted_some (d := 190) (b := true) rfl rfl (show f 190 = .bool false from hD 24 190 (by kernel_rfl) rfl))]
                        exact rfl
                      · intro f w' gG hF hD
                        rw [if_neg (unwanted_some (d := 190) (b := true) rfl rfl (show f 190 = .bool false from hD 24 190 (by kernel_rfl) rfl))]
                        exact rfl
                      · intro f w' gG hF hD
                        rw [if_neg (unwanted_some (d := 190) (b := true) rfl rfl (show f 190 = .bool false from hD 24 190 (by kernel_rfl) rfl))]
                        exact rfl
                      · intro f w' gG hF hD
                        rw [if_neg (unwanted_some (d := 190) (b := true) rfl rfl (show f 190 = .bool false from hD 24 190 (by kernel_rfl) rfl))]
                        exact rfl
                      · intro f w' gG hF hD
                        rw [if_neg (unwanted_some (d := 190) (b := true) rfl rfl (show f 190 = .bool false from hD 24 190 (by kernel_rfl) rfl))]
                        exact rfl
                      · intro f w' gG hF hD
                        rw [if_neg (unwanted_some (d := 190) (b := true) rfl rfl (show f 190 = .bool false from hD 24 190 (by kernel_rfl) rfl))]
                        exact rfl
                      · intro f w' gG hF hD
                        rw [if_neg (unwanted_some (d := 190) (b := true) rfl rfl (show f 190 = .bool false from hD 24 190 (by kernel_rfl) rfl))]
                        exact rfl
                      · intro f w' gG hF hD
                        rw [if_neg (unwanted_some (d := 190) (b := true) rfl rfl (show f 190 = .bool false from hD 24 190 (by kernel_rfl) rfl))]
                        exact rfl
                      · intro f w' gG hF hD
                        rw [if_neg (unwanted_some (d := 190) (b := true) rfl rfl (show f 190 = .bool false from hD 24 190 (by kernel_rfl) rfl))]
                        exact rfl
                      · intro f w' gG hF hD
                        rw [if_neg (unwanted_some (d := 190) (b := true) rfl rfl (show f 190 = .bool false from hD 24 190 (by kernel_rfl) rfl))]
                        exact rfl
                      · intro f w' gG hF hD
                        rw [if_neg (unwanted_some (d := 190) (b := true) rfl rfl (show f 190 = .bool false from hD 24 190 (by kernel_rfl) rfl))]
                        exact rfl
                      · intro f w' gG hF hD
                        have h190 : f 190 = .bool false := hD 24 190 (by kernel_rfl) rfl
                        have h205 : f 205 = undef := hD 39 205 (by kernel_rfl) rfl
                        rw [if_pos (wanted_none rfl)]
                        clear hF hD
                        exact gives_val (by simp only [execOp, evF, h190, h205]; first | rfl | go_simp) ⟨Gr.refl _, rfl⟩
                    · intro f w' gG hD
                      have h206 : f 206 = .bool false := hD 40 206 rfl
                      simp only [putAll, List.setIfInBounds_toArray, List.set_cons_zero, List.set_cons_succ, h206]
                      clear hD
                      have HFIN2 : Hid (Below wo.heap.size wo w') := Lib.hid (HKJ.out.trans (Below.mono ((below_drewN (Below.refl wr.heap.size wr) 1).trans gG) HKJ.out.size))
                      clear gG
                      go_wp2_with (fail)
                      go_meet
                      exact ⟨by rw [← HJN.out], HFIN2⟩
                · have mge' : decide ((m : Int) < (n1 : Int)) = false := decide_eq_false (by omega)
                  have HJN : Hid (j = N) := Lib.hid (by have h := HZ.out; rw [endG_end _ _ _ _ (by rw [HN.out.2.2]; exact mge)] at h; have := HTN.out.1; omega)
                  clear HZ em
                  go_upto_region 32 with (fail)
                  refine wp_region_rw 255 [Rl.eq (.int .i64 (fr : Int)), Rl.eq (.int .i64 (j : Int)), Rl.eq (.int .i64 (m : Int)), Rl.eq (.pointer (some ⟨q, 2, none⟩)), Rl.eq (.slice (some ⟨g2, o2, none⟩) n1 c), Rl.eq (.int .i64 (n1 : Int)), Rl.eq (.bool false), Rl.eq (.bool false), Rl.eq (undef), Rl.eq (undef), Rl.eq (undef), Rl.eq (undef), Rl.eq (undef), Rl.eq (undef), Rl.eq (undef), Rl.eq (undef), Rl.eq (undef), Rl.eq (undef), Rl.eq (undef), Rl.eq (undef), Rl.eq (undef), Rl.eq (undef), Rl.eq (undef), Rl.eq (.bool false), Rl.eq (.bool false), Rl.eq (undef), Rl.eq (undef), Rl.eq (undef), Rl.eq (undef), Rl.eq (undef), Rl.eq (undef), Rl.eq (undef), Rl.eq (undef), Rl.eq (undef), Rl.eq (undef), Rl.eq (undef), Rl.eq (undef), Rl.eq (undef), Rl.eq (undef), Rl.eq (undef), Rl.eq (.bool false)] [166, 167, 168, 169, 170, 171, 172, 173, 174, 175, 176, 177, 178, 179, 180, 181, 182, 183, 184, 185, 186, 187, 188, 189, 190, 191, 192, 193, 194, 195, 196, 197, 198, 199, 200, 201, 202, 203, 204, 205, 206] (by kernel_rfl) rfl (by kernel_rfl) (by kernel_rfl) ?_ ?_
                  · repeat (first | exact AllFrom.nil_ | (refine AllFrom.cons_ (by rfl) ?_ ?_; rotate_left))
                    · intro f w' gG hF hD
                      have h13 : f 13 = .int .i64 (fr : Int) := hF 13 (by kernel_rfl)
                      rw [if_pos (wanted_none rfl)]
                      clear hF hD
                      exact gives_val (by simp only [execOp, evF, h13]; first | rfl | go_simp) ⟨Gr.refl _, rfl⟩
                    · intro f w' gG hF hD
                      have h14 : f 14 = .int .i64 (j : Int) := hF 14 (by kernel_rfl)
                      rw [if_pos (wanted_none rfl)]
                      clear hF hD
                      exact gives_val (by simp only [execOp, evF, h14]; first | rfl | go_simp) ⟨Gr.refl _, rfl⟩
                    · intro f w' gG hF hD
                      have h166 : f 166 = .int .i64 (fr : Int) := hD 0 166 (by kernel_rfl) rfl
                      have h167 : f 167 = .int .i64 (j : Int) := hD 1 167 (by kernel_rfl) rfl
                      rw [if_pos (wanted_none rfl)]
                      clear hF hD
                      exact gives_val (by simp only [execOp, evF, h166, h167]; first | rfl | go_simp) ⟨Gr.refl _, rfl⟩
                    · intro f w' gG hF hD
                      have h3 : f 3 = .pointer (some ⟨q, 0, none⟩) := hF 3 (by kernel_rfl)
                      rw [if_pos (wanted_none rfl)]
                      clear hF hD
                      exact gives_val (by simp only [execOp, evF, h3]; first | rfl | go_simp) ⟨Gr.refl _, rfl⟩
                    · intro f w' gG hF hD
                      have h169 : f 169 = .pointer (some ⟨q, 2, none⟩) := hD 3 169 (by kernel_rfl) rfl
                      rw [if_pos (wanted_none rfl)]
                      clear hF hD
                      have kb : Below B0 W0 w' := HK2.out.trans (((below_drewN (Below.refl wr.heap.size wr) 1).trans gG).mono HS2.out)
                      have cl := (HQW.out w' kb).nine.2.2.1
                      exact gives_val (by simp only [execOp, evF, h169]; go_simp) ⟨Gr.refl _, rfl⟩
                    · intro f w' gG hF hD
                      have h170 : f 170 = .slice (some ⟨g2, o2, none⟩) n1 c := hD 4 170 (by kernel_rfl) rfl
                      rw [if_pos (wanted_none rfl)]
                      clear hF hD
                      exact gives_val (by unfold execOp; simp only [resolve, invoke, builtin, Sem.run_bind, Sem.run_pure, Result.andThen_ok, List.map_toArray, List.map_cons, List.map_nil, evF, h170]; first | rfl | go_simp) ⟨Gr.refl _, rfl⟩
                    · intro f w' gG hF hD
                      have h168 : f 168 = .int .i64 (m : Int) := hD 2 168 (by kernel_rfl) rfl
                      have h171 : f 171 = .int .i64 (n1 : Int) := hD 5 171 (by kernel_rfl) rfl
                      rw [if_pos (wanted_none rfl)]
                      clear hF hD
                      exact gives_val (by simp only [execOp, evF, h168, h171]; first | rfl | go_simp) ⟨Gr.refl _, rfl⟩
                    · intro f w' gG hF hD
                      have h172 : f 172 = .bool false := hD 6 172 (by kernel_rfl) rfl
                      rw [if_pos (wanted_none rfl)]
                      clear hF hD
                      exact gives_val (by simp only [execOp, evF, h172]; first | rfl | go_simp) ⟨Gr.refl _, rfl⟩
                    · intro f w' gG hF hD
                      rw [if_neg (unwanted_some (d := 173) (b := true) rfl rfl (show f 173 = .bool false from hD 7 173 (by kernel_rfl) rfl))]
                      exact rfl
                    · intro f w' gG hF hD
                      rw [if_neg (unwanted_some (d := 173) (b := true) rfl rfl (show f 173 = .bool false from hD 7 173 (by kernel_rfl) rfl))]
                      exact rfl
                    · intro f w' gG hF hD
                      rw [if_neg (unwanted_some (d := 173) (b := true) rfl rfl (show f 173 = .bool false from hD 7 173 (by kernel_rfl) rfl))]
                      exact rfl
                    · intro f w' gG hF hD
                      rw [if_neg (unwanted_some (d := 173) (b := true) rfl rfl (show f 173 = .bool false from hD 7 173 (by kernel_rfl) rfl))]
                      exact rfl
                    · intro f w' gG hF hD
                      rw [if_neg (unwanted_some (d := 173) (b := true) rfl rfl (show f 173 = .bool false from hD 7 173 (by kernel_rfl) rfl))]
                      exact rfl
                    · intro f w' gG hF hD
                      rw [if_neg (unwanted_some (d := 173) (b := true) rfl rfl (show f 173 = .bool false from hD 7 173 (by kernel_rfl) rfl))]
                      exact rfl
                    · intro f w' gG hF hD
                      rw [if_neg (unwanted_some (d := 173) (b := true) rfl rfl (show f 173 = .bool false from hD 7 173 (by kernel_rfl) rfl))]
                      exact rfl
                    · intro f w' gG hF hD
                      rw [if_neg (unwanted_some (d := 173) (b := true) rfl rfl (show f 173 = .bool false from hD 7 173 (by kernel_rfl) rfl))]
                      exact rfl
                    · intro f w' gG hF hD
                      rw [if_neg (unwanted_some (d := 173) (b := true) rfl rfl (show f 173 = .bool false from hD 7 173 (by kernel_rfl) rfl))]
                      exact rfl
                    · intro f w' gG hF hD
                      rw [if_neg (unwanted_some (d := 173) (b := true) rfl rfl (show f 173 = .bool false from hD 7 173 (by kernel_rfl) rfl))]
                      exact rfl
                    · intro f w' gG hF hD
                      rw [if_neg (unwanted_some (d := 173) (b := true) rfl rfl (show f 173 = .bool false from hD 7 173 (by kernel_rfl) rfl))]
                      exact rfl
                    · intro f w' gG hF hD
                      rw [if_neg (unwanted_some (d := 173) (b := true) rfl rfl (show f 173 = .bool false from hD 7 173 (by kernel_rfl) rfl))]
                      exact rfl
                    · intro f w' gG hF hD
                      rw [if_neg (unwanted_some (d := 173) (b := true) rfl rfl (show f 173 = .bool false from hD 7 173 (by kernel_rfl) rfl))]
                      exact rfl
                    · intro f w' gG hF hD
                      rw [if_neg (unwanted_some (d := 173) (b := true) rfl rfl (show f 173 = .bool false from hD 7 173 (by kernel_rfl) rfl))]
                      exact rfl
                    · intro f w' gG hF hD
                      rw [if_neg (unwanted_some (d := 173) (b := true) rfl rfl (show f 173 = .bool false from hD 7 173 (by kernel_rfl) rfl))]
                      exact rfl
                    · intro f w' gG hF hD
                      have h173 : f 173 = .bool false := hD 7 173 (by kernel_rfl) rfl
                      have h188 : f 188 = undef := hD 22 188 (by kernel_rfl) rfl
                      rw [if_pos (wanted_none rfl)]
                      clear hF hD
                      exact gives_val (by simp only [execOp, evF, h173, h188]; first | rfl | go_simp) ⟨Gr.refl _, rfl⟩
                    · intro f w' gG hF hD
                      have h189 : f 189 = .bool false := hD 23 189 (by kernel_rfl) rfl
                      rw [if_pos (wanted_none rfl)]
                      clear hF hD
                      exact gives_val (by simp only [execOp, evF, h189]; first | rfl | go_simp) ⟨Gr.refl _, rfl⟩
                    · intro f w' gG hF hD
                      rw [if_neg (unwanted_some (d := 190) (b := true) rfl rfl (show f 190 = .bool false from hD 24 190 (by kernel_rfl) rfl))]
                      exact rfl
                    · intro f w' gG hF hD
                      rw [if_neg (unwanted_some (d := 190) (b := true) rfl rfl (show f 190 = .bool false from hD 24 190 (by kernel_rfl) rfl))]
                      exact rfl
                    · intro f w' gG hF hD
                      rw [if_neg (unwanted_some (d := 190) (b := true) rfl rfl (show f 190 = .bool false from hD 24 190 (by kernel_rfl) rfl))]
                      exact rfl
                    · intro f w' gG hF hD
                      rw [if_neg (unwanted_some (d := 190) (b := true) rfl rfl (show f 190 = .bool false from hD 24 190 (by kernel_rfl) rfl))]
                      exact rfl
                    · intro f w' gG hF hD
                      rw [if_neg (unwanted_some (d := 190) (b := true) rfl rfl (show f 190 = .bool false from hD 24 190 (by kernel_rfl) rfl))]
                      exact rfl
                    · intro f w' gG hF hD
                      rw [if_neg (unwanted_some (d := 190) (b := true) rfl rfl (show f 190 = .bool false from hD 24 190 (by kernel_rfl) rfl))]
                      exact rfl
                    · intro f w' gG hF hD
                      rw [if_neg (unwanted_some (d := 190) (b := true) rfl rfl (show f 190 = .bool false from hD 24 190 (by kernel_rfl) rfl))]
                      exact rfl
                    · intro f w' gG hF hD
                      rw [if_neg (unwanted_some (d := 190) (b := true) rfl rfl (show f 190 = .bool false from hD 24 190 (by kernel_rfl) rfl))]
                      exact rfl
                    · intro f w' gG hF hD
                      rw [if_neg (unwanted_some (d := 190) (b := true) rfl rfl (show f 190 = .bool false from hD 24 190 (by kernel_rfl) rfl))]
                      exact rfl
                    · intro f w' gG hF hD
                      rw [if_neg (unwanted_some (d := 190) (b := true) rfl rfl (show f 190 = .bool false from hD 24 190 (by kernel_rfl) rfl))]
                      exact rfl
                    · intro f w' gG hF hD
                      rw [if_neg (unwanted_some (d := 190) (b := true) rfl rfl (show f 190 = .bool false from hD 24 190 (by kernel_rfl) rfl))]
                      exact rfl
                    · intro f w' gG hF hD
                      rw [if_neg (unwanted_some (d := 190) (b := true) rfl rfl (show f 190 = .bool false from hD 24 190 (by kernel_rfl) rfl))]
                      exact rfl
                    · intro f w' gG hF hD
                      rw [if_neg (unwanted_some (d := 190) (b := true) rfl rfl (show f 190 = .bool false from hD 24 190 (by kernel_rfl) rfl))]
                      exact rfl
                    · intro f w' gG hF hD
                      rw [if_neg (unwanted_some (d := 190) (b := true) rfl rfl (show f 190 = .bool false from hD 24 190 (by kernel_rfl) rfl))]
                      exact rfl
                    · intro f w' gG hF hD
                      rw [if_neg (unwanted_some (d := 190) (b := true) rfl rfl (show f 190 = .bool false from hD 24 190 (by kernel_rfl) rfl))]
                      exact rfl
                    · intro f w' gG hF hD
                      have h190 : f 190 = .bool false := hD 24 190 (by kernel_rfl) rfl
                      have h205 : f 205 = undef := hD 39 205 (by kernel_rfl) rfl
                      rw [if_pos (wanted_none rfl)]
                      clear hF hD
                      exact gives_val (by simp only [execOp, evF, h190, h205]; first | rfl | go_simp) ⟨Gr.refl _, rfl⟩
                  · intro f w' gG hD
                    have h206 : f 206 = .bool false := hD 40 206 rfl
                    simp only [putAll, List.setIfInBounds_toArray, List.set_cons_zero, List.set_cons_succ, h206]
                    clear hD
                    have HFIN2 : Hid (Below wo.heap.size wo w') := Lib.hid (HKJ.out.trans (Below.mono ((below_drewN (Below.refl wr.heap.size wr) 1).trans gG) HKJ.out.size))
                    clear gG
                    go_wp2_with (fail)
                    go_meet
                    exact ⟨by rw [← HJN.out], HFIN2⟩
            case rest =>
            obtain ⟨rfl, HCU⟩ := hcut
            have HKC : Hid (Below B0 W0 wc) := Lib.hid (HK.out.trans (HCU.out.mono HSZ.out))
            have HSC : Hid (B0 ≤ wc.heap.size) := Lib.hid (HSW.out wc HKC.out)
            have HBS2 := Lib.hid (HBS.out.below HCU.out)
            have HR2 := Lib.hid (HR.out.below HCU.out)
            have HG2 : Hid (gb < wc.heap.size) := Lib.hid (Nat.lt_of_lt_of_le HGB.out HCU.out.size)
            clear HBS HR HGB HCU HK HSZ HT0
            have hx2 : wc.cell? ⟨q, 2, none⟩ = some (.slice (some ⟨g2, o2, none⟩) n1 c) := (HQW.out wc HKC.out).nine.2.2.1
            have HPN := Lib.hid (HYC.out wc HKC.out)
            have hfn' : (fr : Int) < (n1 : Int) := by omega
            obtain ⟨fg, efg⟩ : ∃ fg : Nat, y.fg = (fg : Int) := ⟨y.fg.toNat, by have := HYM.out.1.2.2.1.1; omega⟩
            obtain ⟨bg, ebg⟩ : ∃ bg : Nat, y.bg = (bg : Int) := ⟨y.bg.toNat, by have := HYM.out.1.2.2.2.1.1; omega⟩
            obtain ⟨t, et⟩ : ∃ t : Nat, y.at_ = (t : Int) := ⟨y.at_.toNat, by have := HYM.out.1.2.2.2.2.1.1; omega⟩
            have HFB : Hid (fg ≤ 4294967295 ∧ bg ≤ 4294967295 ∧ t ≤ 255) := Lib.hid (by have h := HYM.out.1; unfold CeOk at h; omega)
            have hwf : IntKind.i64.wrap (fg : Int) = (fg : Int) := IntWalk.i64_in _ ⟨by omega, by have := HFB.out.1; omega⟩
            have hwq : IntKind.i64.wrap (bg : Int) = (bg : Int) := IntWalk.i64_in _ ⟨by omega, by have := HFB.out.2.1; omega⟩
            have hwt : IntKind.i64.wrap (t : Int) = (t : Int) := IntWalk.i64_in _ ⟨by omega, by have := HFB.out.2.2; omega⟩
            obtain ⟨k1, ek1⟩ : ∃ k1 : Nat, (fr : Int) - (h : Int) = (k1 : Int) := ⟨fr - h, by omega⟩
            have HK12 : Hid (k1 = fr - h ∧ k1 ≤ 1920 ∧ N ≤ 1920) := Lib.hid (by have := HTN.out; omega)
            have hwk : IntKind.i64.wrap (k1 : Int) = (k1 : Int) := IntWalk.i64_in _ ⟨by omega, by have := HK12.out.2.1; omega⟩
            obtain ⟨ns, ens⟩ : ∃ ns : List Nat, ns = [k1, N, fg, bg, t] := ⟨_, rfl⟩
            have HNS : Hid (ns.length = 5 ∧ (∀ x ∈ ns, x < 2 ^ 63) ∧ (varsL ns).length ≤ 50) := Lib.hid (by
              have h1 := HFB.out; have h2 := HK12.out
              have h3 : ∀ x ∈ ns, x < 2 ^ 63 := by
                intro x hx
                rw [ens] at hx
                simp only [List.mem_cons, List.not_mem_nil, or_false] at hx
                rcases hx with rfl | rfl | rfl | rfl | rfl <;> omega
              refine ⟨by rw [ens]; rfl, h3, ?_⟩
              have h4 := varsL_le ns (fun x hx => by have := h3 x hx; unfold U64; omega)
              rw [ens] at h4 ⊢
              simp only [List.length_cons, List.length_nil] at h4
              omega)
            obtain ⟨sl, esl⟩ : ∃ sl, sl = (b.cells.drop fr).take N := ⟨_, rfl⟩
            have HSL : Hid (sl.length = N ∧ (∀ d ∈ sl, 0 ≤ d.r ∧ d.r ≤ 1114111) ∧ ∀ s, (hs : s < sl.length) → sl[s] = atC b.cells (fr + s)) := Lib.hid ⟨by rw [esl, List.length_take, List.length_drop, HN.out.2.2]; have := HTN.out; omega, fun d hd => by rw [esl] at hd; exact (HCE.out d (List.mem_of_mem_drop (List.mem_of_mem_take hd))).2, fun s hs => by
              subst esl
              have h1 : fr + s < b.cells.length := by rw [List.length_take, List.length_drop] at hs; omega
              rw [atC_eq h1, List.getElem_take, List.getElem_drop]⟩
            have HRUN : Hid (runB (fr - h) y ((b.cells.drop fr).take N) = varsL ns ++ runesB sl) := Lib.hid (by
              rw [← esl, runB_vars, ens, efg, ebg, et, HK12.out.1, HSL.out.1]
              rfl)
            obtain ⟨PA, ePA⟩ : ∃ PA : Array Value, PA = #[.int .u32 (fg : Int), .int .u32 (bg : Int), .int .u8 (t : Int), .int .u16 y.ln] := ⟨_, rfl⟩
            have HPA : Hid (PA = #[.int .u32 y.fg, .int .u32 y.bg, .int .u8 y.at_, .int .u16 y.ln]) := Lib.hid (by rw [ePA, efg, ebg, et])
            have HP1 : Hid (PA.all (·.oneCell') = true) := Lib.hid (by rw [ePA]; simp [Value.oneCell'])
            have HPS : Hid (PA.size = 4) := Lib.hid (by rw [ePA]; rfl)
            have EPA := Lib.hid ePA
            have HRLW : Hid (∀ W : World, Rd (W.alloc (.cells #[.int .i64 (k1 : Int), .int .i64 (N : Int), .int .i64 (fg : Int), .int .i64 (bg : Int), .int .i64 (t : Int)] 3)) (some ⟨W.heap.size, 0, none⟩) (ns.map nv)) := Lib.hid (fun W => rd_nums W ns _ _ (by rw [ens]; rfl))
            obtain ⟨pp, epp⟩ : ∃ pp, pp = wc.heap.size := ⟨_, rfl⟩
            clear ePA ens efg ebg et esl
            go_upto_region 35 with (first
              | (refine wpList_load_cells rfl 48 (.tmp 213) rfl ⟨g2, o2 + fr * 6 + 2, none⟩ rfl [.int .u32 y.fg, .int .u32 y.bg, .int .u8 y.at_, .int .u16 y.ln] (.agg PA) (by rw [HPA.out]) _ (pen_load HPN.out) Tryd.underlying48 rfl (info_penB.trans rfl) ?_)
              | (refine wpList_store_rowTo rfl 48 (.tmp 15) (.tmp 214) rfl rfl wc.heap.size PA rfl rfl 48 _ (heap_alloc_new wc _) (info_penB.trans (by rw [HPS.out])) (by rw [HPS.out]; rfl) HP1.out ?_))
            generalize eX : World.alloc wc _ = X3
            have hx : Below wc.heap.size wc X3 := by rw [← eX]; exact (Below.refl _ _).alloc (Nat.le_refl _) _
            obtain ⟨old, hq2⟩ : ∃ old, X3.heap[wc.heap.size]? = some (.cells old 48 (0, 0)) := ⟨_, by rw [← eX]; exact heap_alloc_new _ _⟩
            obtain ⟨W1, eW1⟩ : ∃ W, W = X3.setRow wc.heap.size PA := ⟨_, rfl⟩
            rw [← eW1, ← epp]
            have HPW2 : Hid (W1.heap[pp]? = some (.cells PA 48 (0, 0))) := Lib.hid (by rw [eW1, epp]; exact setRow_heap _ _ _ _ _ _ hq2)
            have hb1 : Below wc.heap.size wc W1 := by rw [eW1]; exact below_setRow hx (Nat.le_refl _) _
            have HK1 : Hid (Below B0 W0 W1) := Lib.hid (HKC.out.trans (hb1.mono HSC.out))
            have HS1 : Hid (B0 ≤ W1.heap.size) := Lib.hid (HSW.out W1 HK1.out)
            have HBS3 := Lib.hid (HBS2.out.below hb1)
            have HR3 := Lib.hid (HR2.out.below hb1)
            have HG3 : Hid (gb < W1.heap.size) := Lib.hid (Nat.lt_of_lt_of_le HG2.out hb1.size)
            have c0 : W1.cell? ⟨pp, 0, none⟩ = some (.int .u32 (fg : Int)) := by rw [heap_cell HPW2.out, EPA.out]; rfl
            have c1' : W1.cell? ⟨pp, 1, none⟩ = some (.int .u32 (bg : Int)) := by rw [heap_cell HPW2.out, EPA.out]; rfl
            have c2' : W1.cell? ⟨pp, 2, none⟩ = some (.int .u8 (t : Int)) := by rw [heap_cell HPW2.out, EPA.out]; rfl
            clear eX hx hq2 eW1 hb1 epp hx2 hfn' HBS2 HR2 HG2 HKC HSC HPN
            go_upto_region 37 with (first
              | (go_at_call 24; (refine (vars17_c (some ⟨W1.heap.size, 0, none⟩) 5 5 ns _ HNS.out.1 (HRLW.out W1) (by decide) HNS.out.2.1).mono ?_); rintro _ w3 ⟨v3, rfl, ho3, hb3⟩; obtain ⟨A3, c3, rfl, _, _, r3, _⟩ := OwnB.form ho3; have R3 := Lib.hid r3; have ha3 : Below W1.heap.size W1 (W1.alloc (.cells #[.int .i64 (k1 : Int), .int .i64 (N : Int), .int .i64 (fg : Int), .int .i64 (bg : Int), .int .i64 (t : Int)] 3)) := (Below.refl _ _).alloc (Nat.le_refl _) _; have hb4 := ha3.trans (hb3.mono ha3.size); have HK3 := Lib.hid (HK1.out.trans (hb4.mono HS1.out)); have HS3 := Lib.hid (HSW.out w3 HK3.out); have HO3 := Lib.hid (HBS3.out.below hb4); have HR4 := Lib.hid (HR3.out.below hb4); have HG4 : Hid (gb < w3.heap.size) := Lib.hid (Nat.lt_of_lt_of_le HG3.out hb4.size); clear ho3 hb3 r3 ha3 hb4)
              | (at_builtin; refine wpList_appB _ rfl (.tmp 215) (.tmp 230) rfl B0 U bs rfl HO3.out A3 _ c3 (varsL ns) rfl rfl R3.out (by have := HNS.out.2.2; have := HBL.out; omega) HS3.out ?_; intro v4 w4 h4 hg4 hv4; have HO4 : Hid (OwnB w4 B0 v4 (bs ++ varsL ns)) := Lib.hid h4; have HK4 := Lib.hid (HK3.out.grown hg4 HS3.out (fun q e => (Own.lt HO3.out q e).1)); have HR5 := Lib.hid (rd_other HR4.out hg4 HU.out); have HU4 := Lib.hid (ne_other hv4 HU.out HG4.out); have HG5 : Hid (gb < w4.heap.size) := Lib.hid (Nat.lt_of_lt_of_le HG4.out hg4.size); clear h4 hg4 hv4))
            have hfN : (fr : Int) + (N : Int) = (T' : Int) := by have := HTN.out.1; omega
            have htn : T' ≤ n1 := HTN.out.2.2.1
            have hwT : IntKind.i64.wrap (T' : Int) = (T' : Int) := IntWalk.i64_in _ ⟨by omega, by omega⟩
            have HE0 : Hid (OwnB w4 B0 v4 (bs ++ varsL ns ++ runesB (sl.take 0))) := Lib.hid (by rw [List.take_zero]; show OwnB w4 B0 v4 (bs ++ varsL ns ++ []); rw [List.append_nil]; exact HO4.out)
            clear c0 c1' c2' hwf hwq hwt ek1 hwk HO4 HO3 HR4 HR3 HBS3 HG4 HG3 HK3 HS3 HK1 HS1 R3
            go_wp2_with (fail)
            go_loopw [5, 16] (fun v i wr => ∃ (U : Value) (s : Nat), U = v ∧ s ≤ N ∧ i = .int .i64 s ∧ Hid (OwnB wr B0 U (bs ++ varsL ns ++ runesB (sl.take s))) ∧ Hid (U.ownBlock ≠ some gb) ∧ Hid (Rd wr (some ⟨gb, 0, none⟩) (bl.map nv)) ∧ Hid (Below B0 W0 wr)) (fun _ i _ => N - (intOf i).toNat)
            case atStart => exact ⟨_, 0, rfl, Nat.zero_le _, rfl, HE0, HU4, HR5, HK4⟩
            case round =>
              clear HE0 HU4 HR5 HK4 HU
              obtain ⟨U, s, rfl, hs, rfl, HO, HU, HR, HK⟩ := hrel
              have HS : Hid (B0 ≤ wr.heap.size) := Lib.hid (HSW.out wr HK.out)
              rcases Nat.lt_or_ge s N with slt | sge
              · have slt' : (s : Int) < (N : Int) := by omega
                have hsl : s < sl.length := by rw [HSL.out.1]; exact slt
                obtain ⟨m, em⟩ : ∃ m : Nat, m = fr + s := ⟨_, rfl⟩
                have mlt : m < n1 := by omega
                have mlt' : (m : Int) < (n1 : Int) := by omega
                have hfs : (fr : Int) + (s : Int) = (m : Int) := by omega
                have hwm : IntKind.i64.wrap (m : Int) = (m : Int) := IntWalk.i64_in _ ⟨by omega, by omega⟩
                obtain ⟨d, ed⟩ : ∃ d, d = atC b.cells m := ⟨_, rfl⟩
                have hds : sl[s] = d := by rw [ed, em]; exact HSL.out.2.2 s hsl
                have hdr := HSL.out.2.1 d (by rw [← hds]; exact List.getElem_mem hsl)
                obtain ⟨r, er⟩ : ∃ r : Nat, d.r = (r : Int) := ⟨d.r.toNat, by omega⟩
                have hx2 : wr.cell? ⟨q, 2, none⟩ = some (.slice (some ⟨g2, o2, none⟩) n1 c) := (HQW.out wr HK.out).nine.2.2.1
                have c0 : wr.cell? ⟨g2, o2 + m * 6, none⟩ = some (.int .i32 (r : Int)) := by
                  obtain ⟨z0, _⟩ := HCBW.out wr HK.out m mlt
                  rw [← ed, er] at z0
                  exact z0
                obtain ⟨ns1, ens1⟩ : ∃ ns1 : List Nat, ns1 = [r] := ⟨_, rfl⟩
                have HXT : Hid ((bs ++ varsL ns ++ runesB (sl.take s)) ++ varsL ns1 = bs ++ varsL ns ++ runesB (sl.take (s + 1))) := Lib.hid (by
                  have e1 : varsL ns1 = varL r := by rw [ens1]; simp [varsL]
                  rw [List.take_succ_eq_append_getElem hsl, runesB_snoc, hds, er, Int.toNat_natCast, e1]
                  simp only [List.append_assoc])
                have HNS1 : Hid (ns1.length = 1 ∧ (∀ x ∈ ns1, x < 2 ^ 63) ∧ (varsL ns1).length ≤ 10) := Lib.hid (by
                  have h3 : ∀ x ∈ ns1, x < 2 ^ 63 := by
                    intro x hx
                    rw [ens1, List.mem_singleton] at hx
                    omega
                  refine ⟨by rw [ens1]; rfl, h3, ?_⟩
                  have h4 := varsL_le ns1 (fun x hx => by have := h3 x hx; unfold U64; omega)
                  rw [ens1] at h4 ⊢
                  simpa using h4)
                have HLN : Hid ((bs ++ varsL ns ++ runesB (sl.take s)).length + 10 ≤ 200000) := Lib.hid (by
                  have h := runesB_le (sl.take s) (fun y hy => (HSL.out.2.1 y (List.mem_of_mem_take hy)).2)
                  have h2 := HBL.out
                  have h3 := HNS.out.2.2
                  have h4 := HTN.out
                  simp only [List.length_append, List.length_take] at h ⊢
                  omega)
                have HRL1 : Hid (∀ W : World, Rd (W.alloc (.cells #[.int .i64 (r : Int)] 3)) (some ⟨W.heap.size, 0, none⟩) (ns1.map nv)) := Lib.hid (fun W => rd_nums W ns1 _ _ (by rw [ens1]; rfl))
                have hwr : IntKind.i64.wrap (r : Int) = (r : Int) := IntWalk.i64_in _ ⟨by omega, by omega⟩
                have HGB : Hid (gb < wr.heap.size) := Lib.hid (by
                  obtain ⟨b', o', e3, hb', _⟩ := HR.out.addr (by rw [List.length_map, ← HK19.out.1]; exact hKp)
                  injection e3 with e3
                  injection e3 with e3 _
                  rw [e3]; exact hb')
                clear hsl em ed hds hdr er ens1
                go_wp2_with (first
                  | (go_at_call 24; (refine (vars17_c (some ⟨wr.heap.size, 0, none⟩) 1 1 ns1 _ HNS1.out.1 (HRL1.out wr) (by decide) HNS1.out.2.1).mono ?_); rintro _ w3 ⟨v3, rfl, ho3, hb3⟩; obtain ⟨A3, c3, rfl, _, _, r3, _⟩ := OwnB.form ho3; have R3 := Lib.hid r3; have ha3 : Below wr.heap.size wr (wr.alloc (.cells #[.int .i64 (r : Int)] 3)) := (Below.refl _ _).alloc (Nat.le_refl _) _; have hb4 := ha3.trans (hb3.mono ha3.size); have HK3 := Lib.hid (HK.out.trans (hb4.mono HS.out)); have HS3 := Lib.hid (HSW.out w3 HK3.out); have HO3 := Lib.hid (HO.out.below hb4); have HR3 := Lib.hid (HR.out.below hb4); have HG3 : Hid (gb < w3.heap.size) := Lib.hid (Nat.lt_of_lt_of_le HGB.out hb4.size); clear ho3 hb3 r3 ha3 hb4)
                  | (at_builtin; refine wpList_appB _ rfl (.tmp 237) (.tmp 248) rfl B0 U _ rfl HO3.out A3 _ c3 (varsL ns1) rfl rfl R3.out (by have := HNS1.out.2.2; have := HLN.out; omega) HS3.out ?_; intro v4 w4 h4 hg4 hv4; have HO4 := Lib.hid h4; have HK4 := Lib.hid (HK3.out.grown hg4 HS3.out (fun q e => (Own.lt HO3.out q e).1)); have HR4 := Lib.hid (rd_other HR3.out hg4 HU.out); have HU4 := Lib.hid (ne_other hv4 HU.out HG3.out); clear h4 hg4 hv4))
                go_roundw
                case rel => exact ⟨v4, s + 1, rfl, by omega, by go_num, Lib.hid (by rw [← HXT.out]; exact HO4.out), HU4, HR4, HK4⟩
                case measure => simp [intOf]; omega
              · obtain rfl : N = s := by omega
                have HGF : Hid (∃ bs' : List UInt8, OwnB wr B0 U bs' ∧ bs'.length ≤ 200 + T' * 60 ∧ bs' ++ runsL a.cells b.cells T' (bl.drop (z + 1)) = Z ∧ okL a.cells b.cells T' (bl.drop (z + 1))) := Lib.hid (by
                  have h := HO.out
                  rw [List.take_of_length_le (by rw [HSL.out.1]; exact Nat.le_refl _)] at h
                  refine ⟨_, h, ?_, ?_, HOK.out⟩
                  · have h1 := runesB_le sl (fun y hy => (HSL.out.2.1 y hy).2)
                    have h2 := HBL.out
                    have h3 := HNS.out.2.2
                    have h4 := HSL.out.1
                    have h5 := HTN.out
                    simp only [List.length_append]
                    omega
                  · rw [← HBZ.out, HRUN.out]
                    simp only [List.append_assoc])
                have hge2 : ¬ ((N : Int) < (N : Int)) := by omega
                have hk19 : K ≤ 1920 := HK19.out.2
                clear HO
                go_wp2_with (fail)
                go_roundw
                case rel => exact ⟨U, z + 1, T', rfl, by omega, htn, by go_num, by go_num, HGF, HU, HR, HK⟩
                case measure => simp [intOf]; omega
          · obtain rfl : K = z := by omega
            have hge2 : ¬ ((K : Int) < (K : Int)) := by omega
            have HOZ : Hid (OwnB wr B0 U Z ∧ Z.length ≤ 200000) := Lib.hid (by
              obtain ⟨bs, q1, q2, q3, q4⟩ := HST.out
              rw [List.drop_of_length_le (by rw [HK19.out.1]; exact Nat.le_refl _), runsL, List.append_nil] at q3
              rw [← q3]; exact ⟨q1, by have := HN.out.1; omega⟩)
            clear HST
            go_wp2_with (fail)
            go_ret
            exact ⟨_, rfl, Own.low HOZ.out.1 HB00.out.1, HB0.out.trans (HK.out.mono HB00.out.1), HOZ.out.2⟩
end Go.Proofs.YtnnekdefncfeeaaDoor

