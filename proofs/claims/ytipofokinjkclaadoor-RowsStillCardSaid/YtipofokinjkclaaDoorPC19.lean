/- Parts one behind the other: What the reference's Blanks, Of, New (of a grid) and Blank (of a screen) answer; What the reference's New (of a grid) and Blank (of a screen) answer; Plain law: how numbers are laid as bytes; no program in sight; What the layer wire's and its reference's Var answer: a number laid by as few bytes as can be. Conditions: as told at each. -/
import Derived.Test.YtipofokinjkclaaDoorPC18
import Derived.WalkKit
import Derived.Laws.BitsAllLaws
import Derived.Test.YtipofokinjkclaaDoorPC1

set_option linter.unusedVariables false
set_option linter.unusedSimpArgs false
/- What the reference's Blanks, Of, New (of a grid) and Blank (of a screen) answer. Conditions: sizes that fit. -/
namespace Go.Proofs.YtipofokinjkclaaDoor
open Go Go.RowKit Go.Lib

theorem step_appC {ops : Array Oper} {o : Oper} {a : Act} {w : World} {K : Act → World → Prop} {Q : Exit → Act → World → Prop} {E : Prop} (hgd : o.guard = none) (s x : Operand)
    (ho : o.op = .call { callee := .builtin .append, args := #[s, x], argTypes := #[22, 22] })
    (B : Nat) (v : Value) (ds : List CeD) (hs : a.eval s = v) (hown : OwnC w B v ds)
    (A : Option Addr) (m c : Nat) (ns : List CeD) (hx : a.eval x = .slice A m c) (hm : ns.length = m) (hr : RdC w A ns)
    (hlen : ds.length + m ≤ 6000000000000) (hB : B ≤ w.heap.size)
    (h : ∀ v' w', Hid (OwnC w' B v' (ds ++ ns)) → w.grownBy w' v.ownBlock → K (a.put o.dst v') w') :
    if Region.wanted o (yielded ops a.tmps) = true then Oper.wp Tryd.prog o a w K Q else E := by
  rw [if_pos (wanted_none hgd)]
  obtain ⟨i0, hi, hz0, hz1, hz2⟩ := info_parts info_ce
  obtain ⟨v', w', hrun, h2, h3, h4⟩ := run_appC (P := Tryd.prog) w B 22 o.type 47 i0 _ 6 20 Tryd.underlying22 hi hz0 hz1 hz2 rfl (by decide) v ds.length (cellsC ds) hown A m c (cellsC ns) (by rw [cellsC_length, hm]) hr (cellsC_one _) (by unfold maxLen; omega) (by omega) hB
  unfold Oper.wp execOp
  simp only [ho, resolve, invoke, builtin, Sem.run_bind, Sem.run_pure, Result.andThen_ok, List.map_toArray, List.map_cons, List.map_nil, hs, hx, hrun]
  refine h v' w' (Lib.hid ?_) h3
  unfold OwnC
  rw [cellsC_append, List.length_append, hm]
  exact h2
theorem info_penB : (Tryd.prog.info? 45).map (·.size) = some 4 := by kernel_rfl
set_option maxRecDepth 100000 in
set_option maxHeartbeats 16000000 in
theorem refBlanks09_c (N : Nat) (w : World) (hN : N ≤ 80) :
    Calls Tryd.prog 113 #[.int .i64 (N : Int), penZ] w fun e w' => ∃ b, e = .returned (.slice (some ⟨b, 0, none⟩) N N) ∧ OwnC w' w.heap.size (.slice (some ⟨b, 0, none⟩) N N) (List.replicate N blankD) ∧ Below w.heap.size w w' := by
  obtain ⟨W0, eW0⟩ : ∃ W0, W0 = w.alloc (.cells #[.int .u32 0, .int .u32 0, .int .u8 0, .int .u16 0] 45) := ⟨_, rfl⟩
  obtain ⟨p, ep⟩ : ∃ p, p = w.heap.size := ⟨_, rfl⟩
  have HB0 : Hid (Below w.heap.size w W0) := Lib.hid (by rw [eW0]; exact (Below.refl _ _).alloc (Nat.le_refl _) _)
  have HP0 : Hid (W0.heap[p]? = some (.cells #[.int .u32 0, .int .u32 0, .int .u8 0, .int .u16 0] 45 (0, 0))) := Lib.hid (by rw [eW0, ep]; exact heap_alloc_new _ _)
  have EW0 := Lib.hid eW0
  have EP := Lib.hid ep
  clear eW0 ep
  show Calls _ _ #[.int .i64 (N : Int), .agg #[.int .u32 0, .int .u32 0, .int .u8 0, .int .u16 0]] w _
  go_enter Tryd.func113, Tryd.ntmps113
  go_upto_region 1 with (fail)
  rw [← EW0.out, ← EP.out]
  go_upto_region 2 with (at_make; refine wpList_makeC _ rfl (.tmp 7) (.tmp 7) rfl _ _ _ _ N rfl rfl rfl rfl (by omega) ?_; intro w1 h1 h2 _; have H1 := Lib.hid h1; have HB1 := Lib.hid h2; clear h1 h2)
  obtain ⟨b, eb⟩ : ∃ b, b = W0.heap.size := ⟨_, rfl⟩
  rw [← eb] at H1 ⊢
  have HO1 : Hid (OwnC w1 b (.slice (some ⟨b, 0, none⟩) N N) (halfB N 0)) := Lib.hid (by simpa [halfB] using H1.out)
  have HP1 := Lib.hid ((HB1.out.block p (heap_lt HP0.out)).trans HP0.out)
  have HW1 := Lib.hid (HB0.out.trans (HB1.out.mono HB0.out.size))
  have HS : Hid (p < b ∧ w.heap.size ≤ b) := Lib.hid ⟨by rw [eb]; exact heap_lt HP0.out, by rw [eb]; exact HB0.out.size⟩
  clear eb H1 HB1
  go_wp2_with (fail)
  go_loopw [11] (fun i wr => ∃ k : Nat, k ≤ N ∧ i = .int .i64 k ∧ Hid (OwnC wr b (.slice (some ⟨b, 0, none⟩) N N) (halfB N k)) ∧ Hid (wr.heap[p]? = some (.cells #[.int .u32 0, .int .u32 0, .int .u8 0, .int .u16 0] 45 (0, 0))) ∧ Hid (Below w.heap.size w wr)) (fun i _ => N - (intOf i).toNat)
  case atStart => exact ⟨0, Nat.zero_le _, rfl, HO1, HP1, HW1⟩
  case round =>
    obtain ⟨k, hk, rfl, HO, HP, HBW⟩ := hrel
    rcases Nat.lt_or_ge k N with hlt | hge
    · have hlt' : (k : Int) < (N : Int) := by omega
      obtain ⟨M, eM⟩ : ∃ M, M = halfB N k := ⟨_, rfl⟩
      have HML : Hid (M.length = N) := Lib.hid (by rw [eM]; exact halfB_len hk)
      have HM2 : Hid (M.set k blankD = halfB N (k + 1)) := Lib.hid (by rw [eM]; exact halfB_set hlt)
      have HOM : Hid (OwnC wr b (.slice (some ⟨b, 0, none⟩) N N) M) := Lib.hid (by rw [eM]; exact HO.out)
      clear eM HO
      go_upto_region 6 with (first
        | (refine wpList_load_row rfl 45 (.tmp 3) rfl p rfl 45 _ (0, 0) _ HP.out Tryd.underlying45 rfl (info_penB.trans rfl) ?_)
        | (go_at_call 139; (refine (refBlank08_c wr).mono ?_); rintro _ w4 ⟨rfl, hb4⟩; obtain ⟨yo, -, z0, z1, z2, z3, z4, z5⟩ := (OwnC.below HOM.out hb4).cellsAt k (by rw [HML.out]; exact hlt); have f0 := (OwnC.below HOM.out hb4).free (k * 6); have f1 := (OwnC.below HOM.out hb4).free (k * 6 + 1); have f2 := (OwnC.below HOM.out hb4).free (k * 6 + 2); have f3 := (OwnC.below HOM.out hb4).free (k * 6 + 3); have f4 := (OwnC.below HOM.out hb4).free (k * 6 + 4); have f5 := (OwnC.below HOM.out hb4).free (k * 6 + 5); have HO4 := Lib.hid (OwnC.below HOM.out hb4); have HK4 := Lib.hid hb4; clear hb4; rw [show blankD.val = .agg #[.int .i32 32, .int .u8 0, .int .u32 0, .int .u32 0, .int .u8 0, .int .u16 0] from rfl]))
      obtain ⟨W5, eW5⟩ : ∃ W5, W5 = (((((w4.setCell ⟨b, k * 6, none⟩ (.int .i32 blankD.r)).setCell ⟨b, k * 6 + 1, none⟩ (.int .u8 blankD.w)).setCell ⟨b, k * 6 + 2, none⟩ (.int .u32 blankD.fg)).setCell ⟨b, k * 6 + 3, none⟩ (.int .u32 blankD.bg)).setCell ⟨b, k * 6 + 4, none⟩ (.int .u8 blankD.at_)).setCell ⟨b, k * 6 + 5, none⟩ (.int .u16 blankD.ln) := ⟨_, rfl⟩
      have eW5' : (((((w4.setCell ⟨b, k * 6, none⟩ (.int .i32 32)).setCell ⟨b, k * 6 + 1, none⟩ (.int .u8 0)).setCell ⟨b, k * 6 + 2, none⟩ (.int .u32 0)).setCell ⟨b, k * 6 + 3, none⟩ (.int .u32 0)).setCell ⟨b, k * 6 + 4, none⟩ (.int .u8 0)).setCell ⟨b, k * 6 + 5, none⟩ (.int .u16 0) = W5 := by rw [eW5]; rfl
      rw [eW5']
      have hpb : p ≠ b := by have := HS.out.1; omega
      have HO5 : Hid (OwnC W5 b (.slice (some ⟨b, 0, none⟩) N N) (halfB N (k + 1))) := Lib.hid (by
        have h := HO4.out.setAll k (by rw [HML.out]; exact hlt) blankD
        rw [HM2.out] at h
        rw [eW5]; exact h)
      have HP5 := Lib.hid ((show W5.heap[p]? = wr.heap[p]? by rw [eW5]; exact (six_far _ _ _ _ _ _ _ _ _ _ _ _ _ _ _ hpb).trans (HK4.out.block p (heap_lt HP.out))).trans HP.out)
      have HB5 : Hid (Below w.heap.size w W5) := Lib.hid (by
        rw [eW5]; exact six_below (HBW.out.trans (HK4.out.mono HBW.out.size)) _ _ _ _ _ _ _ _ _ _ _ _ _ HS.out.2)
      clear z0 z1 z2 z3 z4 z5 f0 f1 f2 f3 f4 f5 eW5 eW5' hpb HO4 HK4
      go_wp2_with (fail)
      go_roundw
      case rel => exact ⟨k + 1, by omega, by go_num, HO5, HP5, HB5⟩
      case measure => simp [intOf]; omega
    · obtain rfl : N = k := by omega
      have hge' : ¬ ((N : Int) < (N : Int)) := by omega
      have HO9 : Hid (OwnC wr b (.slice (some ⟨b, 0, none⟩) N N) (List.replicate N blankD)) := Lib.hid (by have h := HO.out; rw [halfB_end] at h; exact h)
      clear hge hk HO
      go_wp2_with (fail)
      go_ret
      exact ⟨b, rfl, OwnC.low HO9.out HS.out.2, HBW.out⟩
/-- Rows of blanks, so wide. -/
def RowsB (w : World) (C : Nat) (vs : List Value) : Prop := ∀ v ∈ vs, ∃ A, v = .slice A C C ∧ RdC w A (List.replicate C blankD)
theorem RowsB.below {w w' : World} {C : Nat} {vs : List Value} (h : RowsB w C vs) (hb : Below w.heap.size w w') : RowsB w' C vs := fun v hv => by
  obtain ⟨A, e, r⟩ := h v hv
  exact ⟨A, e, RdC.below r hb⟩
theorem RowsB.add {w : World} {C : Nat} {vs : List Value} (h : RowsB w C vs) {A : Option Addr} (hr : RdC w A (List.replicate C blankD)) : RowsB w C (vs ++ [.slice A C C]) := fun v hv => by
  rcases List.mem_append.1 hv with hv | hv
  · exact h v hv
  · rw [List.mem_singleton] at hv; subst hv; exact ⟨A, rfl, hr⟩
set_option maxRecDepth 100000 in
set_option maxHeartbeats 16000000 in
theorem Of_c (C R c : Nat) (A : Option Addr) (vs : List Value) (w : World) (hn : vs.length = R) (hr : Rd w A vs) (hv : RowsB w C vs) (hC : C ≤ 80) (hR : R ≤ 24) (hR1 : 1 ≤ R) :
    Calls Tryd.prog 114 #[.slice A R c] w fun e w' => ∃ A' c', e = .returned (.agg (gridA C R (.slice A' (R * C) c'))) ∧ OwnC w' w.heap.size (.slice A' (R * C) c') (List.replicate (R * C) blankD) ∧ Below w.heap.size w w' := by
  obtain ⟨W0, eW0⟩ : ∃ W0, W0 = w.alloc (.cells (gridA 0 0 (.slice none 0 0)) 67) := ⟨_, rfl⟩
  obtain ⟨q, eq⟩ : ∃ q, q = w.heap.size := ⟨_, rfl⟩
  have hb0 : Below w.heap.size w W0 := by rw [eW0]; exact (Below.refl _ _).alloc (Nat.le_refl _) _
  have HB0 := Lib.hid hb0
  have HQ0 : Hid (W0.heap[q]? = some (.cells (gridA 0 0 (.slice none 0 0)) 67 (0, 0))) := Lib.hid (by rw [eW0, eq]; exact heap_alloc_new _ _)
  have EW0 : Hid (w.alloc (.cells #[.int .i64 0, .int .i64 0, .slice none 0 0] 67) = W0) := Lib.hid (by rw [eW0]; rfl)
  have EQ := Lib.hid eq
  have HQW : Hid (w.heap.size ≤ q) := Lib.hid (Nat.le_of_eq eq.symm)
  have HR0 := Lib.hid hr
  have HV0 := Lib.hid hv
  have HNN := Lib.hid hn
  clear hb0 eW0 eq hr hv hn
  go_enter Tryd.func114, Tryd.ntmps114
  go_upto_region 1 with (fail)
  rw [EW0.out, ← EQ.out]
  go_upto_region 2 with (first
    | (refine wpList_store_rowTo rfl 67 (.tmp 3) (.tmp 7) rfl rfl W0.heap.size (gridA 0 (R : Int) (.slice none 0 0)) rfl rfl 67 _ (heap_alloc_new W0 _) (info_grid.trans rfl) rfl (gridA_one _ _ _ _ _) ?_))
  generalize eX : World.alloc W0 _ = X
  have hx : Below W0.heap.size W0 X := by rw [← eX]; exact (Below.refl _ _).alloc (Nat.le_refl _) _
  obtain ⟨old, hq2⟩ : ∃ old, X.heap[W0.heap.size]? = some (.cells old 67 (0, 0)) := ⟨_, by rw [← eX]; exact heap_alloc_new _ _⟩
  obtain ⟨g, eg⟩ : ∃ g, g = W0.heap.size := ⟨_, rfl⟩
  obtain ⟨W2, eW2⟩ : ∃ W2, W2 = X.setRow W0.heap.size (gridA 0 (R : Int) (.slice none 0 0)) := ⟨_, rfl⟩
  rw [← eW2, ← eg]
  have HG2 : Hid (W2.heap[g]? = some (.cells (gridA 0 (R : Int) (.slice none 0 0)) 67 (0, 0))) := Lib.hid (by rw [eW2, eg]; exact setRow_heap _ _ _ _ _ _ hq2)
  have hb2 : Below W0.heap.size W0 W2 := by rw [eW2]; exact below_setRow hx (Nat.le_refl _) _
  have HQ2 := Lib.hid ((hb2.block q (heap_lt HQ0.out)).trans HQ0.out)
  have HB2 := Lib.hid (HB0.out.trans (hb2.mono HB0.out.size))
  have HS : Hid (q < g ∧ w.heap.size ≤ g) := Lib.hid ⟨by rw [eg]; exact heap_lt HQ0.out, by rw [eg]; exact HB0.out.size⟩
  obtain ⟨base, ebase⟩ : ∃ base, base = W2.heap.size := ⟨_, rfl⟩
  have HBA : Hid (g < base ∧ w.heap.size ≤ base) := Lib.hid ⟨by rw [ebase]; exact heap_lt HG2.out, by rw [ebase]; exact HB2.out.size⟩
  have HBZ : Hid (base ≤ W2.heap.size) := Lib.hid (Nat.le_of_eq ebase)
  clear eX hx hq2 eg eW2 hb2 ebase
  go_wp2_with (fail)
  go_loopw [10] (fun i wr => ∃ (y : Nat) (A' : Option Addr) (c' : Nat), y ≤ R ∧ i = .int .i64 y ∧ Hid (OwnC wr base (.slice A' (y * C) c') (List.replicate (y * C) blankD)) ∧ Hid (wr.heap[g]? = some (.cells (gridA (if y = 0 then 0 else (C : Int)) (R : Int) (.slice A' (y * C) c')) 67 (0, 0))) ∧ Hid (wr.heap[q]? = some (.cells (gridA 0 0 (.slice none 0 0)) 67 (0, 0))) ∧ Hid (Below w.heap.size w wr) ∧ Hid (base ≤ wr.heap.size)) (fun i _ => R - (intOf i).toNat)
  case atStart => exact ⟨0, none, 0, Nat.zero_le _, rfl, Lib.hid (by rw [Nat.zero_mul]; exact OwnC.nil_ _ _), Lib.hid (by rw [Nat.zero_mul]; exact HG2.out), HQ2, HB2, HBZ⟩
  case round =>
    obtain ⟨y, A', c', hy, rfl, HO, HG, HQ, HBW, HZ⟩ := hrel
    rcases Nat.lt_or_ge y R with hlt | hge
    · have hlt' : (y : Int) < (R : Int) := by omega
      have hyl : y < vs.length := by rw [HNN.out]; exact hlt
      obtain ⟨Ay, ey, hry⟩ := HV0.out vs[y] (List.getElem_mem _)
      have HRY := Lib.hid hry
      obtain ⟨b, off, hA, hbl, hcell⟩ := Rd.addr (Rd.below HR0.out HBW.out) (by omega)
      subst hA
      have cy : wr.cell? ⟨b, off + y, none⟩ = some (.slice Ay C C) := by rw [← ey]; exact hcell y hyl
      have k0 : wr.cell? ⟨g, 0, none⟩ = some (.int .i64 (if y = 0 then 0 else (C : Int))) := heap_cell HG.out 0
      have fr0 := heap_free HG.out 0
      have HBL : Hid (b < wr.heap.size) := Lib.hid hbl
      have HCY := Lib.hid cy
      have HBN : Hid (b < w.heap.size) := Lib.hid (by
        rcases HR0.out with h | ⟨b2, o2, e2, h2, _⟩
        · rw [h] at hyl; simp at hyl
        · injection e2 with e2; injection e2 with e2; omega)
      clear hry hbl hcell hyl ey
      go_upto_region 6 with (fail)
      obtain ⟨W5, eW5⟩ : ∃ W5, W5 = wr.setCell ⟨g, 0, none⟩ (.int .i64 (C : Int)) := ⟨_, rfl⟩
      rw [← eW5]
      have hfar : ∀ j, j ≠ g → W5.heap[j]? = wr.heap[j]? := fun j hj => by rw [eW5]; exact heap_far _ hj
      have HG5 : Hid (W5.heap[g]? = some (.cells (gridA (C : Int) (R : Int) (.slice A' (y * C) c')) 67 (0, 0))) := Lib.hid (by rw [eW5]; exact heap_set HG.out 0 _)
      have HQ5 : Hid (W5.heap[q]? = some (.cells (gridA 0 0 (.slice none 0 0)) 67 (0, 0))) := Lib.hid ((hfar q (by have := HS.out.1; omega)).trans HQ.out)
      have HO5 : Hid (OwnC W5 base (.slice A' (y * C) c') (List.replicate (y * C) blankD)) := Lib.hid (OwnC.keep HO.out (fun j e => hfar j (by have h1 := (OwnC.lt HO.out j e).1; have h2 := HBA.out.1; omega)))
      have HB5 : Hid (Below w.heap.size w W5) := Lib.hid (by rw [eW5]; exact below_set HBW.out g _ _ HS.out.2)
      have hz5 : W5.heap.size = wr.heap.size := by rw [eW5]; simp [World.setCell]
      have HZ5 : Hid (base ≤ W5.heap.size) := Lib.hid (by rw [hz5]; exact HZ.out)
      have HRY5 : Hid (RdC W5 Ay (List.replicate C blankD)) := Lib.hid (RdC.below HRY.out HB5.out)
      have cy5 : W5.cell? ⟨b, off + y, none⟩ = some (.slice Ay C C) := (World.cell?_of_block (w := wr) (w' := W5) (a := ⟨b, off + y, none⟩) (hfar b (by have h1 := HBN.out; have h2 := HS.out.2; show b ≠ g; omega))).trans HCY.out
      have k2 : W5.cell? ⟨g, 2, none⟩ = some (.slice A' (y * C) c') := heap_cell HG5.out 2
      have fr2 := heap_free HG5.out 2
      have hmul : (y + 1) * C = y * C + C := Nat.succ_mul y C
      have hbd : y * C ≤ 1920 := by have := Nat.mul_le_mul (show y ≤ 24 by omega) hC; omega
      have HMU : Hid (List.replicate (y * C) blankD ++ List.replicate C blankD = List.replicate ((y + 1) * C) blankD) := Lib.hid (by rw [hmul, List.replicate_append_replicate])
      have HMN := Lib.hid hmul
      clear eW5 hfar hz5 cy k0 fr0 hmul
      go_region_law (first
        | (refine step_appC rfl (.tmp 20) (.tmp 24) rfl base _ (List.replicate (y * C) blankD) rfl HO5.out Ay C C (List.replicate C blankD) rfl (by simp) HRY5.out (by rw [List.length_replicate]; omega) HZ5.out ?_; intro v7 w7 HO7 hg7; have q7 := HO7.out; rw [HMU.out] at q7; obtain ⟨A7, c8, e7, -⟩ := q7.form; rw [List.length_replicate] at e7; subst e7; have HO8 := Lib.hid q7; clear q7 HO7; have c7 : w7.heap[g]? = W5.heap[g]? := hg7.block g (heap_lt HG5.out) (fun e => by have h1 := (OwnC.lt HO5.out g e.symm).1; have h2 := HBA.out.1; omega); have d7 : w7.heap[q]? = W5.heap[q]? := hg7.block q (heap_lt HQ5.out) (fun e => by have h1 := (OwnC.lt HO5.out q e.symm).1; have h2 := HBA.out.1; have h3 := HS.out.1; omega); have fr7 : w7.frozen? ⟨g, 2, none⟩ = false := heap_free (c7.trans HG5.out) 2; have k7 : w7.cell? ⟨g, 2, none⟩ = some (.slice A' (y * C) c') := heap_cell (c7.trans HG5.out) 2; have C7 := Lib.hid (c7.trans HG5.out); have D7 := Lib.hid (d7.trans HQ5.out); have G7 : Hid (W5.drew.grownBy w7 (Value.slice A' (y * C) c').ownBlock) := Lib.hid hg7; clear c7 d7 hg7))
      all_goals
        obtain ⟨W9, eW9⟩ : ∃ W9, W9 = w7.setCell ⟨g, 2, none⟩ (.slice A7 ((y + 1) * C) c8) := ⟨_, rfl⟩
        rw [← eW9]
        have hfar : ∀ j, j ≠ g → W9.heap[j]? = w7.heap[j]? := fun j hj => by rw [eW9]; exact heap_far _ hj
        have HG9 : Hid (W9.heap[g]? = some (.cells (gridA (if y + 1 = 0 then 0 else (C : Int)) (R : Int) (.slice A7 ((y + 1) * C) c8)) 67 (0, 0))) := Lib.hid (by rw [eW9, if_neg (Nat.succ_ne_zero y)]; exact heap_set C7.out 2 _)
        have HQ9 : Hid (W9.heap[q]? = some (.cells (gridA 0 0 (.slice none 0 0)) 67 (0, 0))) := Lib.hid ((hfar q (by have := HS.out.1; omega)).trans D7.out)
        have HO9 : Hid (OwnC W9 base (.slice A7 ((y + 1) * C) c8) (List.replicate ((y + 1) * C) blankD)) := Lib.hid (OwnC.keep HO8.out (fun j e => hfar j (by have h1 := (OwnC.lt HO8.out j e).1; have h2 := HBA.out.1; omega)))
        have HB9 : Hid (Below w.heap.size w W9) := Lib.hid (by rw [eW9]; exact below_set ((below_drewN HB5.out 1).grown G7.out HB5.out.size (fun j e => Nat.le_trans HBA.out.2 (OwnC.lt HO5.out j e).1)) g _ _ HS.out.2)
        have hz9 : W9.heap.size = w7.heap.size := by rw [eW9]; simp [World.setCell]
        have HZ9 : Hid (base ≤ W9.heap.size) := Lib.hid (by rw [hz9]; exact Nat.le_trans HZ5.out G7.out.size)
        clear eW9 hfar hz9 fr7 k7
        go_wp2_with (fail)
        go_roundw
        case rel => exact ⟨y + 1, A7, c8, by omega, by go_num, HO9, HG9, HQ9, HB9, HZ9⟩
        case measure => simp [intOf]; omega
    · obtain rfl : R = y := by omega
      have hge' : ¬ ((R : Int) < (R : Int)) := by omega
      have HG9 : Hid (wr.heap[g]? = some (.cells (gridA (C : Int) (R : Int) (.slice A' (R * C) c')) 67 (0, 0))) := Lib.hid (by have h := HG.out; rw [if_neg (by omega)] at h; exact h)
      clear hge hy HG
      go_wp2_with (first
        | (refine wpList_load_row rfl 67 (.tmp 3) rfl g rfl 67 _ (0, 0) _ HG9.out Tryd.underlying67 rfl (info_grid.trans rfl) ?_)
        | (refine wpList_store_rowTo rfl 67 (.tmp 2) (.tmp 28) rfl rfl q (gridA (C : Int) (R : Int) (.slice A' (R * C) c')) rfl rfl 67 _ HQ.out (info_grid.trans rfl) rfl (gridA_one _ _ _ _ _) ?_))
      refine bodyPost_ret (v := .agg (gridA (C : Int) (R : Int) (.slice A' (R * C) c'))) (results_cell_row (p := 2) (ty := 67) rfl _ _ q 67 _ (0, 0) _ rfl (setRow_heap wr q _ _ _ _ HQ.out) Tryd.underlying67 rfl (info_grid.trans rfl)) rfl ?_
      exact ⟨A', c', rfl, OwnC.low (OwnC.keep HO.out (fun j e => setRow_other _ _ _ _ (by have h1 := (OwnC.lt HO.out j e).1; have h2 := HBA.out.1; have h3 := HS.out.1; omega))) HBA.out.2, below_setRow HBW.out HQW.out _⟩
end Go.Proofs.YtipofokinjkclaaDoor

/- What the reference's New (of a grid) and Blank (of a screen) answer. Conditions: none. -/
namespace Go.Proofs.YtipofokinjkclaaDoor
open Go Go.RowKit Go.Lib

/-- Rows of blanks, each in a block of its own. -/
def RowsO (w : World) (B C : Nat) (vs : List Value) : Prop := ∀ v ∈ vs, ∃ b, v = .slice (some ⟨b, 0, none⟩) C C ∧ OwnC w B v (List.replicate C blankD)
theorem RowsO.below {w w' : World} {B C : Nat} {vs : List Value} (h : RowsO w B C vs) (hb : Below w.heap.size w w') : RowsO w' B C vs := fun v hv => by
  obtain ⟨b, e, r⟩ := h v hv
  exact ⟨b, e, OwnC.below r hb⟩
theorem RowsO.reads {w : World} {B C : Nat} {vs : List Value} (h : RowsO w B C vs) : RowsB w C vs := fun v hv => by
  obtain ⟨b, rfl, r⟩ := h v hv
  refine ⟨_, rfl, ?_⟩
  obtain ⟨A2, c2, e2, _, _, g, _⟩ := r.form
  injection e2 with e2
  rw [e2]; exact g
theorem row_apart {w : World} {B B' : Nat} {u v : Value} {ds : List CeD} {xs : List Value} (h1 : OwnC w B u ds) (h2 : Own w B' 22 v xs) : ∀ g, u.ownBlock = some g → v.ownBlock ≠ some g := by
  intro g hu hv
  rcases h1.2 with ⟨rfl, _⟩ | ⟨g1, cap, cur, rfl, _, hg, _⟩
  · cases hu
  · rcases h2.2 with ⟨rfl, _⟩ | ⟨g2, cap2, cur2, rfl, _, hg2, _⟩
    · cases hv
    · have e1 : g1 = g := by injection hu
      have e2 : g2 = g := by injection hv
      rw [e1] at hg
      rw [e2, hg] at hg2
      injection hg2 with hg2
      injection hg2 with _ h3 _
      exact absurd h3 (by decide)
theorem RowsO.app {w w1 w3 : World} {B B' C : Nat} {vs xs : List Value} {u : Value} (h : RowsO w B C vs) (hu : Own w B' 22 u xs) (h1 : Below w.heap.size w w1) (hg : w1.grownBy w3 u.ownBlock) : RowsO w3 B C vs := fun v hv => by
  obtain ⟨b, e, r⟩ := h v hv
  refine ⟨b, e, OwnC.keep r (fun j ej => ?_)⟩
  have hj := (OwnC.lt r j ej).2
  exact (hg.block j (Nat.lt_of_lt_of_le hj h1.size) (fun e2 => row_apart r hu j ej e2.symm)).trans (h1.block j hj)
theorem RowsO.add {w : World} {B C b : Nat} {vs : List Value} (h : RowsO w B C vs) (hr : OwnC w B (.slice (some ⟨b, 0, none⟩) C C) (List.replicate C blankD)) : RowsO w B C (vs ++ [.slice (some ⟨b, 0, none⟩) C C]) := fun v hv => by
  rcases List.mem_append.1 hv with hv | hv
  · exact h v hv
  · rw [List.mem_singleton] at hv; subst hv; exact ⟨b, rfl, hr⟩
set_option maxRecDepth 100000 in
set_option maxHeartbeats 16000000 in
theorem refNew09_c (C R N : Nat) (w : World) (hf : fitsI (C : Int) (R : Int) = true) (hN : N = C * R) :
    Calls Tryd.prog 70 #[.int .i64 (C : Int), .int .i64 (R : Int)] w fun e w' => ∃ A' c', e = .returned (.tuple #[.agg (gridA C R (.slice A' N c')), .int .i64 0]) ∧ OwnC w' w.heap.size (.slice A' N c') (List.replicate N blankD) ∧ Below w.heap.size w w' := by
  have hB : 1 ≤ C ∧ C ≤ 80 ∧ 1 ≤ R ∧ R ≤ 24 := by simp only [fitsI, Bool.and_eq_true, decide_eq_true_eq] at hf; omega
  have HBD := Lib.hid hB
  have HN := Lib.hid hN
  have f1 : decide ((C : Int) < 1) = false := decide_eq_false (by omega)
  have f2 : decide (80 < (C : Int)) = false := decide_eq_false (by omega)
  have f3 : decide ((R : Int) < 1) = false := decide_eq_false (by omega)
  have f4 : decide (24 < (R : Int)) = false := decide_eq_false (by omega)
  obtain ⟨W0, eW0⟩ : ∃ W0, W0 = w.alloc (.cells (gridA 0 0 (.slice none 0 0)) 67) := ⟨_, rfl⟩
  obtain ⟨q, eq⟩ : ∃ q, q = w.heap.size := ⟨_, rfl⟩
  have HB0 : Hid (Below w.heap.size w W0) := Lib.hid (by rw [eW0]; exact (Below.refl _ _).alloc (Nat.le_refl _) _)
  have HQ0 : Hid (W0.heap[q]? = some (.cells (gridA 0 0 (.slice none 0 0)) 67 (0, 0))) := Lib.hid (by rw [eW0, eq]; exact heap_alloc_new _ _)
  have EW0 : Hid (w.alloc (.cells #[.int .i64 0, .int .i64 0, .slice none 0 0] 67) = W0) := Lib.hid (by rw [eW0]; rfl)
  have EQ := Lib.hid eq
  have HQW : Hid (w.heap.size ≤ q) := Lib.hid (Nat.le_of_eq eq.symm)
  have HZ0 : Hid (W0.heap.size = q + 1) := Lib.hid (by rw [eW0, eq]; simp)
  clear hf hN eW0 eq hB
  go_enter Tryd.func70, Tryd.ntmps70
  go_upto_region 1 with (fail)
  rw [EW0.out, ← EQ.out]
  go_wp2_with (fail)
  clear f1 f2 f3 f4
  go_loopw [6, 7] (fun v i wr => ∃ (y : Nat) (vs : List Value), y ≤ R ∧ i = .int .i64 y ∧ Hid (Below w.heap.size w wr) ∧ Hid (wr.heap[q]? = some (.cells (gridA 0 0 (.slice none 0 0)) 67 (0, 0))) ∧ Hid (Own wr (q + 1) 22 v vs) ∧ Hid (vs.length = y) ∧ Hid (RowsO wr (q + 1) C vs)) (fun _ i _ => R - (intOf i).toNat)
  case atStart =>
    refine ⟨0, [], Nat.zero_le _, rfl, Lib.hid (HB0.out.alloc HB0.out.size _), Lib.hid ((Below.heap_alloc _ _ _ (heap_lt HQ0.out)).trans HQ0.out), Lib.hid ?_, Lib.hid rfl, Lib.hid (fun v hv => by cases hv)⟩
    have hz : W0.heap.size = q + 1 := HZ0.out
    have := World.ownsRow_made W0 (e := 22) (base := q + 1) (size := 1) #[] 0 (by rw [hz]; exact Nat.le_refl _) (Nat.zero_le _) rfl
    simpa [Own] using this
  case round =>
    obtain ⟨y, vs, hy, rfl, HB, HQ, HO, HL, HV⟩ := hrel
    rcases Nat.lt_or_ge y R with hlt | hge
    · have hlt' : (y : Int) < (R : Int) := by omega
      have hr24 : R ≤ 24 := HBD.out.2.2.2
      have HSZ : Hid (q < wr.heap.size) := Lib.hid (heap_lt HQ.out)
      go_wp2_with (first
        | (go_at_call 113; (refine (refBlanks09_c C wr HBD.out.2.1).mono ?_); rintro _ w1 ⟨b, rfl, ho1, hb1⟩; have HR1 : Hid (RdC w1 (some ⟨b, 0, none⟩) (List.replicate C blankD)) := Lib.hid (by obtain ⟨A2, c2, e2, _, _, h, _⟩ := ho1.form; injection e2 with e2; rw [e2]; exact h); have HB1 := Lib.hid (HB.out.trans (hb1.mono HB.out.size)); have HQ1 := Lib.hid ((hb1.block q HSZ.out).trans HQ.out); have HO1 := Lib.hid (Own.below HO.out hb1); have HV1 : Hid (RowsO w1 (q + 1) C (vs ++ [.slice (some ⟨b, 0, none⟩) C C])) := Lib.hid ((HV.out.below hb1).add (OwnC.low ho1 (by have := HSZ.out; omega))); have HS1 := Lib.hid (Nat.lt_of_lt_of_le HSZ.out hb1.size); clear ho1 hb1)
        | (at_builtin; go_must (refine wpList_appRw1 w1 rfl (.tmp 29) (.tmp 33) rfl (q + 1) u6 vs rfl HO1.out (.slice (some ⟨b, 0, none⟩) C C) rfl rfl (by have := HL.out; have := HBD.out; omega) (by have := HS1.out; omega) ?_); intro v3 w3 h3 hg3; have hA : Below (q + 1) w1 (w1.alloc (.cells #[.slice (some ⟨b, 0, none⟩) C C] 22)) := (Below.refl _ _).alloc (by have := HS1.out; omega) _; have HB3 := Lib.hid (hA.grown hg3 (by have := HS1.out; simp; omega) (fun k hk => (Own.lt HO1.out k hk).1)); have HO3 := Lib.hid h3; have HG3 := Lib.hid hg3; clear h3 hg3 hA))
      go_roundw
      case rel => exact ⟨y + 1, _, by omega, by go_num, Lib.hid (HB1.out.trans (HB3.out.mono (Nat.le_trans HQW.out (Nat.le_succ q)))), Lib.hid ((HB3.out.block q (Nat.lt_succ_self q)).trans HQ1.out), HO3, Lib.hid (by rw [List.length_append, HL.out]; rfl), Lib.hid (HV1.out.app HO1.out ((Below.refl _ _).alloc (Nat.le_refl _) _) HG3.out)⟩
      case measure => simp [intOf]; omega
    · obtain rfl : R = y := by omega
      have hge' : ¬ ((R : Int) < (R : Int)) := by omega
      obtain ⟨A6, c6, rfl, _, _, hr6, _⟩ := Own.form HO.out
      have HR6 := Lib.hid hr6
      rw [HL.out]
      have HBE : Hid (w.heap.size ≤ wr.heap.size) := Lib.hid HB.out.size
      clear hr6
      go_wp2_with (first
        | (go_at_call 114; (refine (Of_c C R c6 A6 vs wr HL.out HR6.out HV.out.reads HBD.out.2.1 HBD.out.2.2.2 HBD.out.2.2.1).mono ?_); rintro _ w2 ⟨A2, c2, rfl, ho2, hb2⟩; rw [show R * C = N by rw [HN.out, Nat.mul_comm]] at ho2 ⊢; have HO2 := Lib.hid ho2; have HQ2 := Lib.hid ((hb2.block q (heap_lt HQ.out)).trans HQ.out); have HB2 := Lib.hid (HB.out.trans (hb2.mono HB.out.size)); have HQL : Hid (q < wr.heap.size) := Lib.hid (heap_lt HQ.out); clear ho2 hb2)
        | (refine wpList_store_rowTo rfl 67 (.tmp 4) (.tmp 36) rfl rfl q (gridA (C : Int) (R : Int) (.slice A2 N c2)) rfl rfl 67 _ HQ2.out (info_grid.trans rfl) rfl (gridA_one _ _ _ _ _) ?_))
      refine bodyPost_ret (v := .tuple #[.agg (gridA (C : Int) (R : Int) (.slice A2 N c2)), .int .i64 0]) (results_row_tmp (p := 4) (u := 5) (ty := 67) rfl _ _ q 67 _ (0, 0) _ _ rfl rfl (setRow_heap w2 q _ _ _ _ HQ2.out) Tryd.underlying67 rfl (info_grid.trans rfl)) rfl ?_
      exact ⟨A2, c2, rfl, OwnC.low (OwnC.keep HO2.out (fun j e => setRow_other _ _ _ _ (by have h1 := (OwnC.lt HO2.out j e).1; have h2 := HQL.out; omega))) HBE.out, below_setRow HB2.out HQW.out _⟩
set_option maxRecDepth 100000 in
set_option maxHeartbeats 8000000 in
theorem refNew09_bad (cols rows : Int) (w : World) (hf : fitsI cols rows = false) :
    Calls Tryd.prog 70 #[.int .i64 cols, .int .i64 rows] w fun e w' => e = .returned (.tuple #[.agg (gridA 0 0 (.slice none 0 0)), .int .i64 1]) ∧ Below w.heap.size w w' := by
  obtain ⟨W0, eW0⟩ : ∃ W0, W0 = w.alloc (.cells (gridA 0 0 (.slice none 0 0)) 67) := ⟨_, rfl⟩
  obtain ⟨q, eq⟩ : ∃ q, q = w.heap.size := ⟨_, rfl⟩
  have HB0 : Hid (Below w.heap.size w W0) := Lib.hid (by rw [eW0]; exact (Below.refl _ _).alloc (Nat.le_refl _) _)
  have HQ0 : Hid (W0.heap[q]? = some (.cells (gridA 0 0 (.slice none 0 0)) 67 (0, 0))) := Lib.hid (by rw [eW0, eq]; exact heap_alloc_new _ _)
  have EW0 : Hid (w.alloc (.cells #[.int .i64 0, .int .i64 0, .slice none 0 0] 67) = W0) := Lib.hid (by rw [eW0]; rfl)
  have EQ := Lib.hid eq
  have HQW : Hid (w.heap.size ≤ q) := Lib.hid (Nat.le_of_eq eq.symm)
  clear eW0 eq
  unfold fitsI at hf
  have f1 : decide (cols < 1) = !decide (1 ≤ cols) := by rw [← decide_not]; exact decide_eq_decide.2 (by omega)
  have f2 : decide (80 < cols) = !decide (cols ≤ 80) := by rw [← decide_not]; exact decide_eq_decide.2 (by omega)
  have f3 : decide (rows < 1) = !decide (1 ≤ rows) := by rw [← decide_not]; exact decide_eq_decide.2 (by omega)
  have f4 : decide (24 < rows) = !decide (rows ≤ 24) := by rw [← decide_not]; exact decide_eq_decide.2 (by omega)
  obtain ⟨b1, e1⟩ : ∃ b, decide (1 ≤ cols) = b := ⟨_, rfl⟩
  obtain ⟨b2, e2⟩ : ∃ b, decide (cols ≤ 80) = b := ⟨_, rfl⟩
  obtain ⟨b3, e3⟩ : ∃ b, decide (1 ≤ rows) = b := ⟨_, rfl⟩
  obtain ⟨b4, e4⟩ : ∃ b, decide (rows ≤ 24) = b := ⟨_, rfl⟩
  rw [e1] at f1; rw [e2] at f2; rw [e3] at f3; rw [e4] at f4
  rw [e1, e2, e3, e4] at hf
  cases b1
  rotate_left
  · cases b2
    rotate_left
    · cases b3
      rotate_left
      · cases b4
        rotate_left
        · cases hf
        · clear hf
          go_enter Tryd.func70, Tryd.ntmps70
          go_upto_region 1 with (fail)
          rw [EW0.out, ← EQ.out]
          go_wp2_with (first
            | (refine wpList_store_rowTo rfl 67 (.tmp 4) (.tmp 22) rfl rfl q (gridA 0 0 (.slice none 0 0)) rfl rfl 67 _ HQ0.out (info_grid.trans rfl) rfl (gridA_one _ _ _ _ _) ?_))
          refine bodyPost_ret (v := .tuple #[.agg (gridA 0 0 (.slice none 0 0)), .int .i64 1]) (results_row_tmp (p := 4) (u := 5) (ty := 67) rfl _ _ q 67 _ (0, 0) _ _ rfl rfl (setRow_heap W0 q _ _ _ _ HQ0.out) Tryd.underlying67 rfl (info_grid.trans rfl)) rfl ?_
          exact ⟨rfl, below_setRow HB0.out HQW.out _⟩
      · clear hf
        go_enter Tryd.func70, Tryd.ntmps70
        go_upto_region 1 with (fail)
        rw [EW0.out, ← EQ.out]
        go_wp2_with (first
          | (refine wpList_store_rowTo rfl 67 (.tmp 4) (.tmp 22) rfl rfl q (gridA 0 0 (.slice none 0 0)) rfl rfl 67 _ HQ0.out (info_grid.trans rfl) rfl (gridA_one _ _ _ _ _) ?_))
        refine bodyPost_ret (v := .tuple #[.agg (gridA 0 0 (.slice none 0 0)), .int .i64 1]) (results_row_tmp (p := 4) (u := 5) (ty := 67) rfl _ _ q 67 _ (0, 0) _ _ rfl rfl (setRow_heap W0 q _ _ _ _ HQ0.out) Tryd.underlying67 rfl (info_grid.trans rfl)) rfl ?_
        exact ⟨rfl, below_setRow HB0.out HQW.out _⟩
    · clear hf
      go_enter Tryd.func70, Tryd.ntmps70
      go_upto_region 1 with (fail)
      rw [EW0.out, ← EQ.out]
      go_wp2_with (first
        | (refine wpList_store_rowTo rfl 67 (.tmp 4) (.tmp 22) rfl rfl q (gridA 0 0 (.slice none 0 0)) rfl rfl 67 _ HQ0.out (info_grid.trans rfl) rfl (gridA_one _ _ _ _ _) ?_))
      refine bodyPost_ret (v := .tuple #[.agg (gridA 0 0 (.slice none 0 0)), .int .i64 1]) (results_row_tmp (p := 4) (u := 5) (ty := 67) rfl _ _ q 67 _ (0, 0) _ _ rfl rfl (setRow_heap W0 q _ _ _ _ HQ0.out) Tryd.underlying67 rfl (info_grid.trans rfl)) rfl ?_
      exact ⟨rfl, below_setRow HB0.out HQW.out _⟩
  · clear hf
    go_enter Tryd.func70, Tryd.ntmps70
    go_upto_region 1 with (fail)
    rw [EW0.out, ← EQ.out]
    go_wp2_with (first
      | (refine wpList_store_rowTo rfl 67 (.tmp 4) (.tmp 22) rfl rfl q (gridA 0 0 (.slice none 0 0)) rfl rfl 67 _ HQ0.out (info_grid.trans rfl) rfl (gridA_one _ _ _ _ _) ?_))
    refine bodyPost_ret (v := .tuple #[.agg (gridA 0 0 (.slice none 0 0)), .int .i64 1]) (results_row_tmp (p := 4) (u := 5) (ty := 67) rfl _ _ q 67 _ (0, 0) _ _ rfl rfl (setRow_heap W0 q _ _ _ _ HQ0.out) Tryd.underlying67 rfl (info_grid.trans rfl)) rfl ?_
    exact ⟨rfl, below_setRow HB0.out HQW.out _⟩
theorem blankSC (C R : Int) (A : Option Addr) (n c : Nat) : #[Value.int .i64 C, .int .i64 R, .slice A n c, .int .i64 0, .int .i64 0, .bool false, .int .u8 0, .string ⟨#[]⟩, .slice none 0 0] = scC (blankS C R) A n c none 0 0 := rfl
set_option maxRecDepth 100000 in
set_option maxHeartbeats 8000000 in
theorem refBlank15_c (C R N : Nat) (w : World) (hf : fitsI (C : Int) (R : Int) = true) (hN : N = C * R) :
    Calls Tryd.prog 35 #[.int .i64 (C : Int), .int .i64 (R : Int)] w fun e w' => ∃ A' c', e = .returned (.tuple #[.agg (scC (blankS C R) A' N c' none 0 0), .int .i64 0]) ∧ OwnC w' w.heap.size (.slice A' N c') (List.replicate N blankD) ∧ Below w.heap.size w w' := by
  have HF := Lib.hid hf
  have HN := Lib.hid hN
  obtain ⟨W0, eW0⟩ : ∃ W0, W0 = w.alloc (.cells (scC scZ none 0 0 none 0 0) 25) := ⟨_, rfl⟩
  obtain ⟨q, eq⟩ : ∃ q, q = w.heap.size := ⟨_, rfl⟩
  have hb0 : Below w.heap.size w W0 := by rw [eW0]; exact (Below.refl _ _).alloc (Nat.le_refl _) _
  have HB0 := Lib.hid hb0
  have HQ0 : Hid (ScB W0 q scZ none 0 0 none 0 0) := Lib.hid (by rw [eW0, eq]; exact heap_alloc_new _ _)
  have EW0 : Hid (w.alloc (.cells #[.int .i64 0, .int .i64 0, .slice none 0 0, .int .i64 0, .int .i64 0, .bool false, .int .u8 0, .string { data := #[] }, .slice none 0 0] 25) = W0) := Lib.hid (by rw [eW0]; rfl)
  have EQ := Lib.hid eq
  have HQW : Hid (w.heap.size ≤ q) := Lib.hid (Nat.le_of_eq eq.symm)
  clear hb0 eW0 eq hf hN
  go_enter Tryd.func35, Tryd.ntmps35
  go_upto_region 1 with (fail)
  rw [EW0.out, ← EQ.out]
  go_upto_region 2 with (first
    | (go_at_call 70; (with_reducible refine (refNew09_c C R N W0 HF.out HN.out).mono ?_); rintro _ w1 ⟨A1, c1, rfl, ho1, hb1⟩; have HO1 := Lib.hid ho1; have HQ1 := Lib.hid (HQ0.out.below hb1); have HB1 := Lib.hid (HB0.out.trans (hb1.mono HB0.out.size)); clear ho1 hb1)
    | (refine wpList_store_rowTo rfl 67 (.tmp 6) (.tmp 12) rfl rfl w1.heap.size (gridA (C : Int) (R : Int) (.slice A1 N c1)) rfl rfl 67 _ (heap_alloc_new w1 _) (info_grid.trans rfl) rfl (gridA_one _ _ _ _ _) ?_))
  generalize eX : World.alloc w1 _ = X
  have hx : Below w1.heap.size w1 X := by rw [← eX]; exact (Below.refl _ _).alloc (Nat.le_refl _) _
  obtain ⟨old, hq2⟩ : ∃ old, X.heap[w1.heap.size]? = some (.cells old 67 (0, 0)) := ⟨_, by rw [← eX]; exact heap_alloc_new _ _⟩
  obtain ⟨g, eg⟩ : ∃ g, g = w1.heap.size := ⟨_, rfl⟩
  obtain ⟨W2, eW2⟩ : ∃ W2, W2 = X.setRow w1.heap.size (gridA (C : Int) (R : Int) (.slice A1 N c1)) := ⟨_, rfl⟩
  rw [← eW2, ← eg]
  have hg2 : W2.heap[g]? = some (.cells (gridA (C : Int) (R : Int) (.slice A1 N c1)) 67 (0, 0)) := by rw [eW2, eg]; exact setRow_heap _ _ _ _ _ _ hq2
  have hb2 : Below w1.heap.size w1 W2 := by rw [eW2]; exact below_setRow hx (Nat.le_refl _) _
  have y2 : W2.cell? ⟨g, 2, none⟩ = some (.slice A1 N c1) := heap_cell hg2 2
  have HQ2 := Lib.hid (HQ1.out.below hb2)
  have HB2 := Lib.hid (HB1.out.trans (hb2.mono HB1.out.size))
  have HO2 := Lib.hid (OwnC.below HO1.out hb2)
  have HQL : Hid (q < W0.heap.size) := Lib.hid (heap_lt HQ0.out)
  clear eX hx hq2 eg eW2 hg2 hb2
  go_wp2_with (first
    | (refine wpList_store_row rfl 25 (.tmp 4) (.tmp 22) rfl q (scC (blankS C R) A1 N c1 none 0 0) rfl rfl 25 _ HQ2.out (info_sc.trans rfl) rfl (sc_one _ _ _ _ _ _ _) ?_))
  refine bodyPost_ret (v := .tuple #[.agg (scC (blankS C R) A1 N c1 none 0 0), .int .i64 0]) (results_row_tmp (p := 4) (u := 5) (ty := 25) rfl _ _ q 25 _ (0, 0) _ _ rfl rfl (setRow_heap W2 q _ _ _ _ HQ2.out) Tryd.underlying25 rfl (info_sc.trans rfl)) rfl ?_
  exact ⟨A1, c1, rfl, OwnC.low (OwnC.keep HO2.out (fun j e => setRow_other _ _ _ _ (by have h1 := (OwnC.lt HO2.out j e).1; have h2 := HQL.out; omega))) HB0.out.size, below_setRow HB2.out HQW.out _⟩
set_option maxRecDepth 100000 in
set_option maxHeartbeats 8000000 in
theorem refBlank15_bad (cols rows : Int) (w : World) (hf : fitsI cols rows = false) :
    Calls Tryd.prog 35 #[.int .i64 cols, .int .i64 rows] w fun e w' => e = .returned (.tuple #[.agg (scC scZ none 0 0 none 0 0), .int .i64 1]) ∧ Below w.heap.size w w' := by
  have HF := Lib.hid hf
  obtain ⟨W0, eW0⟩ : ∃ W0, W0 = w.alloc (.cells (scC scZ none 0 0 none 0 0) 25) := ⟨_, rfl⟩
  obtain ⟨q, eq⟩ : ∃ q, q = w.heap.size := ⟨_, rfl⟩
  have hb0 : Below w.heap.size w W0 := by rw [eW0]; exact (Below.refl _ _).alloc (Nat.le_refl _) _
  have HB0 := Lib.hid hb0
  have HQ0 : Hid (ScB W0 q scZ none 0 0 none 0 0) := Lib.hid (by rw [eW0, eq]; exact heap_alloc_new _ _)
  have EW0 : Hid (w.alloc (.cells #[.int .i64 0, .int .i64 0, .slice none 0 0, .int .i64 0, .int .i64 0, .bool false, .int .u8 0, .string { data := #[] }, .slice none 0 0] 25) = W0) := Lib.hid (by rw [eW0]; rfl)
  have EQ := Lib.hid eq
  have HQW : Hid (w.heap.size ≤ q) := Lib.hid (Nat.le_of_eq eq.symm)
  clear hb0 eW0 eq hf
  go_enter Tryd.func35, Tryd.ntmps35
  go_upto_region 1 with (fail)
  rw [EW0.out, ← EQ.out]
  go_upto_region 2 with (first
    | (go_at_call 70; (with_reducible refine (refNew09_bad cols rows W0 HF.out).mono ?_); rintro _ w1 ⟨rfl, hb1⟩; have HQ1 := Lib.hid (HQ0.out.below hb1); have HB1 := Lib.hid (HB0.out.trans (hb1.mono HB0.out.size)); clear hb1)
    | (refine wpList_store_rowTo rfl 67 (.tmp 6) (.tmp 12) rfl rfl w1.heap.size (gridA 0 0 (.slice none 0 0)) rfl rfl 67 _ (heap_alloc_new w1 _) (info_grid.trans rfl) rfl (gridA_one _ _ _ _ _) ?_))
  generalize eX : World.alloc w1 _ = X
  have hx : Below w1.heap.size w1 X := by rw [← eX]; exact (Below.refl _ _).alloc (Nat.le_refl _) _
  obtain ⟨W2, eW2⟩ : ∃ W2, W2 = X.setRow w1.heap.size (gridA 0 0 (.slice none 0 0)) := ⟨_, rfl⟩
  rw [← eW2]
  have hb2 : Below w1.heap.size w1 W2 := by rw [eW2]; exact below_setRow hx (Nat.le_refl _) _
  have HQ2 := Lib.hid (HQ1.out.below hb2)
  have HB2 := Lib.hid (HB1.out.trans (hb2.mono HB1.out.size))
  clear eX hx eW2 hb2
  go_wp2_with (first
    | (refine wpList_store_row rfl 25 (.tmp 4) (.tmp 16) rfl q (scC scZ none 0 0 none 0 0) rfl rfl 25 _ HQ2.out (info_sc.trans rfl) rfl (sc_one _ _ _ _ _ _ _) ?_))
  refine bodyPost_ret (v := .tuple #[.agg (scC scZ none 0 0 none 0 0), .int .i64 1]) (results_row_tmp (p := 4) (u := 5) (ty := 25) rfl _ _ q 25 _ (0, 0) _ _ rfl rfl (setRow_heap W2 q _ _ _ _ HQ2.out) Tryd.underlying25 rfl (info_sc.trans rfl)) rfl ?_
  exact ⟨rfl, below_setRow HB2.out HQW.out _⟩
end Go.Proofs.YtipofokinjkclaaDoor

/- Plain law: how numbers are laid as bytes; no program in sight. Conditions: none. -/
namespace Go.Proofs.YtipofokinjkclaaDoor
open Go Go.RowKit

/-- The lowest byte; a digit of 128 that is not the last. -/
def lo (n : Nat) : UInt8 := UInt8.ofNat n
def dig (n : Nat) : UInt8 := UInt8.ofNat (n % 128 + 128)
theorem lo_nat (n : Nat) : (lo n).toNat = n % 256 := by simp [lo]
theorem dig_nat (n : Nat) : (dig n).toNat = n % 128 + 128 := by
  simp only [dig, UInt8.toNat_ofNat']; omega
/-- A number by digits of 128, the lowest first. -/
def varL (n : Nat) : List UInt8 := if n < 128 then [lo n] else dig n :: varL (n / 128)
termination_by n
decreasing_by omega

theorem varL_lo {n : Nat} (h : n < 128) : varL n = [lo n] := by rw [varL, if_pos h]
theorem varL_hi {n : Nat} (h : 128 ≤ n) : varL n = dig n :: varL (n / 128) := by rw [varL, if_neg (by omega)]

theorem varL_len (k : Nat) : ∀ n, n < 128 ^ (k + 1) → (varL n).length ≤ k + 1 := by
  induction k with
  | zero => intro n h; rw [varL_lo (by simpa using h)]; simp
  | succ k ih =>
    intro n h
    by_cases h0 : n < 128
    · rw [varL_lo h0]; simp
    · rw [varL_hi (by omega), List.length_cons]
      have := ih (n / 128) (by rw [Nat.div_lt_iff_lt_mul (by decide)]; rw [Nat.pow_succ] at h; exact h)
      omega

def U64 (n : Nat) : Prop := n < 2 ^ 64
theorem U64.out {n : Nat} (h : U64 n) : n < 18446744073709551616 := h
theorem U64.le {n m : Nat} (h : U64 n) (hm : m ≤ n) : U64 m := Nat.lt_of_le_of_lt hm h
theorem u64_div {x : Nat} (h : U64 x) (d : Nat) : IntKind.u64.wrap ((x : Int) / (d : Int)) = (x : Int) / (d : Int) := by
  have h1 := h.out
  have h2 : x / d ≤ x := Nat.div_le_self _ _
  rw [← Int.natCast_ediv]
  generalize x / d = q at *
  simp only [IntKind.wrap_u64]; omega
theorem varL_len10 {n : Nat} (h : U64 n) : (varL n).length ≤ 10 := varL_len 9 n (Nat.lt_trans h (by decide))

theorem or128 (n : Nat) : (UInt8.ofNat n ||| 128) = dig n := by
  unfold dig
  apply UInt8.toNat_inj.1
  have h : ∀ a : Fin 256, a.val ||| 128 = a.val % 128 + 128 := by decide +kernel
  have h2 := h ⟨n % 256, by omega⟩
  simp only [] at h2
  simp only [UInt8.toNat_or, UInt8.toNat_ofNat']
  show n % 256 ||| 128 = _
  rw [h2]
  omega

/-- The size lowest bytes, the highest of them first. -/
def numL (n size : Nat) : List UInt8 := (List.range size).map fun i => lo (n / 256 ^ (size - 1 - i))
theorem numL_length (n size : Nat) : (numL n size).length = size := by simp [numL]

/-! ### Numbers read -/
inductive VR where
  | bad (e : Nat)
  | ok (n k : Nat)

/-- What bytes say as a number, the i-th of them first. -/
def varGo : List UInt8 → Nat → VR
  | [], _ => .bad 2
  | d :: l, i => if (i = 9 ∧ 1 < d.toNat) ∨ (0 < i ∧ d.toNat = 0) then .bad 3
    else if d.toNat < 128 then .ok d.toNat 1
    else match varGo l (i + 1) with
      | .bad e => .bad e
      | .ok n k => .ok (d.toNat % 128 + 128 * n) (k + 1)

def VR.after (x i : Nat) : VR → VR
  | .bad e => .bad e
  | .ok n k => .ok (x + 128 ^ i * n) (i + k)

theorem VR.after_zero (v : VR) : v.after 0 0 = v := by cases v <;> simp [VR.after]
theorem varGo_end {l : List UInt8} {i : Nat} (h : l.length ≤ i) (x : Nat) : (varGo (l.drop i) i).after x i = .bad 2 := by
  rw [List.drop_of_length_le h]; rfl
theorem varGo_form {l : List UInt8} {i : Nat} (h : i < l.length) (x : Nat) (hb : (i = 9 ∧ 1 < (l[i]).toNat) ∨ (0 < i ∧ (l[i]).toNat = 0)) : (varGo (l.drop i) i).after x i = .bad 3 := by
  rw [List.drop_eq_getElem_cons h, varGo, if_pos hb]; rfl
theorem varGo_last {l : List UInt8} {i : Nat} (h : i < l.length) (x : Nat) (hb : ¬ ((i = 9 ∧ 1 < (l[i]).toNat) ∨ (0 < i ∧ (l[i]).toNat = 0))) (hd : (l[i]).toNat < 128) :
    (varGo (l.drop i) i).after x i = .ok (x + 128 ^ i * (l[i]).toNat) (i + 1) := by
  rw [List.drop_eq_getElem_cons h, varGo, if_neg hb, if_pos hd]; rfl
theorem varGo_more {l : List UInt8} {i : Nat} (h : i < l.length) (x : Nat) (hb : ¬ ((i = 9 ∧ 1 < (l[i]).toNat) ∨ (0 < i ∧ (l[i]).toNat = 0))) (hd : 128 ≤ (l[i]).toNat) :
    (varGo (l.drop i) i).after x i = (varGo (l.drop (i + 1)) (i + 1)).after (x + 128 ^ i * ((l[i]).toNat % 128)) (i + 1) := by
  rw [List.drop_eq_getElem_cons h, varGo, if_neg hb, if_neg (by omega)]
  cases varGo (l.drop (i + 1)) (i + 1) with
  | bad e => rfl
  | ok n k =>
    simp only [VR.after, VR.ok.injEq]
    constructor
    · rw [Nat.mul_add, Nat.pow_succ, Nat.mul_assoc]; omega
    · omega

/-- The next digit is put by or. -/
theorem or_digit {x i d : Nat} (hx : x < 128 ^ i) : x ||| (d <<< (7 * i)) = x + 128 ^ i * d := by
  have e : 128 ^ i = 2 ^ (7 * i) := by rw [Nat.pow_mul]
  rw [e] at hx ⊢
  rw [Nat.shiftLeft_eq, Nat.or_comm, Nat.mul_comm d, ← Nat.two_pow_add_eq_or_of_lt hx]
  omega
theorem digit_lt {x i d : Nat} (hx : x < 128 ^ i) (hd : d < 128) : x + 128 ^ i * d < 128 ^ (i + 1) := by
  rw [Nat.pow_succ]
  have : 128 ^ i * d ≤ 128 ^ i * 127 := Nat.mul_le_mul_left _ (by omega)
  omega
theorem digit_u64 {x i d : Nat} (hi : i ≤ 9) (hx : x < 128 ^ i) (hd : d < 128) (h9 : i = 9 → d ≤ 1) : U64 (x + 128 ^ i * d) := by
  rcases Nat.lt_or_ge i 9 with h | h
  · exact Nat.lt_of_lt_of_le (digit_lt hx hd) (Nat.le_trans (Nat.pow_le_pow_right (by decide) (show i + 1 ≤ 9 by omega)) (by decide))
  · obtain rfl : i = 9 := by omega
    have := h9 rfl
    have h2 : 128 ^ 9 * d ≤ 128 ^ 9 * 1 := Nat.mul_le_mul_left _ this
    show _ < 2 ^ 64
    have h3 : (128 : Nat) ^ 9 + 128 ^ 9 * 1 ≤ 2 ^ 64 := by decide
    omega

def badDg (i d : Nat) : Prop := (i = 9 ∧ 1 < d) ∨ (0 < i ∧ d = 0)
theorem varGo_form' {l : List UInt8} {i d : Nat} (h : i < l.length) (hd : d = (l[i]).toNat) (x : Nat) (hb : badDg i d) : (varGo (l.drop i) i).after x i = .bad 3 := by
  subst hd; exact varGo_form h x hb
theorem varGo_last' {l : List UInt8} {i d : Nat} (h : i < l.length) (hd : d = (l[i]).toNat) (x : Nat) (hb : ¬ badDg i d) (h8 : d < 128) : (varGo (l.drop i) i).after x i = .ok (x + 128 ^ i * (d % 128)) (i + 1) := by
  subst hd; rw [varGo_last h x hb h8, Nat.mod_eq_of_lt h8]
theorem varGo_more' {l : List UInt8} {i d : Nat} (h : i < l.length) (hd : d = (l[i]).toNat) (x : Nat) (hb : ¬ badDg i d) (h8 : 128 ≤ d) : (varGo (l.drop i) i).after x i = (varGo (l.drop (i + 1)) (i + 1)).after (x + 128 ^ i * (d % 128)) (i + 1) := by
  subst hd; exact varGo_more h x hb h8

theorem and127 (d : Nat) (h : d < 256) : bits BinOp.and .u8 (d : Int) 127 = ((d : Int) % 128) := by
  rw [show (127 : Int) = ((127 : Nat) : Int) from rfl, u8_and_nat d 127 h (by decide)]
  rw [show (127 : Nat) = 2 ^ 7 - 1 from rfl, Nat.and_two_pow_sub_one_eq_mod]
  rfl
theorem or_walk {x k d : Nat} (hx : x < 128 ^ k) (hk : k ≤ 9) (h9 : k = 9 → d % 128 ≤ 1) (hu : U64 x) :
    bits BinOp.or .u64 (x : Int) (IntKind.u64.wrap ((d : Int) % 128 * 2 ^ (7 * k))) = ((x + 128 ^ k * (d % 128) : Nat) : Int) := by
  have h1 := digit_u64 (x := 0) hk (Nat.pow_pos (by decide)) (show d % 128 < 128 by omega) h9
  rw [Nat.zero_add] at h1
  have e : ((d : Int) % 128 * 2 ^ (7 * k)) = ((128 ^ k * (d % 128) : Nat) : Int) := by
    rw [show (128 : Nat) ^ k = 2 ^ (7 * k) by rw [Nat.pow_mul]]
    rw [Int.natCast_mul, Int.mul_comm]
    congr 1
  rw [e, IntWalk.u64_in _ ⟨by omega, by have := h1.out; omega⟩, u64_or_nat _ _ hu.out h1.out]
  congr 1
  have h2 := or_digit (d := d % 128) hx
  rw [Nat.shiftLeft_eq, Nat.mul_comm] at h2
  rw [show (128 : Nat) ^ k = 2 ^ (7 * k) by rw [Nat.pow_mul]] at h2 ⊢
  exact h2

/-- Bytes as a number, the highest first. -/
def beN (l : List UInt8) : Nat := l.foldl (fun a d => a * 256 + d.toNat) 0
theorem beN_snoc (l : List UInt8) (d : UInt8) : beN (l ++ [d]) = beN l * 256 + d.toNat := by simp [beN]
theorem beN_lt (l : List UInt8) : beN l < 256 ^ l.length := by
  rw [← List.reverse_reverse l]
  induction l.reverse with
  | nil => decide
  | cons d l ih =>
    rw [List.reverse_cons, beN_snoc, List.length_append, List.length_singleton, Nat.pow_succ]
    have := UInt8.toNat_lt d
    omega
theorem beN_u64 {l : List UInt8} (h : l.length ≤ 8) : U64 (beN l) :=
  Nat.lt_of_lt_of_le (beN_lt l) (Nat.le_trans (Nat.pow_le_pow_right (by decide) h) (by decide))
theorem or_byte (x d : Nat) (hd : d < 256) : (x * 256) ||| d = x * 256 + d := by
  rw [show (256 : Nat) = 2 ^ 8 from rfl, Nat.mul_comm] at *
  rw [Nat.two_pow_add_eq_or_of_lt hd]
theorem or_walk8 {x d : Nat} (hx : U64 (x * 256)) (hd : d < 256) : bits BinOp.or .u64 ((x : Int) * 256) (d : Int) = ((x * 256 + d : Nat) : Int) := by
  have h1 := u64_or_nat (x * 256) d hx.out (by omega)
  rw [Int.natCast_mul] at h1
  rw [show ((256 : Nat) : Int) = 256 from rfl] at h1
  rw [h1, or_byte x d hd]

theorem varGo_bd : ∀ (l : List UInt8) (i n k : Nat), i ≤ 9 → varGo l i = .ok n k → n < 2 ^ (64 - 7 * i) ∧ k ≤ l.length ∧ 1 ≤ k
  | [], _, _, _, _, h => by cases h
  | d :: l, i, n, k, hi, h => by
    rw [varGo] at h
    by_cases hb : (i = 9 ∧ 1 < d.toNat) ∨ (0 < i ∧ d.toNat = 0)
    · rw [if_pos hb] at h; cases h
    · rw [if_neg hb] at h
      by_cases h8 : d.toNat < 128
      · rw [if_pos h8] at h
        injection h with h1 h2
        subst h1; subst h2
        refine ⟨?_, by simp, by omega⟩
        rcases Nat.lt_or_ge i 9 with h9 | h9
        · exact Nat.lt_of_lt_of_le h8 (Nat.le_trans (show 128 ≤ 2 ^ 7 by decide) (Nat.pow_le_pow_right (by decide) (by omega)))
        · obtain rfl : i = 9 := by omega
          have : ¬ 1 < d.toNat := fun h => hb (.inl ⟨rfl, h⟩)
          show d.toNat < 2
          omega
      · rw [if_neg h8] at h
        have hi8 : i < 9 := by
          rcases Nat.lt_or_ge i 9 with h9 | h9
          · exact h9
          · exact absurd (.inl ⟨by omega, by omega⟩) hb
        cases hv : varGo l (i + 1) with
        | bad e => rw [hv] at h; cases h
        | ok n' k' =>
          rw [hv] at h
          injection h with h1 h2
          obtain ⟨g1, g2, g3⟩ := varGo_bd l (i + 1) n' k' (by omega) hv
          subst h1; subst h2
          refine ⟨?_, by simp; omega, by omega⟩
          have e : 2 ^ (64 - 7 * i) = 128 * 2 ^ (64 - 7 * (i + 1)) := by
            rw [show (128 : Nat) = 2 ^ 7 from rfl, ← Nat.pow_add]; congr 1; omega
          rw [e]
          omega
theorem varGo_u64 {l : List UInt8} {n k : Nat} (h : varGo l 0 = .ok n k) : U64 n ∧ k ≤ l.length ∧ 1 ≤ k := varGo_bd l 0 n k (by decide) h
theorem varGo_err {l : List UInt8} {i e : Nat} (h : varGo l i = .bad e) : e = 2 ∨ e = 3 := by
  induction l generalizing i with
  | nil => injection h with h; exact .inl h.symm
  | cons d l ih =>
    rw [varGo] at h
    split at h
    · injection h with h; exact .inr h.symm
    · split at h
      · cases h
      · cases hv : varGo l (i + 1) with
        | bad e' => rw [hv] at h; injection h with h; subst h; exact ih hv
        | ok _ _ => rw [hv] at h; cases h

end Go.Proofs.YtipofokinjkclaaDoor

/- What the layer wire's and its reference's Var answer: a number laid by as few bytes as can be. Conditions: a number of 64 bits. -/
namespace Go.Proofs.YtipofokinjkclaaDoor
open Go Go.RowKit

theorem varStep_hi {n x : Nat} {bs : List UInt8} (h : varL n = bs ++ varL x) (hx : 128 ≤ x) : varL n = (bs ++ [dig x]) ++ varL (x / 128) := by
  rw [h, varL_hi hx, List.append_assoc]; rfl
theorem varStep_len {n x : Nat} {bs : List UInt8} (hn : U64 n) (h : varL n = bs ++ varL x) : bs.length ≤ 10 := by
  have h1 := varL_len10 hn
  rw [h, List.length_append] at h1
  omega

theorem bits_or128 (x : Nat) : Value.int .u8 (bits BinOp.or .u8 (((x : Nat) : Int) % 256) 128) = bv (dig x) := by
  have h := u8_or_nat (x % 256) 128 (by omega) (by omega)
  rw [show ((x % 256 : Nat) : Int) = (x : Int) % 256 by omega] at h
  have h2 := congrArg UInt8.toNat (or128 x)
  simp only [UInt8.toNat_or, UInt8.toNat_ofNat'] at h2
  rw [show (128 : UInt8).toNat = 128 from rfl] at h2
  unfold bv
  rw [show ((128 : Int)) = ((128 : Nat) : Int) from rfl, h, show (256 : Nat) = 2 ^ 8 from rfl, h2]

theorem int_lo {x : Int} {n : Nat} (h : x = ((n % 256 : Nat) : Int)) : Value.int .u8 x = bv (lo n) := by rw [h, bv, lo_nat]

set_option maxRecDepth 100000 in
set_option maxHeartbeats 400000 in
theorem Var_c (n : Nat) (w : World) (hn : U64 n) :
    Calls Tryd.prog 118 #[.int .u64 n] w fun e w' => ∃ v, e = .returned v ∧ OwnB w' w.heap.size v (varL n) ∧ Below w.heap.size w w' := by
  go_enter Tryd.func118, Tryd.ntmps118
  go_wp2
  go_loopw [0, 3] (fun m v wr => ∃ (x : Nat) (bs : List UInt8), m = .int .u64 x ∧ varL n = bs ++ varL x ∧ U64 x ∧ OwnB wr w.heap.size v bs ∧ Below w.heap.size w wr) (fun m v _ => (intOf m).toNat)
  case atStart => exact ⟨n, [], rfl, rfl, hn, Own.nil_ _ _ _, Below.refl _ _⟩
  case round =>
    obtain ⟨x, bs, rfl, hv, hx, hown, hb⟩ := hrel
    have hl := varStep_len hn hv
    have hz := hb.size
    have HV := Lib.hid hv; clear hv
    rcases Int.lt_or_le (x : Int) 128 with hlt | hle
    · go_wp2_with (first | (at_builtin; refine wpList_appB1 _ rfl (.tmp 14) (.tmp 17) rfl w.heap.size _ bs rfl hown _ rfl (lo x) ?_ (by omega) (by omega) ?_))
      · exact int_lo (by omega)
      · intro v' w' h1 h2 _
        go_wp2
        go_ret
        refine ⟨_, rfl, ?_, ?_⟩
        · rw [HV.out, varL_lo (by omega)]; exact h1
        · exact (hb.alloc (by omega) _).grown h2 (by simp; omega) (fun k hk => (hown.lt k hk).1)
    · go_wp2_with (first | (at_builtin; refine wpList_appB1 _ rfl (.tmp 6) (.tmp 10) rfl w.heap.size _ bs rfl hown _ rfl (dig x) ?_ (by omega) (by omega) ?_))
      · exact bits_or128 x
      · intro v' w' h1 h2 _
        go_wp2
        go_roundw
        case rel => exact ⟨x / 128, _, by go_num, varStep_hi HV.out (by omega), hx.le (by omega), h1, (hb.alloc (by omega) _).grown h2 (by simp; omega) (fun k hk => (hown.lt k hk).1)⟩
        case measure => simp [intOf]; omega

/-! ### The reference's Var: the same by division -/
set_option maxRecDepth 100000 in
set_option maxHeartbeats 400000 in
theorem refVar_c (n : Nat) (w : World) (hn : U64 n) :
    Calls Tryd.prog 119 #[.int .u64 n] w fun e w' => ∃ v, e = .returned v ∧ OwnB w' w.heap.size v (varL n) ∧ Below w.heap.size w w' := by
  go_enter Tryd.func119, Tryd.ntmps119
  go_wp2
  go_loopw [0, 3] (fun m v wr => ∃ (x : Nat) (bs : List UInt8), m = .int .u64 x ∧ varL n = bs ++ varL x ∧ U64 x ∧ OwnB wr w.heap.size v bs ∧ Below w.heap.size w wr) (fun m v _ => (intOf m).toNat)
  case atStart => exact ⟨n, [], rfl, rfl, hn, World.ownsRow_made w #[] 0 (Nat.le_refl _) (Nat.zero_le _) rfl, (Below.refl _ _).alloc (Nat.le_refl _) _⟩
  case round =>
    obtain ⟨x, bs, rfl, hv, hx, hown, hb⟩ := hrel
    have hl := varStep_len hn hv
    have hz := hb.size
    have HV := Lib.hid hv; clear hv
    have hw : IntKind.u64.wrap ((x : Int) / 128) = (x : Int) / 128 := u64_div hx 128
    rcases Int.lt_or_le (x : Int) 128 with hlt | hle
    · have hq : (((x : Int) / 128) == 0) = true := by rw [beq_iff_eq]; omega
      go_wp2_with (first | (at_builtin; refine wpList_appB1 _ rfl (.tmp 8) (.tmp 11) rfl w.heap.size _ bs rfl hown _ rfl (lo x) ?_ (by omega) (by omega) ?_))
      · exact int_lo (by omega)
      · intro v' w' h1 h2 _
        go_wp2
        go_ret
        refine ⟨_, rfl, ?_, ?_⟩
        · rw [HV.out, varL_lo (by omega)]; exact h1
        · exact (hb.alloc (by omega) _).grown h2 (by simp; omega) (fun k hk => (hown.lt k hk).1)
    · have hq : (((x : Int) / 128) == 0) = false := by rw [beq_eq_false_iff_ne]; omega
      go_wp2_with (first | (at_builtin; refine wpList_appB1 _ rfl (.tmp 13) (.tmp 18) rfl w.heap.size _ bs rfl hown _ rfl (dig x) ?_ (by omega) (by omega) ?_))
      · unfold bv; rw [dig_nat]; congr 1
      · intro v' w' h1 h2 _
        go_wp2
        go_roundw
        case rel => exact ⟨x / 128, _, by go_num, varStep_hi HV.out (by omega), hx.le (by omega), h1, (hb.alloc (by omega) _).grown h2 (by simp; omega) (fun k hk => (hown.lt k hk).1)⟩
        case measure => simp [intOf]; omega
end Go.Proofs.YtipofokinjkclaaDoor
