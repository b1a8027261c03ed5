/- Parts one behind the other: What the reference's number (17) answers: refNum; What the reference's size (17) answers: thing17 1. Conditions: as told at each. -/
import Derived.Test.YtndjggabdajbfaaGreatDoorPG26
import Derived.Test.YtndjggabdajbfaaGreatDoorPG27
import Derived.Test.YtndjggabdajbfaaGreatDoorPG21
import Derived.Test.YtndjggabdajbfaaGreatDoorPG11
import Derived.Test.YtndjggabdajbfaaGreatDoorPG14

set_option linter.unusedVariables false
set_option linter.unusedSimpArgs false
/- What the reference's number (17) answers: refNum. Conditions: the reader's bytes can be read; the bound is at most 2^32. -/
namespace Go.Proofs.YtndjggabdajbfaaGreatDoor
open Go Go.RowKit Go.Lib

/-! ### A reader by value in a block -/
/-- The reader's cells. -/
def rsC (A : Option Addr) (c : Nat) (s : RS) : Array Value := #[.slice A s.b.length c, .int .i64 (s.at_ : Int), .int .i64 (s.err : Int)]
def rsZ : RS := ⟨[], 0, 0, none⟩
def RdB (w : World) (g : Nat) (A : Option Addr) (c : Nat) (s : RS) : Prop := w.heap[g]? = some (.cells (rsC A c s) 61 (0, 0))
section
variable {w w' : World} {g : Nat} {A : Option Addr} {c : Nat} {s : RS}
theorem RdB.below (h : RdB w g A c s) (hb : Below w.heap.size w w') : RdB w' g A c s := (hb.block g (heap_lt h)).trans h
theorem RdB.stay {S : Nat → Prop} (h : RdB w g A c s) (k : Stays S w w') (hg : ¬ S g) : RdB w' g A c s := (k.block g (heap_lt h) hg).trans h
theorem RdB.three (h : RdB w g A c s) : w.cell? ⟨g, 0, none⟩ = some (.slice A s.b.length c) ∧ w.cell? ⟨g, 1, none⟩ = some (.int .i64 (s.at_ : Int)) ∧ w.cell? ⟨g, 2, none⟩ = some (.int .i64 (s.err : Int)) := by
  refine ⟨?_, ?_, ?_⟩ <;> (rw [heap_cell h]; rfl)
theorem RsOk.below (h : RsOk w A c s) (hb : Below w.heap.size w w') : RsOk w' A c s := by
  obtain ⟨h1, h2⟩ := h; exact ⟨h1.below hb, h2⟩
theorem RsOk.var (h : RsOk w A c s) : RsOk w A c (varR s).2 := by
  obtain ⟨h1, h2, h3, h4, h5⟩ := h
  have e := varR_b s
  exact ⟨by rw [e]; exact h1, by rw [e]; exact h2, h3, by rw [e]; exact varR_at s h4, by rw [e]; exact h5⟩
end
theorem info_rdr : (Tryz.prog.info? 61).map (·.size) = some 3 := by kernel_rfl
theorem rs_one (A : Option Addr) (c : Nat) (s : RS) : (rsC A c s).all (·.oneCell') = true := by
  unfold rsC
  simp [Value.oneCell']
theorem rvar_c (A : Option Addr) (c : Nat) (s : RS) (w : World) (h : RsOk w A c s) :
    Calls Tryz.prog 42 #[.agg (rsC A c s)] w fun e w' => e = .returned (.tuple #[.int .u64 ((varR s).1 : Int), .agg (rsC A c (varR s).2)]) ∧ Below w.heap.size w w' :=
  refVarR_c A c s w h
theorem refNum_rdr (s : RS) (most : Int) : (refNum s most).2.1 = (varR s).2 := by
  unfold refNum
  split
  · rfl
  · split <;> rfl
/-! ### Three results, some of them in blocks -/
theorem results_trt {P : Program} {fn : Func} {p q u : Tmp} {ty : TypeId} (h : fn.results = #[.tmp p, .cell q ty, .tmp u]) (tmps : Array Value) (w : World) (g : Nat) (t : TypeId) (cs : Array Value) (fr : Nat × Nat) (d : TypeDesc) (X Y : Value)
    (hX : tmps.getD p undef = X) (hq : tmps.getD q undef = .pointer (some ⟨g, 0, none⟩)) (hY : tmps.getD u undef = Y) (hg : w.heap[g]? = some (.cells cs t fr))
    (hu : P.underlying ty = some d) (hd : (match d with | .struct _ | .array _ _ => true | _ => false) = true) (hi : (P.info? ty).map (·.size) = some cs.size) :
    (results fn tmps).run P w = .ok (.tuple #[X, .agg cs, Y]) w := by
  have hX' : tmps[p]?.getD undef = X := by simpa using hX
  have hq' : tmps[q]?.getD undef = .pointer (some ⟨g, 0, none⟩) := by simpa using hq
  have hY' : tmps[u]?.getD undef = Y := by simpa using hY
  simp only [results, h]
  simp [Sem.run_bind, Result.andThen, hX', hq', hY', asAddr, run_loadVar_row w g t ty cs fr d hg hu hd hi]
theorem results_cct {P : Program} {fn : Func} {p q u : Tmp} {ty tz : TypeId} (h : fn.results = #[.cell p ty, .cell q tz, .tmp u]) (tmps : Array Value) (w : World) (g g' : Nat) (t t' : TypeId) (cs cs' : Array Value) (fr fr' : Nat × Nat) (d d' : TypeDesc) (Y : Value)
    (hp : tmps.getD p undef = .pointer (some ⟨g, 0, none⟩)) (hq : tmps.getD q undef = .pointer (some ⟨g', 0, none⟩)) (hY : tmps.getD u undef = Y) (hg : w.heap[g]? = some (.cells cs t fr)) (hg' : w.heap[g']? = some (.cells cs' t' fr'))
    (hu : P.underlying ty = some d) (hd : (match d with | .struct _ | .array _ _ => true | _ => false) = true) (hi : (P.info? ty).map (·.size) = some cs.size)
    (hu' : P.underlying tz = some d') (hd' : (match d' with | .struct _ | .array _ _ => true | _ => false) = true) (hi' : (P.info? tz).map (·.size) = some cs'.size) :
    (results fn tmps).run P w = .ok (.tuple #[.agg cs, .agg cs', Y]) w := by
  have hp' : tmps[p]?.getD undef = .pointer (some ⟨g, 0, none⟩) := by simpa using hp
  have hq' : tmps[q]?.getD undef = .pointer (some ⟨g', 0, none⟩) := by simpa using hq
  have hY' : tmps[u]?.getD undef = Y := by simpa using hY
  simp only [results, h]
  simp [Sem.run_bind, Result.andThen, hp', hq', hY', asAddr, run_loadVar_row w g t ty cs fr d hg hu hd hi, run_loadVar_row w g' t' tz cs' fr' d' hg' hu' hd' hi']
/-! ### number -/
/-- What number ends with. -/
def NumP (A : Option Addr) (c : Nat) (Z : Nat × RS × Nat) (w : World) (e : Ending) (w' : World) : Prop := e = .returned (.tuple #[.int .i64 (Z.1 : Int), .agg (rsC A c Z.2.1), .int .i64 (Z.2.2 : Int)]) ∧ Below w.heap.size w w'
theorem NumP.mk_ {A : Option Addr} {c : Nat} {Z : Nat × RS × Nat} {w w' : World} {s : RS} {n e : Nat} {x y : Int} (h : (n, s, e) = Z) (hx : x = (n : Int)) (hy : y = (e : Int)) (hb : Below w.heap.size w w') : NumP A c Z w (.returned (.tuple #[.int .i64 x, .agg (rsC A c s), .int .i64 y])) w' := by
  subst hx hy
  rw [← h]; exact ⟨rfl, hb⟩
set_option maxRecDepth 100000 in
set_option maxHeartbeats 16000000 in
theorem number_c (A : Option Addr) (c : Nat) (s : RS) (most : Int) (w : World) (h : RsOk w A c s) (hm : -1 ≤ most ∧ most ≤ 4294967295) :
    Calls Tryz.prog 24 #[.agg (rsC A c s), .int .i64 most] w fun e w' => NumP A c (refNum s most) w e w' := by
  obtain ⟨Z, eZ⟩ : ∃ Z, refNum s most = Z := ⟨_, rfl⟩; rw [eZ]
  unfold refNum at eZ
  obtain ⟨nv, s1, eV⟩ : ∃ n t, varR s = (n, t) := ⟨_, _, rfl⟩; rw [eV] at eZ
  simp only at eZ
  have EZ := Lib.hid eZ
  have EV := Lib.hid eV
  obtain ⟨X, eX⟩ : ∃ X, X = rsC A c s := ⟨_, rfl⟩; rw [← eX]; obtain ⟨W0, eW0⟩ : ∃ W0, W0 = (w.alloc (.cells X 61)).alloc (.cells (rsC none 0 rsZ) 61) := ⟨_, rfl⟩; obtain ⟨g1, eg1⟩ : ∃ g, g = w.heap.size := ⟨_, rfl⟩; obtain ⟨g2, eg2⟩ : ∃ g, g = w.heap.size + 1 := ⟨_, rfl⟩
  have HB0 : Hid (Below w.heap.size w W0) := Lib.hid (by rw [eW0]; exact ((Below.refl _ _).alloc (Nat.le_refl _) _).alloc (by simp) _)
  have HA0 : Hid (RdB W0 g1 A c s) := Lib.hid (by rw [eW0, eg1, eX]; exact (Below.heap_alloc _ _ _ (by simp)).trans (heap_alloc_new _ _))
  have HC0 : Hid (RdB W0 g2 none 0 rsZ) := Lib.hid (by rw [eW0, eg2]; exact heap_alloc2_new _ _ _)
  have HOK : Hid (RsOk W0 A c s) := Lib.hid (h.below HB0.out)
  have eW0' : (w.alloc (.cells X 61)).alloc (.cells #[.slice none 0 0, .int .i64 0, .int .i64 0] 61) = W0 := by rw [eW0]; rfl
  have EW0 := Lib.hid eW0'
  have EG1 := Lib.hid eg1
  have EG2 := Lib.hid eg2
  have HGG : Hid (w.heap.size ≤ g1 ∧ w.heap.size ≤ g2 ∧ g2 ≠ g1) := Lib.hid (by omega)
  have HM := Lib.hid hm
  clear eZ eV eX eW0 eW0' eg1 eg2 h hm
  go_enter Tryz.func24, Tryz.ntmps24
  go_upto_region 1 with (fail)
  rw [EW0.out, ← EG2.out, ← EG1.out]
  go_upto_region 2 with (first
    | (refine wpList_load_row rfl 61 (.tmp 2) rfl g1 rfl 61 _ (0, 0) _ HA0.out Tryz.underlying61 rfl (info_rdr.trans rfl) ?_)
    | (go_at_call 42; (refine (rvar_c A c s W0 HOK.out).mono ?_); rintro _ w1 ⟨rfl, hb1⟩; rw [EV.out]; have HB1 := Lib.hid (HB0.out.trans (hb1.mono HB0.out.size)); have HA1 := Lib.hid (HA0.out.below hb1); have HC1 := Lib.hid (HC0.out.below hb1); clear hb1)
    | (refine wpList_store_row rfl 61 (.tmp 2) (.tmp 12) rfl g1 (rsC A c s1) rfl rfl 61 _ HA1.out (info_rdr.trans rfl) rfl (rs_one _ _ _) ?_))
  obtain ⟨W2, eW2⟩ : ∃ W, W = w1.setRow g1 (rsC A c s1) := ⟨_, rfl⟩; rw [← eW2]
  have HA2 : Hid (RdB W2 g1 A c s1) := Lib.hid (by rw [eW2]; exact setRow_heap w1 g1 _ _ _ _ HA1.out)
  have HC2 : Hid (RdB W2 g2 none 0 rsZ) := Lib.hid (by rw [eW2]; exact (setRow_other w1 g1 g2 _ HGG.out.2.2).trans HC1.out)
  have HB2 : Hid (Below w.heap.size w W2) := Lib.hid (by rw [eW2]; exact below_setRow HB1.out HGG.out.1 _)
  have x2 := HA2.out.three.2.2
  obtain ⟨V0, eV0⟩ : ∃ k, k = W2.heap.size + 7 := ⟨_, rfl⟩
  have HVL : Hid (w.heap.size ≤ V0) := Lib.hid (by have := HB2.out.size; omega)
  have HVN : Hid (V0 ≠ g2) := Lib.hid (by have := heap_lt HC2.out; omega)
  have HGV : Hid (g1 ≠ g2 ∧ g1 ≠ V0) := Lib.hid ⟨fun x => HGG.out.2.2 x.symm, by have := heap_lt HA2.out; omega⟩
  clear eW2 eV0
  by_cases he : s1.err = 0
  rotate_left
  · have z0 : (((s1.err : Nat) : Int) != 0) = true := by rw [bne_iff_ne]; omega
    have HZ : Hid ((0, s1, s1.err) = Z) := Lib.hid (by rw [← EZ.out, if_pos he])
    clear he
    go_upto_region 3 with (fail)
    refine wp_region_rz (g2) (V0) (rsC A c s1) (#[]) 31 [Rz.eq (.agg (rsC A c s1)), Rz.eq (.pointer (some ⟨g1, 2, none⟩)), Rz.eq (.int .i64 (s1.err : Int)), Rz.eq (.int .i64 0), Rz.doneQ 61, Rz.eq (.int .i64 (s1.err : Int))] [16, 17, 18, 4, 6] (by kernel_rfl) rfl (by kernel_rfl) (by kernel_rfl) ?_ ?_
    · repeat (first | exact AllFrom.nil_ | (refine AllFrom.cons_ (by rfl) ?_ ?_; rotate_left))
      · intro f_ w' g_ hF hD; have h2 : f_ 2 = .pointer (some ⟨g1, 0, none⟩) := hF 2 (by kernel_rfl); rw [if_pos (wanted_none rfl)]; clear hF hD; exact gives_load_row 61 (.tmp 2) rfl g1 (by simp only [evF, h2]) 61 (rsC A c s1) (0, 0) _ (g_.far HA2.out HGV.out) Tryz.underlying61 rfl (info_rdr.trans rfl) ⟨Gz.refl _, rfl⟩
      · intro f_ w' g_ hF hD; have h2 : f_ 2 = .pointer (some ⟨g1, 0, none⟩) := hF 2 (by kernel_rfl); rw [if_pos (wanted_none rfl)]; clear hF hD; exact gives_val (by simp only [execOp, evF, h2]; first | rfl | go_simp) ⟨Gz.refl _, rfl⟩
      · intro f_ w' g_ hF hD; have h17 : f_ 17 = (.pointer (some ⟨g1, 2, none⟩)) := hD 1 17 (by kernel_rfl) rfl; rw [if_pos (wanted_none rfl)]; clear hF hD
        have cl : w'.cell? ⟨g1, 2, none⟩ = some (.int .i64 (s1.err : Int)) := (show RdB w' g1 A c s1 from g_.far HA2.out HGV.out).three.2.2
        exact gives_val (by simp only [execOp, evF, h17]; go_simp) ⟨Gz.refl _, rfl⟩
      · intro f_ w' g_ hF hD; rw [if_pos (wanted_none rfl)]; clear hF hD; exact gives_val (by simp only [execOp, evF]; first | rfl | go_simp) ⟨Gz.refl _, rfl⟩
      · intro f_ w' g_ hF hD; have h5 : f_ 5 = .pointer (some ⟨g2, 0, none⟩) := hF 5 (by kernel_rfl); have h16 : f_ 16 = (.agg (rsC A c s1)) := hD 0 16 (by kernel_rfl) rfl; rw [if_pos (wanted_none rfl)]; clear hF hD; obtain ⟨c0, e0, z0, -⟩ := g_.kq _ _ HC2.out; exact gives_store_rowQ 61 (.tmp 5) (.tmp 16) rfl g2 (rsC A c s1) (by simp only [evF, h5, h16]) (by simp only [evF, h5, h16]) 61 c0 e0 (info_rdr.trans rfl) (z0.trans rfl) (rs_one _ _ _) ⟨Gz.setQ e0 (z0.trans rfl) HVN.out, setRow_heap _ _ _ _ _ _ e0⟩
      · intro f_ w' g_ hF hD; have h18 : f_ 18 = (.int .i64 (s1.err : Int)) := hD 2 18 (by kernel_rfl) rfl; rw [if_pos (wanted_none rfl)]; clear hF hD; exact gives_val (by simp only [execOp, evF, h18]; first | rfl | go_simp) ⟨Gz.refl _, rfl⟩
    intro f_ w4 gz hD hZ0; have h4 : f_ 4 = .int .i64 0 := hD 3 4 rfl; have h6 : f_ 6 = .int .i64 (s1.err : Int) := hD 5 6 rfl
    have hq9 : w4.heap[g2]? = some (.cells (rsC A c s1) 61 (0, 0)) := (hZ0 4 (by decide) rfl).elim (fun _ x => x)
    simp only [putAll, List.setIfInBounds_toArray, List.set_cons_zero, List.set_cons_succ, h4, h6]; generalize f_ 16 = d16; generalize f_ 17 = d17; generalize f_ 18 = d18; clear hD hZ0 h4 h6
    go_wp2_with (fail)
    try simp only [Exit.inBlock, Exit.then]
    refine bodyPost_ret (v := .tuple #[.int .i64 0, .agg (rsC A c s1), .int .i64 (s1.err : Int)]) (results_trt (p := 4) (q := 5) (u := 6) (ty := 61) rfl _ _ g2 61 _ (0, 0) _ _ _ rfl rfl rfl hq9 Tryz.underlying61 rfl (info_rdr.trans rfl)) rfl ?_; exact NumP.mk_ HZ.out rfl rfl ((below_drewN HB2.out 1).trans (gz.st.below (B := w.heap.size) HB2.out.size (fun k hk x => by { have h1 := HGG.out; have h2 := HVL.out; rcases x with x | x <;> omega })))
  · have z0 : (((s1.err : Nat) : Int) != 0) = false := by rw [bne_eq_false_iff_eq]; omega
    have HZ0 : Hid ((if most < 0 ∨ most < (nv : Int) then (0, s1, 3) else (nv, s1, 0)) = Z) := Lib.hid (by rw [← EZ.out]; exact (if_neg (by rw [he]; decide)).symm)
    clear he; obtain ⟨b1, d1⟩ : ∃ b, decide (most < 0) = b := ⟨_, rfl⟩
    have D1 := Lib.hid d1
    cases b1
    rotate_left
    · have HZ : Hid ((0, s1, 3) = Z) := Lib.hid (by rw [← HZ0.out, if_pos (Or.inl (of_decide_eq_true D1.out))])
      go_upto_region 5 with (fail)
      refine wp_region_rz (g2) (V0) (rsC A c s1) (#[]) 31 [Rz.eq (.agg (rsC A c s1)), Rz.eq (.int .i64 0), Rz.doneQ 61, Rz.eq (.int .i64 3)] [27, 4, 6] (by kernel_rfl) rfl (by kernel_rfl) (by kernel_rfl) ?_ ?_
      · repeat (first | exact AllFrom.nil_ | (refine AllFrom.cons_ (by rfl) ?_ ?_; rotate_left))
        · intro f_ w' g_ hF hD; have h2 : f_ 2 = .pointer (some ⟨g1, 0, none⟩) := hF 2 (by kernel_rfl); rw [if_pos (wanted_none rfl)]; clear hF hD; exact gives_load_row 61 (.tmp 2) rfl g1 (by simp only [evF, h2]) 61 (rsC A c s1) (0, 0) _ (g_.far HA2.out HGV.out) Tryz.underlying61 rfl (info_rdr.trans rfl) ⟨Gz.refl _, rfl⟩
        · intro f_ w' g_ hF hD; rw [if_pos (wanted_none rfl)]; clear hF hD; exact gives_val (by simp only [execOp, evF]; first | rfl | go_simp) ⟨Gz.refl _, rfl⟩
        · intro f_ w' g_ hF hD; have h5 : f_ 5 = .pointer (some ⟨g2, 0, none⟩) := hF 5 (by kernel_rfl); have h27 : f_ 27 = (.agg (rsC A c s1)) := hD 0 27 (by kernel_rfl) rfl; rw [if_pos (wanted_none rfl)]; clear hF hD; obtain ⟨c0, e0, z0, -⟩ := g_.kq _ _ HC2.out; exact gives_store_rowQ 61 (.tmp 5) (.tmp 27) rfl g2 (rsC A c s1) (by simp only [evF, h5, h27]) (by simp only [evF, h5, h27]) 61 c0 e0 (info_rdr.trans rfl) (z0.trans rfl) (rs_one _ _ _) ⟨Gz.setQ e0 (z0.trans rfl) HVN.out, setRow_heap _ _ _ _ _ _ e0⟩
        · intro f_ w' g_ hF hD; rw [if_pos (wanted_none rfl)]; clear hF hD; exact gives_val (by simp only [execOp, evF]; first | rfl | go_simp) ⟨Gz.refl _, rfl⟩
      intro f_ w4 gz hD hZ0; have h4 : f_ 4 = .int .i64 0 := hD 1 4 rfl; have h6 : f_ 6 = .int .i64 3 := hD 3 6 rfl
      have hq9 : w4.heap[g2]? = some (.cells (rsC A c s1) 61 (0, 0)) := (hZ0 2 (by decide) rfl).elim (fun _ x => x)
      simp only [putAll, List.setIfInBounds_toArray, List.set_cons_zero, List.set_cons_succ, h4, h6]; generalize f_ 27 = d27; clear hD hZ0 h4 h6
      go_wp2_with (fail)
      try simp only [Exit.inBlock, Exit.then]
      refine bodyPost_ret (v := .tuple #[.int .i64 0, .agg (rsC A c s1), .int .i64 3]) (results_trt (p := 4) (q := 5) (u := 6) (ty := 61) rfl _ _ g2 61 _ (0, 0) _ _ _ rfl rfl rfl hq9 Tryz.underlying61 rfl (info_rdr.trans rfl)) rfl ?_; exact NumP.mk_ HZ.out rfl rfl ((below_drewN HB2.out 1).trans (gz.st.below (B := w.heap.size) HB2.out.size (fun k hk x => by { have h1 := HGG.out; have h2 := HVL.out; rcases x with x | x <;> omega })))
    · have hwm : IntKind.u64.wrap most = most := IntWalk.u64_in _ ⟨by have := of_decide_eq_false D1.out; omega, by have := HM.out; omega⟩
      obtain ⟨b2, d2⟩ : ∃ b, decide (most < (nv : Int)) = b := ⟨_, rfl⟩
      have D2 := Lib.hid d2
      cases b2
      rotate_left
      · have HZ : Hid ((0, s1, 3) = Z) := Lib.hid (by rw [← HZ0.out, if_pos (Or.inr (of_decide_eq_true D2.out))])
        go_upto_region 5 with (fail)
        refine wp_region_rz (g2) (V0) (rsC A c s1) (#[]) 31 [Rz.eq (.agg (rsC A c s1)), Rz.eq (.int .i64 0), Rz.doneQ 61, Rz.eq (.int .i64 3)] [27, 4, 6] (by kernel_rfl) rfl (by kernel_rfl) (by kernel_rfl) ?_ ?_
        · repeat (first | exact AllFrom.nil_ | (refine AllFrom.cons_ (by rfl) ?_ ?_; rotate_left))
          · intro f_ w' g_ hF hD; have h2 : f_ 2 = .pointer (some ⟨g1, 0, none⟩) := hF 2 (by kernel_rfl); rw [if_pos (wanted_none rfl)]; clear hF hD; exact gives_load_row 61 (.tmp 2) rfl g1 (by simp only [evF, h2]) 61 (rsC A c s1) (0, 0) _ (g_.far HA2.out HGV.out) Tryz.underlying61 rfl (info_rdr.trans rfl) ⟨Gz.refl _, rfl⟩
          · intro f_ w' g_ hF hD; rw [if_pos (wanted_none rfl)]; clear hF hD; exact gives_val (by simp only [execOp, evF]; first | rfl | go_simp) ⟨Gz.refl _, rfl⟩
          · intro f_ w' g_ hF hD; have h5 : f_ 5 = .pointer (some ⟨g2, 0, none⟩) := hF 5 (by kernel_rfl); have h27 : f_ 27 = (.agg (rsC A c s1)) := hD 0 27 (by kernel_rfl) rfl; rw [if_pos (wanted_none rfl)]; clear hF hD; obtain ⟨c0, e0, z0, -⟩ := g_.kq _ _ HC2.out; exact gives_store_rowQ 61 (.tmp 5) (.tmp 27) rfl g2 (rsC A c s1) (by simp only [evF, h5, h27]) (by simp only [evF, h5, h27]) 61 c0 e0 (info_rdr.trans rfl) (z0.trans rfl) (rs_one _ _ _) ⟨Gz.setQ e0 (z0.trans rfl) HVN.out, setRow_heap _ _ _ _ _ _ e0⟩
          · intro f_ w' g_ hF hD; rw [if_pos (wanted_none rfl)]; clear hF hD; exact gives_val (by simp only [execOp, evF]; first | rfl | go_simp) ⟨Gz.refl _, rfl⟩
        intro f_ w4 gz hD hZ0; have h4 : f_ 4 = .int .i64 0 := hD 1 4 rfl; have h6 : f_ 6 = .int .i64 3 := hD 3 6 rfl
        have hq9 : w4.heap[g2]? = some (.cells (rsC A c s1) 61 (0, 0)) := (hZ0 2 (by decide) rfl).elim (fun _ x => x)
        simp only [putAll, List.setIfInBounds_toArray, List.set_cons_zero, List.set_cons_succ, h4, h6]; generalize f_ 27 = d27; clear hD hZ0 h4 h6
        go_wp2_with (fail)
        try simp only [Exit.inBlock, Exit.then]
        refine bodyPost_ret (v := .tuple #[.int .i64 0, .agg (rsC A c s1), .int .i64 3]) (results_trt (p := 4) (q := 5) (u := 6) (ty := 61) rfl _ _ g2 61 _ (0, 0) _ _ _ rfl rfl rfl hq9 Tryz.underlying61 rfl (info_rdr.trans rfl)) rfl ?_; exact NumP.mk_ HZ.out rfl rfl ((below_drewN HB2.out 1).trans (gz.st.below (B := w.heap.size) HB2.out.size (fun k hk x => by { have h1 := HGG.out; have h2 := HVL.out; rcases x with x | x <;> omega })))
      · have HZ : Hid ((nv, s1, 0) = Z) := Lib.hid (by rw [← HZ0.out, if_neg (fun h => h.elim (of_decide_eq_false D1.out) (of_decide_eq_false D2.out))])
        have hwn : IntKind.i64.wrap (nv : Int) = (nv : Int) := IntWalk.i64_in _ ⟨by omega, by have := of_decide_eq_false D2.out; have := HM.out; omega⟩
        go_upto_region 6 with (fail)
        refine wp_region_rz (g2) (V0) (rsC A c s1) (#[]) 31 [Rz.eq (.int .u64 (nv : Int)), Rz.eq (.int .i64 (nv : Int)), Rz.eq (.agg (rsC A c s1)), Rz.eq (.int .i64 (nv : Int)), Rz.doneQ 61, Rz.eq (.int .i64 0)] [28, 29, 30, 4, 6] (by kernel_rfl) rfl (by kernel_rfl) (by kernel_rfl) ?_ ?_
        · repeat (first | exact AllFrom.nil_ | (refine AllFrom.cons_ (by rfl) ?_ ?_; rotate_left))
          · intro f_ w' g_ hF hD; have h7 : f_ 7 = .int .u64 (nv : Int) := hF 7 (by kernel_rfl); rw [if_pos (wanted_none rfl)]; clear hF hD; exact gives_val (by simp only [execOp, evF, h7]; first | rfl | go_simp) ⟨Gz.refl _, rfl⟩
          · intro f_ w' g_ hF hD; have h28 : f_ 28 = (.int .u64 (nv : Int)) := hD 0 28 (by kernel_rfl) rfl; rw [if_pos (wanted_none rfl)]; clear hF hD; exact gives_val (by simp only [execOp, evF, h28]; first | rfl | go_simp) ⟨Gz.refl _, rfl⟩
          · intro f_ w' g_ hF hD; have h2 : f_ 2 = .pointer (some ⟨g1, 0, none⟩) := hF 2 (by kernel_rfl); rw [if_pos (wanted_none rfl)]; clear hF hD; exact gives_load_row 61 (.tmp 2) rfl g1 (by simp only [evF, h2]) 61 (rsC A c s1) (0, 0) _ (g_.far HA2.out HGV.out) Tryz.underlying61 rfl (info_rdr.trans rfl) ⟨Gz.refl _, rfl⟩
          · intro f_ w' g_ hF hD; have h29 : f_ 29 = (.int .i64 (nv : Int)) := hD 1 29 (by kernel_rfl) rfl; rw [if_pos (wanted_none rfl)]; clear hF hD; exact gives_val (by simp only [execOp, evF, h29]; first | rfl | go_simp) ⟨Gz.refl _, rfl⟩
          · intro f_ w' g_ hF hD; have h5 : f_ 5 = .pointer (some ⟨g2, 0, none⟩) := hF 5 (by kernel_rfl); have h30 : f_ 30 = (.agg (rsC A c s1)) := hD 2 30 (by kernel_rfl) rfl; rw [if_pos (wanted_none rfl)]; clear hF hD; obtain ⟨c0, e0, z0, -⟩ := g_.kq _ _ HC2.out; exact gives_store_rowQ 61 (.tmp 5) (.tmp 30) rfl g2 (rsC A c s1) (by simp only [evF, h5, h30]) (by simp only [evF, h5, h30]) 61 c0 e0 (info_rdr.trans rfl) (z0.trans rfl) (rs_one _ _ _) ⟨Gz.setQ e0 (z0.trans rfl) HVN.out, setRow_heap _ _ _ _ _ _ e0⟩
          · intro f_ w' g_ hF hD; rw [if_pos (wanted_none rfl)]; clear hF hD; exact gives_val (by simp only [execOp, evF]; first | rfl | go_simp) ⟨Gz.refl _, rfl⟩
        intro f_ w4 gz hD hZ0; have h4 : f_ 4 = .int .i64 (nv : Int) := hD 3 4 rfl; have h6 : f_ 6 = .int .i64 0 := hD 5 6 rfl
        have hq9 : w4.heap[g2]? = some (.cells (rsC A c s1) 61 (0, 0)) := (hZ0 4 (by decide) rfl).elim (fun _ x => x)
        simp only [putAll, List.setIfInBounds_toArray, List.set_cons_zero, List.set_cons_succ, h4, h6]; generalize f_ 28 = d28; generalize f_ 29 = d29; generalize f_ 30 = d30; clear hD hZ0 h4 h6
        go_wp2_with (fail)
        try simp only [Exit.inBlock, Exit.then]
        refine bodyPost_ret (v := .tuple #[.int .i64 (nv : Int), .agg (rsC A c s1), .int .i64 0]) (results_trt (p := 4) (q := 5) (u := 6) (ty := 61) rfl _ _ g2 61 _ (0, 0) _ _ _ rfl rfl rfl hq9 Tryz.underlying61 rfl (info_rdr.trans rfl)) rfl ?_; exact NumP.mk_ HZ.out rfl rfl ((below_drewN HB2.out 1).trans (gz.st.below (B := w.heap.size) HB2.out.size (fun k hk x => by { have h1 := HGG.out; have h2 := HVL.out; rcases x with x | x <;> omega })))
end Go.Proofs.YtndjggabdajbfaaGreatDoor



/- What the reference's size (17) answers: thing17 1. Conditions: the reader's bytes can be read, it has no error. -/
namespace Go.Proofs.YtndjggabdajbfaaGreatDoor
open Go Go.RowKit Go.Lib

/-- What size ends with. -/
def SizP (D : Option Addr) (dc : Nat) (T : Nat × ScD × List UInt8) (st : RS) (w : World) (e : Ending) (w' : World) : Prop :=
  ∃ s' A' n' c' st', e = .returned (.tuple #[.agg (scC s' A' n' c' none 0 0), .agg (rsC D dc st'), .int .i64 (T.1 : Int)]) ∧ Below w.heap.size w w' ∧
    (T.1 = 0 → s' = T.2.1 ∧ st'.b = st.b ∧ st'.rest = T.2.2 ∧ st'.err = 0 ∧ st'.at_ ≤ st.b.length ∧ OwnC w' w.heap.size (.slice A' n' c') s'.cells ∧ ∃ C R : Nat, s' = blankS (C : Int) (R : Int) ∧ n' = C * R ∧ fitsI (C : Int) (R : Int) = true)
theorem SizP.no {D : Option Addr} {dc : Nat} {T : Nat × ScD × List UInt8} {st s1 : RS} {w w' : World} {x : Int} {E : Nat} (h : T.1 = E) (h0 : E ≠ 0) (hx : x = (E : Int)) (hb : Below w.heap.size w w') :
    SizP D dc T st w (.returned (.tuple #[.agg (scC scZ none 0 0 none 0 0), .agg (rsC D dc s1), .int .i64 x])) w' := by
  subst hx
  exact ⟨scZ, none, 0, 0, s1, by rw [h], hb, fun h2 => absurd (h.symm.trans h2) h0⟩
theorem SizP.yes {D : Option Addr} {dc : Nat} {T : Nat × ScD × List UInt8} {st s1 : RS} {w w' : World} {A : Option Addr} {N c C R : Nat} (h : T = (0, blankS (C : Int) (R : Int), s1.rest)) (hb1 : s1.b = st.b) (h0 : s1.err = 0) (ha : s1.at_ ≤ st.b.length) (ho : OwnC w' w.heap.size (.slice A N c) (blankS (C : Int) (R : Int)).cells) (hN : N = C * R) (hf : fitsI (C : Int) (R : Int) = true) (hb : Below w.heap.size w w') :
    SizP D dc T st w (.returned (.tuple #[.agg (scC (blankS (C : Int) (R : Int)) A N c none 0 0), .agg (rsC D dc s1), .int .i64 0])) w' := by
  subst h
  exact ⟨_, A, N, c, s1, rfl, hb, fun _ => ⟨rfl, hb1, rfl, h0, ha, ho, C, R, rfl, hN, hf⟩⟩
theorem thing1 (s : ScD) (l : List UInt8) : thing17 1 s l = (match varGo l 0 with
    | .bad e => (e, s, l)
    | .ok c kc => match varGo (l.drop kc) 0 with
      | .bad e => (e, s, l)
      | .ok r kr => if c < 1 ∨ 80 < c ∨ r < 1 ∨ 24 < r then (3, s, l) else (0, blankS (c : Int) (r : Int), (l.drop kc).drop kr)) := rfl
set_option maxRecDepth 100000 in
set_option maxHeartbeats 16000000 in
theorem size_c (D : Option Addr) (dc : Nat) (s0 : ScD) (st : RS) (w : World) (h : RsOk w D dc st) (h0 : st.err = 0) :
    Calls Tryz.prog 23 #[.agg (rsC D dc st)] w fun e w' => SizP D dc (thing17 1 s0 st.rest) st w e w' := by
  obtain ⟨T, eT⟩ : ∃ T, thing17 1 s0 st.rest = T := ⟨_, rfl⟩; rw [eT]; rw [thing1] at eT
  have HE0 := Lib.hid h0
  have HBL : Hid (st.at_ ≤ st.b.length) := Lib.hid h.2.2.2.1
  obtain ⟨X, eX⟩ : ∃ X, X = rsC D dc st := ⟨_, rfl⟩; rw [← eX]; obtain ⟨W0, eW0⟩ : ∃ W0, W0 = ((w.alloc (.cells X 61)).alloc (.cells (scC scZ none 0 0 none 0 0) 25)).alloc (.cells (rsC none 0 rsZ) 61) := ⟨_, rfl⟩; obtain ⟨g1, eg1⟩ : ∃ g, g = w.heap.size := ⟨_, rfl⟩; obtain ⟨g2, eg2⟩ : ∃ g, g = w.heap.size + 1 := ⟨_, rfl⟩; obtain ⟨g3, eg3⟩ : ∃ g, g = w.heap.size + 1 + 1 := ⟨_, rfl⟩
  have hs1 : ((w.alloc (.cells X 61)).alloc (.cells (scC scZ none 0 0 none 0 0) 25)).heap.size = w.heap.size + 1 + 1 := by simp
  have HB0 : Hid (Below w.heap.size w W0) := Lib.hid (by rw [eW0]; exact (((Below.refl _ _).alloc (Nat.le_refl _) _).alloc (by simp) _).alloc (by simp only [World.size_alloc]; omega) _)
  have HA0 : Hid (RdB W0 g1 D dc st) := Lib.hid (by rw [eW0, eg1, eX]; exact (Below.heap_alloc _ _ _ (by simp only [World.size_alloc]; omega)).trans ((Below.heap_alloc _ _ _ (by simp)).trans (heap_alloc_new _ _)))
  have HQ0 : Hid (ScB W0 g2 scZ none 0 0 none 0 0) := Lib.hid (by rw [eW0, eg2]; exact (Below.heap_alloc _ _ _ (by simp)).trans (heap_alloc2_new _ _ _))
  have HV0 : Hid (RdB W0 g3 none 0 rsZ) := Lib.hid (by rw [eW0, eg3, ← hs1]; exact heap_alloc_new _ _)
  have HOW := Lib.hid h
  have HOK : Hid (RsOk W0 D dc st) := Lib.hid (h.below HB0.out)
  have eW0' : ((w.alloc (.cells X 61)).alloc (.cells #[.int .i64 0, .int .i64 0, .slice none 0 0, .int .i64 0, .int .i64 0, .bool false, .int .u8 0, .string { data := #[] }, .slice none 0 0] 25)).alloc (.cells #[.slice none 0 0, .int .i64 0, .int .i64 0] 61) = W0 := by rw [eW0]; rfl
  have EW0 := Lib.hid eW0'
  have EG1 := Lib.hid eg1
  have EG2 := Lib.hid eg2
  have EG3 := Lib.hid eg3
  have HLO : Hid (w.heap.size ≤ g1 ∧ w.heap.size ≤ g2 ∧ w.heap.size ≤ g3) := Lib.hid (by omega)
  have HNE : Hid (g3 ≠ g2) := Lib.hid (by omega)
  have HN1 : Hid (g2 ≠ g1 ∧ g3 ≠ g1) := Lib.hid (by omega)
  obtain ⟨v1, s1, eV1⟩ : ∃ n t, varR st = (n, t) := ⟨_, _, rfl⟩
  have EV1 := Lib.hid eV1
  have HS1 : Hid (RsOk W0 D dc s1) := Lib.hid (by have h := HOK.out.var; rw [eV1] at h; exact h)
  have ET := Lib.hid eT
  clear eX eW0 eW0' eg1 eg2 eg3 hs1 h h0 eT
  go_enter Tryz.func23, Tryz.ntmps23
  go_upto_region 1 with (fail)
  rw [EW0.out, ← EG3.out, ← EG2.out, ← EG1.out]
  go_upto_region 2 with (first
    | (refine wpList_load_row rfl 61 (.tmp 1) rfl g1 rfl 61 _ (0, 0) _ HA0.out Tryz.underlying61 rfl (info_rdr.trans rfl) ?_)
    | (go_at_call 42; (refine (rvar_c D dc st W0 HOK.out).mono ?_); rintro _ w1 ⟨rfl, hb1⟩; rw [EV1.out]; have HB1 := Lib.hid (HB0.out.trans (hb1.mono HB0.out.size)); have HA1 := Lib.hid (HA0.out.below hb1); have HQ1 := Lib.hid (HQ0.out.below hb1); have HV1 := Lib.hid (HV0.out.below hb1); have HO1 := Lib.hid (HS1.out.below hb1); clear hb1)
    | (refine wpList_store_row rfl 61 (.tmp 1) (.tmp 13) rfl g1 (rsC D dc s1) rfl rfl 61 _ HA1.out (info_rdr.trans rfl) rfl (rs_one _ _ _) ?_))
  obtain ⟨W2, eW⟩ : ∃ W, W = w1.setRow g1 (rsC D dc s1) := ⟨_, rfl⟩; rw [← eW]
  have HA2 : Hid (RdB W2 g1 D dc s1) := Lib.hid (by rw [eW]; exact setRow_heap w1 g1 _ _ _ _ HA1.out)
  have HQ2 : Hid (ScB W2 g2 scZ none 0 0 none 0 0) := Lib.hid (by rw [eW]; exact (setRow_other w1 g1 g2 _ HN1.out.1).trans HQ1.out)
  have HV2 : Hid (RdB W2 g3 none 0 rsZ) := Lib.hid (by rw [eW]; exact (setRow_other w1 g1 g3 _ HN1.out.2).trans HV1.out)
  have HB2 : Hid (Below w.heap.size w W2) := Lib.hid (by rw [eW]; exact below_setRow HB1.out HLO.out.1 _)
  have HO2 : Hid (RsOk W2 D dc s1) := Lib.hid (by have h := (HOW.out.below HB2.out).var; rw [EV1.out] at h; exact h)
  clear eW
  have x2 := HA2.out.three.2.2
  cases hv : varGo st.rest 0 with
  | bad e =>
    have h1 := varR_bad HE0.out hv
    rw [eV1] at h1
    injection h1 with h1 h2
    have HE : Hid (e ≠ 0) := Lib.hid (by have := varGo_err hv; omega)
    have HT : Hid (T.1 = s1.err) := Lib.hid (by rw [← ET.out, hv, h2])
    have HEN : Hid (s1.err ≠ 0) := Lib.hid (by rw [h2]; exact HE.out)
    have z0 : (((s1.err : Nat) : Int) != 0) = true := by rw [bne_iff_ne]; have := HEN.out; omega
    clear hv h1 h2 eV1
    go_upto_region 3 with (fail)
    refine wp_region_rz (g2) (g3) (scC scZ none 0 0 none 0 0) (rsC D dc s1) 59 [Rz.eq (.agg (scC scZ none 0 0 none 0 0)), Rz.eq (.agg (rsC D dc s1)), Rz.eq (.pointer (some ⟨g1, 2, none⟩)), Rz.eq (.int .i64 (s1.err : Int)), Rz.doneQ 25, Rz.doneV 61, Rz.eq (.int .i64 (s1.err : Int))] [17, 18, 19, 20, 4] (by kernel_rfl) rfl (by kernel_rfl) (by kernel_rfl) ?_ ?_
    · repeat (first | exact AllFrom.nil_ | (refine AllFrom.cons_ (by rfl) ?_ ?_; rotate_left))
      · intro f_ w' g_ hF hD; rw [if_pos (wanted_none rfl)]; clear hF hD; exact gives_build 25 _ rfl (scC scZ none 0 0 none 0 0) (by first | kernel_rfl | (simp only [List.map_toArray, List.map_cons, List.map_nil, evF]; kernel_rfl)) ⟨Gz.refl _, rfl⟩
      · intro f_ w' g_ hF hD; have h1 : f_ 1 = .pointer (some ⟨g1, 0, none⟩) := hF 1 (by kernel_rfl); rw [if_pos (wanted_none rfl)]; clear hF hD; exact gives_load_row 61 (.tmp 1) rfl g1 (by simp only [evF, h1]) 61 (rsC D dc s1) (0, 0) _ (g_.far HA2.out ⟨fun x => HN1.out.1 x.symm, fun x => HN1.out.2 x.symm⟩) Tryz.underlying61 rfl (info_rdr.trans rfl) ⟨Gz.refl _, rfl⟩
      · intro f_ w' g_ hF hD; have h1 : f_ 1 = .pointer (some ⟨g1, 0, none⟩) := hF 1 (by kernel_rfl); rw [if_pos (wanted_none rfl)]; clear hF hD; exact gives_val (by simp only [execOp, evF, h1]; first | rfl | go_simp) ⟨Gz.refl _, rfl⟩
      · intro f_ w' g_ hF hD; have h19 : f_ 19 = (.pointer (some ⟨g1, 2, none⟩)) := hD 2 19 (by kernel_rfl) rfl; rw [if_pos (wanted_none rfl)]; clear hF hD
        have cl : w'.cell? ⟨g1, 2, none⟩ = some (.int .i64 (s1.err : Int)) := (show RdB w' g1 D dc s1 from g_.far HA2.out ⟨fun x => HN1.out.1 x.symm, fun x => HN1.out.2 x.symm⟩).three.2.2
        exact gives_val (by simp only [execOp, evF, h19]; go_simp) ⟨Gz.refl _, rfl⟩
      · intro f_ w' g_ hF hD; have h2 : f_ 2 = .pointer (some ⟨g2, 0, none⟩) := hF 2 (by kernel_rfl); have h17 : f_ 17 = (.agg (scC scZ none 0 0 none 0 0)) := hD 0 17 (by kernel_rfl) rfl; rw [if_pos (wanted_none rfl)]; clear hF hD; obtain ⟨c0, e0, z0, -⟩ := g_.kq _ _ HQ2.out; exact gives_store_rowQ 25 (.tmp 2) (.tmp 17) rfl g2 (scC scZ none 0 0 none 0 0) (by simp only [evF, h2, h17]) (by simp only [evF, h2, h17]) 25 c0 e0 (info_sc.trans rfl) (z0.trans rfl) (sc_one _ _ _ _ _ _ _) ⟨Gz.setQ e0 (z0.trans rfl) HNE.out, setRow_heap _ _ _ _ _ _ e0⟩
      · intro f_ w' g_ hF hD; have h3 : f_ 3 = .pointer (some ⟨g3, 0, none⟩) := hF 3 (by kernel_rfl); have h18 : f_ 18 = (.agg (rsC D dc s1)) := hD 1 18 (by kernel_rfl) rfl; rw [if_pos (wanted_none rfl)]; clear hF hD; obtain ⟨c0, e0, z0, -⟩ := g_.kv _ _ HV2.out; exact gives_store_rowQ 61 (.tmp 3) (.tmp 18) rfl g3 (rsC D dc s1) (by simp only [evF, h3, h18]) (by simp only [evF, h3, h18]) 61 c0 e0 (info_rdr.trans rfl) (z0.trans rfl) (rs_one _ _ _) ⟨Gz.setV e0 (z0.trans rfl) HNE.out, setRow_heap _ _ _ _ _ _ e0⟩
      · intro f_ w' g_ hF hD; have h20 : f_ 20 = (.int .i64 (s1.err : Int)) := hD 3 20 (by kernel_rfl) rfl; rw [if_pos (wanted_none rfl)]; clear hF hD; exact gives_val (by simp only [execOp, evF, h20]; first | rfl | go_simp) ⟨Gz.refl _, rfl⟩
    intro f_ w4 gz hD hZ0; have h4 : f_ 4 = .int .i64 (s1.err : Int) := hD 6 4 rfl
    have hq9 : w4.heap[g2]? = some (.cells (scC scZ none 0 0 none 0 0) 25 (0, 0)) := (hZ0 4 (by decide) rfl).elim (fun _ x => x)
    have hv9 : w4.heap[g3]? = some (.cells (rsC D dc s1) 61 (0, 0)) := (hZ0 5 (by decide) rfl).elim (fun _ x => x)
    simp only [putAll, List.setIfInBounds_toArray, List.set_cons_zero, List.set_cons_succ, h4]; generalize f_ 17 = d17; generalize f_ 18 = d18; generalize f_ 19 = d19; generalize f_ 20 = d20; clear hD hZ0 h4
    go_wp2_with (fail)
    try simp only [Exit.inBlock, Exit.then]
    refine bodyPost_ret (v := .tuple #[.agg (scC scZ none 0 0 none 0 0), .agg (rsC D dc s1), .int .i64 (s1.err : Int)]) (results_cct (p := 2) (q := 3) (u := 4) (ty := 25) (tz := 61) rfl _ _ g2 g3 25 61 _ _ (0, 0) (0, 0) _ _ _ rfl rfl rfl hq9 hv9 Tryz.underlying25 rfl (info_sc.trans rfl) Tryz.underlying61 rfl (info_rdr.trans rfl)) rfl ?_; exact SizP.no HT.out HEN.out rfl ((below_drewN HB2.out 1).trans (gz.st.below (B := w.heap.size) HB2.out.size (fun k hk x => by { have h1 := HLO.out; rcases x with x | x <;> omega })))
  | ok c kc =>
    have h1 := varR_ok HE0.out hv
    rw [eV1] at h1
    injection h1 with h1 h2
    have HC1 : Hid (v1 = c) := Lib.hid h1
    have HI1 : Hid (s1.err = 0 ∧ s1.rest = st.rest.drop kc ∧ s1.b = st.b) := Lib.hid (by rw [h2]; exact ⟨HE0.out, rest_at st kc, rfl⟩)
    have ET1 : Hid ((match varGo s1.rest 0 with
      | .bad e => (e, s0, st.rest)
      | .ok r kr => if c < 1 ∨ 80 < c ∨ r < 1 ∨ 24 < r then (3, s0, st.rest) else (0, blankS (c : Int) (r : Int), s1.rest.drop kr)) = T) := Lib.hid (by rw [← ET.out, hv, HI1.out.2.1])
    have z0 : (((s1.err : Nat) : Int) != 0) = false := by rw [HI1.out.1]; rfl
    obtain ⟨v2, s2, eV2⟩ : ∃ n t, varR s1 = (n, t) := ⟨_, _, rfl⟩
    have EV2 := Lib.hid eV2
    clear hv h1 h2 eV1
    obtain rfl := HC1.out
    go_upto_region 5 with (first
      | (refine wpList_load_row rfl 61 (.tmp 1) rfl g1 rfl 61 _ (0, 0) _ HA2.out Tryz.underlying61 rfl (info_rdr.trans rfl) ?_)
      | (go_at_call 42; (refine (rvar_c D dc s1 W2 HO2.out).mono ?_); rintro _ w3 ⟨rfl, hb3⟩; rw [EV2.out]; have HB3 := Lib.hid (HB2.out.trans (hb3.mono HB2.out.size)); have HA3 := Lib.hid (HA2.out.below hb3); have HQ3 := Lib.hid (HQ2.out.below hb3); have HV3 := Lib.hid (HV2.out.below hb3); have HO3 : Hid (RsOk w3 D dc s2) := Lib.hid (by { have h := (HO2.out.below hb3).var; rw [EV2.out] at h; exact h }); clear hb3)
      | (refine wpList_store_row rfl 61 (.tmp 1) (.tmp 25) rfl g1 (rsC D dc s2) rfl rfl 61 _ HA3.out (info_rdr.trans rfl) rfl (rs_one _ _ _) ?_))
    clear x2 z0; obtain ⟨W4, eW⟩ : ∃ W, W = w3.setRow g1 (rsC D dc s2) := ⟨_, rfl⟩; rw [← eW]
    have HA4 : Hid (RdB W4 g1 D dc s2) := Lib.hid (by rw [eW]; exact setRow_heap w3 g1 _ _ _ _ HA3.out)
    have HQ4 : Hid (ScB W4 g2 scZ none 0 0 none 0 0) := Lib.hid (by rw [eW]; exact (setRow_other w3 g1 g2 _ HN1.out.1).trans HQ3.out)
    have HV4 : Hid (RdB W4 g3 none 0 rsZ) := Lib.hid (by rw [eW]; exact (setRow_other w3 g1 g3 _ HN1.out.2).trans HV3.out)
    have HB4 : Hid (Below w.heap.size w W4) := Lib.hid (by rw [eW]; exact below_setRow HB3.out HLO.out.1 _)
    have HO4 : Hid (RsOk W4 D dc s2) := Lib.hid (by have h := (HOW.out.below HB4.out).var; rw [EV1.out] at h; have h := h.var; rw [EV2.out] at h; exact h)
    clear eW
    have x2 := HA4.out.three.2.2
    cases hv : varGo s1.rest 0 with
    | bad e =>
      have h1 := varR_bad HI1.out.1 hv
      rw [eV2] at h1
      injection h1 with h1 h2
      have HE : Hid (e ≠ 0) := Lib.hid (by have := varGo_err hv; omega)
      have HT : Hid (T.1 = s2.err) := Lib.hid (by rw [← ET1.out, hv, h2])
      have HEN : Hid (s2.err ≠ 0) := Lib.hid (by rw [h2]; exact HE.out)
      have z0 : (((s2.err : Nat) : Int) != 0) = true := by rw [bne_iff_ne]; have := HEN.out; omega
      clear hv h1 h2 eV2
      go_upto_region 6 with (fail)
      refine wp_region_rz (g2) (g3) (scC scZ none 0 0 none 0 0) (rsC D dc s2) 59 [Rz.eq (.agg (scC scZ none 0 0 none 0 0)), Rz.eq (.agg (rsC D dc s2)), Rz.eq (.pointer (some ⟨g1, 2, none⟩)), Rz.eq (.int .i64 (s2.err : Int)), Rz.doneQ 25, Rz.doneV 61, Rz.eq (.int .i64 (s2.err : Int))] [29, 30, 31, 32, 4] (by kernel_rfl) rfl (by kernel_rfl) (by kernel_rfl) ?_ ?_
      · repeat (first | exact AllFrom.nil_ | (refine AllFrom.cons_ (by rfl) ?_ ?_; rotate_left))
        · intro f_ w' g_ hF hD; rw [if_pos (wanted_none rfl)]; clear hF hD; exact gives_build 25 _ rfl (scC scZ none 0 0 none 0 0) (by first | kernel_rfl | (simp only [List.map_toArray, List.map_cons, List.map_nil, evF]; kernel_rfl)) ⟨Gz.refl _, rfl⟩
        · intro f_ w' g_ hF hD; have h1 : f_ 1 = .pointer (some ⟨g1, 0, none⟩) := hF 1 (by kernel_rfl); rw [if_pos (wanted_none rfl)]; clear hF hD; exact gives_load_row 61 (.tmp 1) rfl g1 (by simp only [evF, h1]) 61 (rsC D dc s2) (0, 0) _ (g_.far HA4.out ⟨fun x => HN1.out.1 x.symm, fun x => HN1.out.2 x.symm⟩) Tryz.underlying61 rfl (info_rdr.trans rfl) ⟨Gz.refl _, rfl⟩
        · intro f_ w' g_ hF hD; have h1 : f_ 1 = .pointer (some ⟨g1, 0, none⟩) := hF 1 (by kernel_rfl); rw [if_pos (wanted_none rfl)]; clear hF hD; exact gives_val (by simp only [execOp, evF, h1]; first | rfl | go_simp) ⟨Gz.refl _, rfl⟩
        · intro f_ w' g_ hF hD; have h31 : f_ 31 = (.pointer (some ⟨g1, 2, none⟩)) := hD 2 31 (by kernel_rfl) rfl; rw [if_pos (wanted_none rfl)]; clear hF hD
          have cl : w'.cell? ⟨g1, 2, none⟩ = some (.int .i64 (s2.err : Int)) := (show RdB w' g1 D dc s2 from g_.far HA4.out ⟨fun x => HN1.out.1 x.symm, fun x => HN1.out.2 x.symm⟩).three.2.2
          exact gives_val (by simp only [execOp, evF, h31]; go_simp) ⟨Gz.refl _, rfl⟩
        · intro f_ w' g_ hF hD; have h2 : f_ 2 = .pointer (some ⟨g2, 0, none⟩) := hF 2 (by kernel_rfl); have h29 : f_ 29 = (.agg (scC scZ none 0 0 none 0 0)) := hD 0 29 (by kernel_rfl) rfl; rw [if_pos (wanted_none rfl)]; clear hF hD; obtain ⟨c0, e0, z0, -⟩ := g_.kq _ _ HQ4.out; exact gives_store_rowQ 25 (.tmp 2) (.tmp 29) rfl g2 (scC scZ none 0 0 none 0 0) (by simp only [evF, h2, h29]) (by simp only [evF, h2, h29]) 25 c0 e0 (info_sc.trans rfl) (z0.trans rfl) (sc_one _ _ _ _ _ _ _) ⟨Gz.setQ e0 (z0.trans rfl) HNE.out, setRow_heap _ _ _ _ _ _ e0⟩
        · intro f_ w' g_ hF hD; have h3 : f_ 3 = .pointer (some ⟨g3, 0, none⟩) := hF 3 (by kernel_rfl); have h30 : f_ 30 = (.agg (rsC D dc s2)) := hD 1 30 (by kernel_rfl) rfl; rw [if_pos (wanted_none rfl)]; clear hF hD; obtain ⟨c0, e0, z0, -⟩ := g_.kv _ _ HV4.out; exact gives_store_rowQ 61 (.tmp 3) (.tmp 30) rfl g3 (rsC D dc s2) (by simp only [evF, h3, h30]) (by simp only [evF, h3, h30]) 61 c0 e0 (info_rdr.trans rfl) (z0.trans rfl) (rs_one _ _ _) ⟨Gz.setV e0 (z0.trans rfl) HNE.out, setRow_heap _ _ _ _ _ _ e0⟩
        · intro f_ w' g_ hF hD; have h32 : f_ 32 = (.int .i64 (s2.err : Int)) := hD 3 32 (by kernel_rfl) rfl; rw [if_pos (wanted_none rfl)]; clear hF hD; exact gives_val (by simp only [execOp, evF, h32]; first | rfl | go_simp) ⟨Gz.refl _, rfl⟩
      intro f_ w4 gz hD hZ0; have h4 : f_ 4 = .int .i64 (s2.err : Int) := hD 6 4 rfl
      have hq9 : w4.heap[g2]? = some (.cells (scC scZ none 0 0 none 0 0) 25 (0, 0)) := (hZ0 4 (by decide) rfl).elim (fun _ x => x)
      have hv9 : w4.heap[g3]? = some (.cells (rsC D dc s2) 61 (0, 0)) := (hZ0 5 (by decide) rfl).elim (fun _ x => x)
      simp only [putAll, List.setIfInBounds_toArray, List.set_cons_zero, List.set_cons_succ, h4]; generalize f_ 29 = d29; generalize f_ 30 = d30; generalize f_ 31 = d31; generalize f_ 32 = d32; clear hD hZ0 h4
      go_wp2_with (fail)
      try simp only [Exit.inBlock, Exit.then]
      refine bodyPost_ret (v := .tuple #[.agg (scC scZ none 0 0 none 0 0), .agg (rsC D dc s2), .int .i64 (s2.err : Int)]) (results_cct (p := 2) (q := 3) (u := 4) (ty := 25) (tz := 61) rfl _ _ g2 g3 25 61 _ _ (0, 0) (0, 0) _ _ _ rfl rfl rfl hq9 hv9 Tryz.underlying25 rfl (info_sc.trans rfl) Tryz.underlying61 rfl (info_rdr.trans rfl)) rfl ?_; exact SizP.no HT.out HEN.out rfl ((below_drewN HB4.out 1).trans (gz.st.below (B := w.heap.size) HB4.out.size (fun k hk x => by { have h1 := HLO.out; rcases x with x | x <;> omega })))
    | ok r kr =>
      have h1 := varR_ok HI1.out.1 hv
      rw [eV2] at h1
      injection h1 with h1 h2
      have HC2 : Hid (v2 = r) := Lib.hid h1
      have HI2 : Hid (s2.err = 0 ∧ s2.rest = s1.rest.drop kr ∧ s2.b = st.b) := Lib.hid (by rw [h2]; exact ⟨HI1.out.1, rest_at s1 kr, HI1.out.2.2⟩)
      have ET2 : Hid ((if v1 < 1 ∨ 80 < v1 ∨ r < 1 ∨ 24 < r then (3, s0, st.rest) else (0, blankS (v1 : Int) (r : Int), s2.rest)) = T) := Lib.hid (by rw [← ET1.out, hv, HI2.out.2.1])
      have z0 : (((s2.err : Nat) : Int) != 0) = false := by rw [HI2.out.1]; rfl
      clear hv h1 h2 eV2
      obtain rfl := HC2.out
      obtain ⟨b1, d1⟩ : ∃ b, decide (v1 < 1) = b := ⟨_, rfl⟩; obtain ⟨b2, d2⟩ : ∃ b, decide (80 < v1) = b := ⟨_, rfl⟩; obtain ⟨b3, d3⟩ : ∃ b, decide (v2 < 1) = b := ⟨_, rfl⟩; obtain ⟨b4, d4⟩ : ∃ b, decide (24 < v2) = b := ⟨_, rfl⟩
      have i1 : decide ((v1 : Int) < 1) = b1 := by rw [← d1]; exact decide_eq_decide.2 (by omega)
      have i2 : decide ((80 : Int) < (v1 : Int)) = b2 := by rw [← d2]; exact decide_eq_decide.2 (by omega)
      have i3 : decide ((v2 : Int) < 1) = b3 := by rw [← d3]; exact decide_eq_decide.2 (by omega)
      have i4 : decide ((24 : Int) < (v2 : Int)) = b4 := by rw [← d4]; exact decide_eq_decide.2 (by omega)
      obtain ⟨bad, eb⟩ : ∃ b, (b1 || (b2 || (b3 || b4))) = b := ⟨_, rfl⟩
      have EB := Lib.hid eb
      have HBD : Hid ((bad = true → v1 < 1 ∨ 80 < v1 ∨ v2 < 1 ∨ 24 < v2) ∧ (bad = false → ¬ (v1 < 1 ∨ 80 < v1 ∨ v2 < 1 ∨ 24 < v2))) := Lib.hid (by
        rw [← eb, ← d1, ← d2, ← d3, ← d4]; simp only [Bool.or_eq_true, Bool.or_eq_false_iff, decide_eq_true_eq, decide_eq_false_iff_not]
        omega)
      clear eb
      go_upto_region 7 with (fail)
      go_cut [46] (fun s46 wx => s46 = .bool bad ∧ Hid (Below W4.heap.size W4 wx))
      case first =>
        cases b1 <;> cases b2 <;> cases b3 <;> cases b4 <;>
        · go_wp2_with (fail)
          go_meet
          exact ⟨by rw [← EB.out] <;> rfl, Lib.hid (Below.refl _ _)⟩
      case rest =>
      obtain ⟨rfl, HBX⟩ := hcut
      have HB5 := Lib.hid (HB4.out.trans (HBX.out.mono HB4.out.size))
      have HA5 := Lib.hid (HA4.out.below HBX.out)
      have HQ5 := Lib.hid (HQ4.out.below HBX.out)
      have HV5 := Lib.hid (HV4.out.below HBX.out)
      clear d1 d2 d3 d4 i1 i2 i3 i4 z0 x2
      cases bad
      rotate_left
      · have HT : Hid (T.1 = 3) := Lib.hid (by rw [← ET2.out, if_pos (HBD.out.1 rfl)])
        go_upto_region 8 with (fail)
        refine wp_region_rz (g2) (g3) (scC scZ none 0 0 none 0 0) (rsC D dc s2) 59 [Rz.eq (.agg (scC scZ none 0 0 none 0 0)), Rz.eq (.agg (rsC D dc s2)), Rz.doneQ 25, Rz.doneV 61, Rz.eq (.int .i64 3)] [47, 48, 4] (by kernel_rfl) rfl (by kernel_rfl) (by kernel_rfl) ?_ ?_
        · repeat (first | exact AllFrom.nil_ | (refine AllFrom.cons_ (by rfl) ?_ ?_; rotate_left))
          · intro f_ w' g_ hF hD; rw [if_pos (wanted_none rfl)]; clear hF hD; exact gives_build 25 _ rfl (scC scZ none 0 0 none 0 0) (by first | kernel_rfl | (simp only [List.map_toArray, List.map_cons, List.map_nil, evF]; kernel_rfl)) ⟨Gz.refl _, rfl⟩
          · intro f_ w' g_ hF hD; have h1 : f_ 1 = .pointer (some ⟨g1, 0, none⟩) := hF 1 (by kernel_rfl); rw [if_pos (wanted_none rfl)]; clear hF hD; exact gives_load_row 61 (.tmp 1) rfl g1 (by simp only [evF, h1]) 61 (rsC D dc s2) (0, 0) _ (g_.far HA5.out ⟨fun x => HN1.out.1 x.symm, fun x => HN1.out.2 x.symm⟩) Tryz.underlying61 rfl (info_rdr.trans rfl) ⟨Gz.refl _, rfl⟩
          · intro f_ w' g_ hF hD; have h2 : f_ 2 = .pointer (some ⟨g2, 0, none⟩) := hF 2 (by kernel_rfl); have h47 : f_ 47 = (.agg (scC scZ none 0 0 none 0 0)) := hD 0 47 (by kernel_rfl) rfl; rw [if_pos (wanted_none rfl)]; clear hF hD; obtain ⟨c0, e0, z0, -⟩ := g_.kq _ _ HQ5.out; exact gives_store_rowQ 25 (.tmp 2) (.tmp 47) rfl g2 (scC scZ none 0 0 none 0 0) (by simp only [evF, h2, h47]) (by simp only [evF, h2, h47]) 25 c0 e0 (info_sc.trans rfl) (z0.trans rfl) (sc_one _ _ _ _ _ _ _) ⟨Gz.setQ e0 (z0.trans rfl) HNE.out, setRow_heap _ _ _ _ _ _ e0⟩
          · intro f_ w' g_ hF hD; have h3 : f_ 3 = .pointer (some ⟨g3, 0, none⟩) := hF 3 (by kernel_rfl); have h48 : f_ 48 = (.agg (rsC D dc s2)) := hD 1 48 (by kernel_rfl) rfl; rw [if_pos (wanted_none rfl)]; clear hF hD; obtain ⟨c0, e0, z0, -⟩ := g_.kv _ _ HV5.out; exact gives_store_rowQ 61 (.tmp 3) (.tmp 48) rfl g3 (rsC D dc s2) (by simp only [evF, h3, h48]) (by simp only [evF, h3, h48]) 61 c0 e0 (info_rdr.trans rfl) (z0.trans rfl) (rs_one _ _ _) ⟨Gz.setV e0 (z0.trans rfl) HNE.out, setRow_heap _ _ _ _ _ _ e0⟩
          · intro f_ w' g_ hF hD; rw [if_pos (wanted_none rfl)]; clear hF hD; exact gives_val (by simp only [execOp, evF]; first | rfl | go_simp) ⟨Gz.refl _, rfl⟩
        intro f_ w4 gz hD hZ0; have h4 : f_ 4 = .int .i64 3 := hD 4 4 rfl
        have hq9 : w4.heap[g2]? = some (.cells (scC scZ none 0 0 none 0 0) 25 (0, 0)) := (hZ0 2 (by decide) rfl).elim (fun _ x => x)
        have hv9 : w4.heap[g3]? = some (.cells (rsC D dc s2) 61 (0, 0)) := (hZ0 3 (by decide) rfl).elim (fun _ x => x)
        simp only [putAll, List.setIfInBounds_toArray, List.set_cons_zero, List.set_cons_succ, h4]; generalize f_ 47 = d47; generalize f_ 48 = d48; clear hD hZ0 h4
        go_wp2_with (fail)
        try simp only [Exit.inBlock, Exit.then]
        refine bodyPost_ret (v := .tuple #[.agg (scC scZ none 0 0 none 0 0), .agg (rsC D dc s2), .int .i64 3]) (results_cct (p := 2) (q := 3) (u := 4) (ty := 25) (tz := 61) rfl _ _ g2 g3 25 61 _ _ (0, 0) (0, 0) _ _ _ rfl rfl rfl hq9 hv9 Tryz.underlying25 rfl (info_sc.trans rfl) Tryz.underlying61 rfl (info_rdr.trans rfl)) rfl ?_; exact SizP.no HT.out (by decide) rfl ((below_drewN HB5.out 1).trans (gz.st.below (B := w.heap.size) HB5.out.size (fun k hk x => by { have h1 := HLO.out; rcases x with x | x <;> omega })))
      · have HDM := Lib.hid (HBD.out.2 rfl)
        have hdm := HDM.out
        have HF : Hid (fitsI (v1 : Int) (v2 : Int) = true) := Lib.hid (by simp only [fitsI, Bool.and_eq_true, decide_eq_true_eq]; omega)
        have HT : Hid (T = (0, blankS (v1 : Int) (v2 : Int), s2.rest)) := Lib.hid (by rw [← ET2.out, if_neg hdm])
        have hw1 : IntKind.i64.wrap (v1 : Int) = (v1 : Int) := IntWalk.i64_in _ ⟨by omega, by omega⟩
        have hw2 : IntKind.i64.wrap (v2 : Int) = (v2 : Int) := IntWalk.i64_in _ ⟨by omega, by omega⟩
        obtain ⟨N, eN⟩ : ∃ N, N = v1 * v2 := ⟨_, rfl⟩
        have HN := Lib.hid eN
        clear eN hdm
        go_upto_region 10 with (first
          | (go_at_call 12; (refine (refBlank15_c v1 v2 N wc HF.out HN.out).mono ?_); rintro _ w8 ⟨A8, c8, rfl, ho8, hb8⟩; have HO8 := Lib.hid ho8; have HB8 := Lib.hid (HB5.out.trans (hb8.mono HB5.out.size)); have HA8 := Lib.hid (HA5.out.below hb8); have HQ8 := Lib.hid (HQ5.out.below hb8); have HV8 := Lib.hid (HV5.out.below hb8); clear ho8 hb8)
          | (refine wpList_store_rowTo rfl 25 (.tmp 7) (.tmp 55) rfl rfl w8.heap.size (scC (blankS v1 v2) A8 N c8 none 0 0) rfl rfl 25 _ (heap_alloc_new w8 _) (info_sc.trans rfl) rfl (sc_one _ _ _ _ _ _ _) ?_))
        generalize eXX : World.alloc w8 _ = XX
        have hx : Below w8.heap.size w8 XX := by rw [← eXX]; exact (Below.refl _ _).alloc (Nat.le_refl _) _
        obtain ⟨old, hq2⟩ : ∃ old, XX.heap[w8.heap.size]? = some (.cells old 25 (0, 0)) := ⟨_, by rw [← eXX]; exact heap_alloc_new _ _⟩; obtain ⟨g7, eg⟩ : ∃ g, g = w8.heap.size := ⟨_, rfl⟩; obtain ⟨W9, eWW⟩ : ∃ W, W = XX.setRow w8.heap.size (scC (blankS v1 v2) A8 N c8 none 0 0) := ⟨_, rfl⟩; rw [← eWW, ← eg]
        have HG9 : Hid (ScB W9 g7 (blankS v1 v2) A8 N c8 none 0 0) := Lib.hid (by rw [eWW, eg]; exact setRow_heap _ _ _ _ _ _ hq2)
        have hbs : Below w8.heap.size w8 W9 := by rw [eWW]; exact below_setRow hx (Nat.le_refl _) _
        have EGg7 := Lib.hid eg
        clear eXX hx hq2 eg eWW
        have HA9 := Lib.hid (HA8.out.below hbs)
        have HQ9 := Lib.hid (HQ8.out.below hbs)
        have HV9 := Lib.hid (HV8.out.below hbs)
        have HB9 := Lib.hid (HB8.out.trans (hbs.mono HB8.out.size))
        have HO9 : Hid (OwnC W9 w.heap.size (.slice A8 N c8) (blankS (v1 : Int) (v2 : Int)).cells) := Lib.hid (by
          have hbc : (blankS (v1 : Int) (v2 : Int)).cells = List.replicate N blankD := by
            show List.replicate ((v1 : Int) * (v2 : Int)).toNat blankD = _
            rw [HN.out, ← Int.natCast_mul]; rfl
          rw [hbc]
          exact (OwnC.below HO8.out hbs).low HB5.out.size)
        have HAP : Hid (∀ j, (Value.slice A8 N c8).ownBlock = some j → ¬ (j = g2 ∨ j = g3)) := Lib.hid (fun j ej x => by
          have h1 := (OwnC.lt HO8.out j ej).1
          have h2 := heap_lt HQ5.out
          have h3 := heap_lt HV5.out
          rcases x with x | x <;> omega)
        have HAT : Hid (s2.at_ ≤ st.b.length) := Lib.hid (by have h := HO4.out.2.2.2.1; rw [HI2.out.2.2] at h; exact h)
        have H7N : Hid (g7 ≠ g2 ∧ g7 ≠ g3) := Lib.hid (by have h1 := EGg7.out; have h2 := heap_lt HQ8.out; have h3 := heap_lt HV8.out; omega)
        clear hbs
        go_upto_region 10 with (fail)
        refine wp_region_rz (g2) (g3) (scC (blankS v1 v2) A8 N c8 none 0 0) (rsC D dc s2) 59 [Rz.eq (.agg (scC (blankS v1 v2) A8 N c8 none 0 0)), Rz.eq (.agg (rsC D dc s2)), Rz.doneQ 25, Rz.doneV 61, Rz.eq (.int .i64 0)] [57, 58, 4] (by kernel_rfl) rfl (by kernel_rfl) (by kernel_rfl) ?_ ?_
        · repeat (first | exact AllFrom.nil_ | (refine AllFrom.cons_ (by rfl) ?_ ?_; rotate_left))
          · intro f_ w' g_ hF hD; have h7 : f_ 7 = .pointer (some ⟨g7, 0, none⟩) := hF 7 (by kernel_rfl); rw [if_pos (wanted_none rfl)]; clear hF hD; exact gives_load_row 25 (.tmp 7) rfl g7 (by simp only [evF, h7]) 25 (scC (blankS v1 v2) A8 N c8 none 0 0) (0, 0) _ (g_.far HG9.out H7N.out) Tryz.underlying25 rfl (info_sc.trans rfl) ⟨Gz.refl _, rfl⟩
          · intro f_ w' g_ hF hD; have h1 : f_ 1 = .pointer (some ⟨g1, 0, none⟩) := hF 1 (by kernel_rfl); rw [if_pos (wanted_none rfl)]; clear hF hD; exact gives_load_row 61 (.tmp 1) rfl g1 (by simp only [evF, h1]) 61 (rsC D dc s2) (0, 0) _ (g_.far HA9.out ⟨fun x => HN1.out.1 x.symm, fun x => HN1.out.2 x.symm⟩) Tryz.underlying61 rfl (info_rdr.trans rfl) ⟨Gz.refl _, rfl⟩
          · intro f_ w' g_ hF hD; have h2 : f_ 2 = .pointer (some ⟨g2, 0, none⟩) := hF 2 (by kernel_rfl); have h57 : f_ 57 = (.agg (scC (blankS v1 v2) A8 N c8 none 0 0)) := hD 0 57 (by kernel_rfl) rfl; rw [if_pos (wanted_none rfl)]; clear hF hD; obtain ⟨c0, e0, z0, -⟩ := g_.kq _ _ HQ9.out; exact gives_store_rowQ 25 (.tmp 2) (.tmp 57) rfl g2 (scC (blankS v1 v2) A8 N c8 none 0 0) (by simp only [evF, h2, h57]) (by simp only [evF, h2, h57]) 25 c0 e0 (info_sc.trans rfl) (z0.trans rfl) (sc_one _ _ _ _ _ _ _) ⟨Gz.setQ e0 (z0.trans rfl) HNE.out, setRow_heap _ _ _ _ _ _ e0⟩
          · intro f_ w' g_ hF hD; have h3 : f_ 3 = .pointer (some ⟨g3, 0, none⟩) := hF 3 (by kernel_rfl); have h58 : f_ 58 = (.agg (rsC D dc s2)) := hD 1 58 (by kernel_rfl) rfl; rw [if_pos (wanted_none rfl)]; clear hF hD; obtain ⟨c0, e0, z0, -⟩ := g_.kv _ _ HV9.out; exact gives_store_rowQ 61 (.tmp 3) (.tmp 58) rfl g3 (rsC D dc s2) (by simp only [evF, h3, h58]) (by simp only [evF, h3, h58]) 61 c0 e0 (info_rdr.trans rfl) (z0.trans rfl) (rs_one _ _ _) ⟨Gz.setV e0 (z0.trans rfl) HNE.out, setRow_heap _ _ _ _ _ _ e0⟩
          · intro f_ w' g_ hF hD; rw [if_pos (wanted_none rfl)]; clear hF hD; exact gives_val (by simp only [execOp, evF]; first | rfl | go_simp) ⟨Gz.refl _, rfl⟩
        intro f_ w4 gz hD hZ0; have h4 : f_ 4 = .int .i64 0 := hD 4 4 rfl
        have hq9 : w4.heap[g2]? = some (.cells (scC (blankS v1 v2) A8 N c8 none 0 0) 25 (0, 0)) := (hZ0 2 (by decide) rfl).elim (fun _ x => x)
        have hv9 : w4.heap[g3]? = some (.cells (rsC D dc s2) 61 (0, 0)) := (hZ0 3 (by decide) rfl).elim (fun _ x => x)
        simp only [putAll, List.setIfInBounds_toArray, List.set_cons_zero, List.set_cons_succ, h4]; generalize f_ 57 = d57; generalize f_ 58 = d58; clear hD hZ0 h4
        go_wp2_with (fail)
        try simp only [Exit.inBlock, Exit.then]
        refine bodyPost_ret (v := .tuple #[.agg (scC (blankS v1 v2) A8 N c8 none 0 0), .agg (rsC D dc s2), .int .i64 0]) (results_cct (p := 2) (q := 3) (u := 4) (ty := 25) (tz := 61) rfl _ _ g2 g3 25 61 _ _ (0, 0) (0, 0) _ _ _ rfl rfl rfl hq9 hv9 Tryz.underlying25 rfl (info_sc.trans rfl) Tryz.underlying61 rfl (info_rdr.trans rfl)) rfl ?_; exact SizP.yes HT.out HI2.out.2.2 HI2.out.1 HAT.out (gz.st.keepC (HO9.out.drewN 1) (fun j ej x => HAP.out j ej x)) HN.out HF.out ((below_drewN HB9.out 1).trans (gz.st.below (B := w.heap.size) HB9.out.size (fun k hk x => by { have h1 := HLO.out; rcases x with x | x <;> omega })))
end Go.Proofs.YtndjggabdajbfaaGreatDoor


