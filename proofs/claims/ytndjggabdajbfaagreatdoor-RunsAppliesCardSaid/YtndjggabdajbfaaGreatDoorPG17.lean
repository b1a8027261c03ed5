/- Parts one behind the other: What runs.layRuns answers: the runs. Conditions: as told at each. -/
import Derived.Test.YtndjggabdajbfaaGreatDoorPG15
import Derived.Test.YtndjggabdajbfaaGreatDoorPG16
import Derived.Test.YtndjggabdajbfaaGreatDoorPG7
import Derived.Test.YtndjggabdajbfaaGreatDoorPG13
import Derived.Test.YtndjggabdajbfaaGreatDoorPG14
import Derived.Deep.CutBlock

set_option linter.unusedVariables false
set_option linter.unusedSimpArgs false
/- What runs.layRuns answers: the runs. Conditions: cells that can be read, as many in both, of a kind that fits. -/
namespace Go.Proofs.YtndjggabdajbfaaGreatDoor
open Go Go.RowKit Go.Lib

theorem runB_vars (g : Nat) (y : CeD) (l : List CeD) : runB g y l = varsL [g, l.length, y.fg.toNat, y.bg.toNat, y.at_.toNat] ++ runesB l := by
  simp [runB, varsL]
theorem runesB_snoc (l : List CeD) (d : CeD) : runesB (l ++ [d]) = runesB l ++ varL d.r.toNat := by simp [runesB]
theorem runesB_le (l : List CeD) (h : ∀ d ∈ l, d.r ≤ 1114111) : (runesB l).length ≤ l.length * 10 := by
  induction l with
  | nil => exact Nat.le_refl _
  | cons a l ih =>
    have h1 := varL_len10 (n := a.r.toNat) (u64_small (by have := h a List.mem_cons_self; omega))
    have h2 := ih (fun x hx => h x (List.mem_cons_of_mem _ hx))
    simp only [runesB, List.flatMap_cons, List.length_append, List.length_cons] at h2 ⊢
    omega
theorem rd_nums (w : World) (ns : List Nat) (vs : Array Value) (t : TypeId) (h : vs = (ns.map nv).toArray) : Rd (w.alloc (.cells vs t)) (some ⟨w.heap.size, 0, none⟩) (ns.map nv) := by
  subst h
  exact Rd.lit w _ t
theorem pen_load {w : World} {b o : Nat} {d : CeD} (h : CellsAt w b o d) : ∀ j v, [Value.int .u32 d.fg, .int .u32 d.bg, .int .u8 d.at_, .int .u16 d.ln][j]? = some v → w.cell? ((⟨b, o + 2, none⟩ : Addr).add j) = some v := by
  intro j v hv; obtain ⟨h0, h1, h2, h3, h4, h5⟩ := h; rw [addr_add]
  match j with
  | 0 => rw [← hv]; exact h2
  | 1 => rw [← hv]; exact h3
  | 2 => rw [← hv]; exact h4
  | 3 => rw [← hv]; exact h5
  | _ + 4 => cases hv
set_option maxRecDepth 100000 in
set_option maxHeartbeats 16000000 in
theorem layRuns_c (A1 : Option Addr) (c1 : Nat) (a : List CeD) (A : Option Addr) (n c : Nat) (b : List CeD) (w : World) (hn : a.length = n) (hra : RdC w A1 a) (hm : b.length = n) (hrb : RdC w A b) (hl : n ≤ 1920) (hnc : n ≤ c) (hce : ∀ d ∈ b, CeOk d ∧ 0 ≤ d.r ∧ d.r ≤ 1114111) :
    Calls Tryz.prog 51 #[.slice A1 n c1, .slice A n c] w fun e w' => ∃ v, e = .returned (.tuple #[.int .i64 ((runsD a b).1 : Int), v]) ∧ OwnB w' w.heap.size v (runsD a b).2 ∧ Below w.heap.size w w' ∧ (runsD a b).2.length ≤ n * 60 ∧ (runsD a b).1 ≤ n := by
  have HN := Lib.hid hn
  have HM := Lib.hid hm
  have HA := Lib.hid hra
  have HB := Lib.hid hrb
  have HCE := Lib.hid hce
  obtain ⟨R, eR⟩ : ∃ R, runsD a b = R := ⟨_, rfl⟩; rw [eR]
  have ER := Lib.hid eR
  have HNC := Lib.hid hnc
  clear eR hn hm hra hrb hce hnc
  go_enter Tryz.func51, Tryz.ntmps51
  go_wp2_with (fail)
  go_loopw [6, 7, 8, 9] (fun v kk hh i wr => ∃ (V : Value) (k h j : Nat), V = v ∧ h ≤ j ∧ k ≤ h ∧ j ≤ n ∧ kk = .int .i64 k ∧ hh = .int .i64 h ∧ i = .int .i64 j ∧ Hid (∃ bs : List UInt8, OwnB wr w.heap.size V bs ∧ bs.length ≤ j * 60 ∧ R = (k + (restG a b j h).1, bs ++ (restG a b j h).2)) ∧ Hid (Below w.heap.size w wr)) (fun _ _ _ i _ => n - (intOf i).toNat)
  case atStart => exact ⟨_, 0, 0, 0, rfl, Nat.le_refl _, Nat.le_refl _, Nat.zero_le _, rfl, rfl, rfl, Lib.hid ⟨[], Own.nil_ _ _ _, Nat.zero_le _, by rw [restG_zero, ER.out, Nat.zero_add]; rfl⟩, Lib.hid (Below.refl _ _)⟩
  case round =>
    obtain ⟨V, k, h, j, rfl, hhj, hkh, hj, rfl, rfl, rfl, HG, HBW⟩ := hrel
    rcases Nat.lt_or_ge j n with hlt | hge
    · have hlt' : (j : Int) < (n : Int) := by omega
      have ha : j < a.length := by rw [HN.out]; exact hlt
      have hb : j < b.length := by rw [HM.out]; exact hlt
      obtain ⟨g, o, rfl, hg, hc⟩ := HA.out.cellsAt j ha; obtain ⟨g2, o2, rfl, hg2, hc2⟩ := HB.out.cellsAt j hb
      have HC := Lib.hid (hc.below HBW.out hg)
      have HC2 := Lib.hid (hc2.below HBW.out hg2)
      have HGS : Hid (g < wr.heap.size) := Lib.hid (Nat.lt_of_lt_of_le hg HBW.out.size)
      have HGS2 : Hid (g2 < wr.heap.size) := Lib.hid (Nat.lt_of_lt_of_le hg2 HBW.out.size)
      obtain ⟨x, ex⟩ : ∃ x, x = a[j] := ⟨_, rfl⟩; obtain ⟨y, ey⟩ : ∃ y, y = b[j] := ⟨_, rfl⟩; obtain ⟨E, eE⟩ : ∃ E, cellEq x y = E := ⟨_, rfl⟩; rw [← ex] at HC; rw [← ey] at HC2
      have HXY : Hid (cellEq (a[j]'ha) (b[j]'hb) = E ∧ y = b[j]'hb) := Lib.hid ⟨by rw [← ex, ← ey]; exact eE, ey⟩
      have EE := Lib.hid eE
      clear hc hc2 ex ey eE
      cases E
      rotate_left
      · have HG2 : Hid (restG a b j h = restG a b (j + 1) h) := Lib.hid (restG_same hb ha hhj HXY.out.1)
        clear HXY
        go_wp2_with (fail)
        refine wp_region_rw 117 [Rl.eq (.slice (some ⟨g, o, none⟩) n c1), Rl.eq (.int .i64 (j : Int)), Rl.eq (.pointer (some ⟨g, o + j * 6, none⟩)), Rl.eq (.agg #[.int .i32 x.r, .int .u8 x.w, .int .u32 x.fg, .int .u32 x.bg, .int .u8 x.at_, .int .u16 x.ln]), Rl.eq (.slice (some ⟨g2, o2, none⟩) n c), Rl.eq (.int .i64 (j : Int)), Rl.eq (.pointer (some ⟨g2, o2 + j * 6, none⟩)), Rl.eq (.agg #[.int .i32 y.r, .int .u8 y.w, .int .u32 y.fg, .int .u32 y.bg, .int .u8 y.at_, .int .u16 y.ln]), Rl.eq (.bool true)] [20, 21, 22, 23, 24, 25, 26, 27, 28] (by kernel_rfl) rfl (by kernel_rfl) (by kernel_rfl) ?_ ?_
        · repeat (first | exact AllFrom.nil_ | (refine AllFrom.cons_ (by rfl) ?_ ?_; rotate_left))
          · intro f w' gG hF hD; have h0 : f 0 = .slice (some ⟨g, o, none⟩) n c1 := hF 0 (by kernel_rfl); rw [if_pos (wanted_none rfl)]; clear hF hD; exact gives_val (by simp only [execOp, evF, h0]; first | rfl | go_simp) ⟨Gr.refl _, rfl⟩
          · intro f w' gG hF hD; have h9 : f 9 = .int .i64 (j : Int) := hF 9 (by kernel_rfl); rw [if_pos (wanted_none rfl)]; clear hF hD; exact gives_val (by simp only [execOp, evF, h9]; first | rfl | go_simp) ⟨Gr.refl _, rfl⟩
          · intro f w' gG hF hD; have h20 : f 20 = .slice (some ⟨g, o, none⟩) n c1 := hD 0 20 (by kernel_rfl) rfl; have h21 : f 21 = .int .i64 (j : Int) := hD 1 21 (by kernel_rfl) rfl; rw [if_pos (wanted_none rfl)]; clear hF hD; exact gives_val (by simp only [execOp, evF, h20, h21]; first | rfl | go_simp) ⟨Gr.refl _, rfl⟩
          · intro f w' gG hF hD; have h22 : f 22 = .pointer (some ⟨g, o + j * 6, none⟩) := hD 2 22 (by kernel_rfl) rfl; rw [if_pos (wanted_none rfl)]; clear hF hD; obtain ⟨z0, z1, z2, z3, z4, z5⟩ := HC.out.below ((below_drewN (Below.refl wr.heap.size wr) 1).trans gG) HGS.out; exact gives_val (by simp only [execOp, evF, h22]; go_simp) ⟨Gr.refl _, rfl⟩
          · intro f w' gG hF hD; have h1 : f 1 = .slice (some ⟨g2, o2, none⟩) n c := hF 1 (by kernel_rfl); rw [if_pos (wanted_none rfl)]; clear hF hD; exact gives_val (by simp only [execOp, evF, h1]; first | rfl | go_simp) ⟨Gr.refl _, rfl⟩
          · intro f w' gG hF hD; have h9 : f 9 = .int .i64 (j : Int) := hF 9 (by kernel_rfl); rw [if_pos (wanted_none rfl)]; clear hF hD; exact gives_val (by simp only [execOp, evF, h9]; first | rfl | go_simp) ⟨Gr.refl _, rfl⟩
          · intro f w' gG hF hD; have h24 : f 24 = .slice (some ⟨g2, o2, none⟩) n c := hD 4 24 (by kernel_rfl) rfl; have h25 : f 25 = .int .i64 (j : Int) := hD 5 25 (by kernel_rfl) rfl; rw [if_pos (wanted_none rfl)]; clear hF hD; exact gives_val (by simp only [execOp, evF, h24, h25]; first | rfl | go_simp) ⟨Gr.refl _, rfl⟩
          · intro f w' gG hF hD; have h26 : f 26 = .pointer (some ⟨g2, o2 + j * 6, none⟩) := hD 6 26 (by kernel_rfl) rfl; rw [if_pos (wanted_none rfl)]; clear hF hD; obtain ⟨z0, z1, z2, z3, z4, z5⟩ := HC2.out.below ((below_drewN (Below.refl wr.heap.size wr) 1).trans gG) HGS2.out; exact gives_val (by simp only [execOp, evF, h26]; go_simp) ⟨Gr.refl _, rfl⟩
          · intro f w' gG hF hD; have h23 : f 23 = .agg #[.int .i32 x.r, .int .u8 x.w, .int .u32 x.fg, .int .u32 x.bg, .int .u8 x.at_, .int .u16 x.ln] := hD 3 23 (by kernel_rfl) rfl; have h27 : f 27 = .agg #[.int .i32 y.r, .int .u8 y.w, .int .u32 y.fg, .int .u32 y.bg, .int .u8 y.at_, .int .u16 y.ln] := hD 7 27 (by kernel_rfl) rfl; rw [if_pos (wanted_none rfl)]; clear hF hD
            have hpe := run_cellEq x y
            unfold CeD.val at hpe
            exact gives_val (by simp only [execOp, evF, h23, h27, hpe, EE.out]; go_simp; exact EE.out) ⟨Gr.refl _, rfl⟩
        · intro f w' gG hD; have h28 : f 28 = .bool true := hD 8 28 rfl; simp only [putAll, List.setIfInBounds_toArray, List.set_cons_zero, List.set_cons_succ, h28]; clear hD
          have HFIN : Hid (Below w.heap.size w w' ∧ Below w.heap.size wr w') := Lib.hid (by
            have h1 := Below.mono ((below_drewN (Below.refl wr.heap.size wr) 1).trans gG) HBW.out.size
            exact ⟨HBW.out.trans h1, h1⟩)
          have HOW : Hid (∃ bs : List UInt8, OwnB w' w.heap.size V bs ∧ bs.length ≤ (j + 1) * 60 ∧ R = (k + (restG a b (j + 1) h).1, bs ++ (restG a b (j + 1) h).2)) := Lib.hid (by
            obtain ⟨bs, h1, h2, h3⟩ := HG.out; rw [HG2.out] at h3
            exact ⟨bs, Own.below h1 ((below_drewN (Below.refl wr.heap.size wr) 1).trans gG), by omega, h3⟩)
          clear gG
          go_wp2_with (fail)
          go_roundw
          case rel => exact ⟨V, k, h, j + 1, rfl, by omega, hkh, by omega, rfl, rfl, by go_num, HOW, Lib.hid HFIN.out.1⟩
          case measure => simp [intOf]; omega
      · obtain ⟨T, eT⟩ : ∃ T, endG y a b (j + 1) = T := ⟨_, rfl⟩
        have HT : Hid (endG y a b (j + 1) = T ∧ restG a b j h = ((restG a b T T).1 + 1, runB (j - h) y ((b.drop j).take (T - j)) ++ (restG a b T T).2)) := Lib.hid ⟨eT, by
          have h2 := restG_run (t := T) (h := h) hb ha HXY.out.1 (by rw [← HXY.out.2]; exact eT)
          rw [← HXY.out.2] at h2
          exact h2⟩
        have HYB := Lib.hid HXY.out.2
        have HXA : Hid (cellEq x y = false) := EE
        clear HXY eT
        go_wp2_with (fail)
        refine wp_region_rw 117 [Rl.eq (.slice (some ⟨g, o, none⟩) n c1), Rl.eq (.int .i64 (j : Int)), Rl.eq (.pointer (some ⟨g, o + j * 6, none⟩)), Rl.eq (.agg #[.int .i32 x.r, .int .u8 x.w, .int .u32 x.fg, .int .u32 x.bg, .int .u8 x.at_, .int .u16 x.ln]), Rl.eq (.slice (some ⟨g2, o2, none⟩) n c), Rl.eq (.int .i64 (j : Int)), Rl.eq (.pointer (some ⟨g2, o2 + j * 6, none⟩)), Rl.eq (.agg #[.int .i32 y.r, .int .u8 y.w, .int .u32 y.fg, .int .u32 y.bg, .int .u8 y.at_, .int .u16 y.ln]), Rl.eq (.bool false)] [20, 21, 22, 23, 24, 25, 26, 27, 28] (by kernel_rfl) rfl (by kernel_rfl) (by kernel_rfl) ?_ ?_
        · repeat (first | exact AllFrom.nil_ | (refine AllFrom.cons_ (by rfl) ?_ ?_; rotate_left))
          · intro f w' gG hF hD; have h0 : f 0 = .slice (some ⟨g, o, none⟩) n c1 := hF 0 (by kernel_rfl); rw [if_pos (wanted_none rfl)]; clear hF hD; exact gives_val (by simp only [execOp, evF, h0]; first | rfl | go_simp) ⟨Gr.refl _, rfl⟩
          · intro f w' gG hF hD; have h9 : f 9 = .int .i64 (j : Int) := hF 9 (by kernel_rfl); rw [if_pos (wanted_none rfl)]; clear hF hD; exact gives_val (by simp only [execOp, evF, h9]; first | rfl | go_simp) ⟨Gr.refl _, rfl⟩
          · intro f w' gG hF hD; have h20 : f 20 = .slice (some ⟨g, o, none⟩) n c1 := hD 0 20 (by kernel_rfl) rfl; have h21 : f 21 = .int .i64 (j : Int) := hD 1 21 (by kernel_rfl) rfl; rw [if_pos (wanted_none rfl)]; clear hF hD; exact gives_val (by simp only [execOp, evF, h20, h21]; first | rfl | go_simp) ⟨Gr.refl _, rfl⟩
          · intro f w' gG hF hD; have h22 : f 22 = .pointer (some ⟨g, o + j * 6, none⟩) := hD 2 22 (by kernel_rfl) rfl; rw [if_pos (wanted_none rfl)]; clear hF hD; obtain ⟨z0, z1, z2, z3, z4, z5⟩ := HC.out.below ((below_drewN (Below.refl wr.heap.size wr) 1).trans gG) HGS.out; exact gives_val (by simp only [execOp, evF, h22]; go_simp) ⟨Gr.refl _, rfl⟩
          · intro f w' gG hF hD; have h1 : f 1 = .slice (some ⟨g2, o2, none⟩) n c := hF 1 (by kernel_rfl); rw [if_pos (wanted_none rfl)]; clear hF hD; exact gives_val (by simp only [execOp, evF, h1]; first | rfl | go_simp) ⟨Gr.refl _, rfl⟩
          · intro f w' gG hF hD; have h9 : f 9 = .int .i64 (j : Int) := hF 9 (by kernel_rfl); rw [if_pos (wanted_none rfl)]; clear hF hD; exact gives_val (by simp only [execOp, evF, h9]; first | rfl | go_simp) ⟨Gr.refl _, rfl⟩
          · intro f w' gG hF hD; have h24 : f 24 = .slice (some ⟨g2, o2, none⟩) n c := hD 4 24 (by kernel_rfl) rfl; have h25 : f 25 = .int .i64 (j : Int) := hD 5 25 (by kernel_rfl) rfl; rw [if_pos (wanted_none rfl)]; clear hF hD; exact gives_val (by simp only [execOp, evF, h24, h25]; first | rfl | go_simp) ⟨Gr.refl _, rfl⟩
          · intro f w' gG hF hD; have h26 : f 26 = .pointer (some ⟨g2, o2 + j * 6, none⟩) := hD 6 26 (by kernel_rfl) rfl; rw [if_pos (wanted_none rfl)]; clear hF hD; obtain ⟨z0, z1, z2, z3, z4, z5⟩ := HC2.out.below ((below_drewN (Below.refl wr.heap.size wr) 1).trans gG) HGS2.out; exact gives_val (by simp only [execOp, evF, h26]; go_simp) ⟨Gr.refl _, rfl⟩
          · intro f w' gG hF hD; have h23 : f 23 = .agg #[.int .i32 x.r, .int .u8 x.w, .int .u32 x.fg, .int .u32 x.bg, .int .u8 x.at_, .int .u16 x.ln] := hD 3 23 (by kernel_rfl) rfl; have h27 : f 27 = .agg #[.int .i32 y.r, .int .u8 y.w, .int .u32 y.fg, .int .u32 y.bg, .int .u8 y.at_, .int .u16 y.ln] := hD 7 27 (by kernel_rfl) rfl; rw [if_pos (wanted_none rfl)]; clear hF hD
            have hpe := run_cellEq x y
            unfold CeD.val at hpe
            exact gives_val (by simp only [execOp, evF, h23, h27, hpe, EE.out]; go_simp; exact EE.out) ⟨Gr.refl _, rfl⟩
        · intro f w' gG hD; have h28 : f 28 = .bool false := hD 8 28 rfl; simp only [putAll, List.setIfInBounds_toArray, List.set_cons_zero, List.set_cons_succ, h28]; clear hD
          have HFIN : Hid (Below w.heap.size w w' ∧ Below wr.heap.size wr w') := Lib.hid (by
            have h1 := (below_drewN (Below.refl wr.heap.size wr) 1).trans gG
            exact ⟨HBW.out.trans (Below.mono h1 HBW.out.size), h1⟩)
          clear gG; obtain ⟨wo, ewo⟩ : ∃ x, x = wr := ⟨_, rfl⟩
          subst ewo
          go_upto_block 2 with (fail)
          go_cut [10] from 16 to 114 (fun t wx => t = .int .i64 (T : Int) ∧ Hid (j + 1 ≤ T ∧ T ≤ n ∧ Below wo.heap.size wo wx))
          case first =>
            go_wp2_with (fail)
            go_loopw [10] (fun t w2 => ∃ z : Nat, j + 1 ≤ z ∧ z ≤ n ∧ t = .int .i64 z ∧ Hid (endG y a b z = T) ∧ Hid (Below wo.heap.size wo w2)) (fun t _ => n - (intOf t).toNat)
            case atStart => exact ⟨j + 1, Nat.le_refl _, hlt, by go_num, Lib.hid HT.out.1, Lib.hid HFIN.out.2⟩
            case round =>
              obtain ⟨z, hz, hzn, rfl, HZ, HBZ⟩ := hrel
              rcases Nat.lt_or_ge z n with zlt | zge
              · have ha2 : z < a.length := by rw [HN.out]; exact zlt
                have hb2 : z < b.length := by rw [HM.out]; exact zlt
                have zlt' : decide ((z : Int) < (n : Int)) = true := by simp; omega
                obtain ⟨g', o', e1, _, hc⟩ := HA.out.cellsAt z ha2
                injection e1 with e1
                injection e1 with e1 e2
                subst e1 e2
                obtain ⟨g', o', e1, _, hc2⟩ := HB.out.cellsAt z hb2
                injection e1 with e1
                injection e1 with e1 e2
                subst e1 e2
                have HCX := Lib.hid (hc.below (HBW.out.trans (Below.mono HBZ.out HBW.out.size)) (by assumption))
                have HCY := Lib.hid (hc2.below (HBW.out.trans (Below.mono HBZ.out HBW.out.size)) (by assumption))

                have HCJ := Lib.hid (HC2.out.below HBZ.out HGS2.out)
                have HGX : Hid (g < wr.heap.size) := Lib.hid (Nat.lt_of_lt_of_le HGS.out HBZ.out.size)
                have HGY : Hid (g2 < wr.heap.size) := Lib.hid (Nat.lt_of_lt_of_le HGS2.out HBZ.out.size)
                obtain ⟨u, eu⟩ : ∃ u, u = a[z] := ⟨_, rfl⟩; obtain ⟨v, ev⟩ : ∃ v, v = b[z] := ⟨_, rfl⟩; rw [← eu] at HCX; rw [← ev] at HCY
                have HUV : Hid (a[z]'ha2 = u ∧ b[z]'hb2 = v) := Lib.hid ⟨eu.symm, ev.symm⟩
                obtain ⟨E, eE⟩ : ∃ E, cellEq u v = E := ⟨_, rfl⟩; obtain ⟨Q, eQ⟩ : ∃ Q, penEq v y = Q := ⟨_, rfl⟩
                have EU := Lib.hid eE
                have EQ := Lib.hid eQ
                clear hc hc2 eu ev eE eQ
                cases E
                · cases Q
                  · have HTE : Hid (z = T) := Lib.hid (by rw [← HZ.out]; exact (endG_pen (p := y) hb2 ha2 (by rw [HUV.out.2]; exact EQ.out)).symm)
                    go_wp2_with (fail)
                    refine wp_region_rw 117 [Rl.eq (.int .i64 (z : Int)), Rl.eq (.slice (some ⟨g2, o2, none⟩) n c), Rl.eq (.int .i64 (n : Int)), Rl.eq (.bool true), Rl.eq (.bool true), Rl.eq (.slice (some ⟨g, o, none⟩) n c1), Rl.eq (.int .i64 (z : Int)), Rl.eq (.pointer (some ⟨g, o + z * 6, none⟩)), Rl.eq (.agg #[.int .i32 u.r, .int .u8 u.w, .int .u32 u.fg, .int .u32 u.bg, .int .u8 u.at_, .int .u16 u.ln]), Rl.eq (.slice (some ⟨g2, o2, none⟩) n c), Rl.eq (.int .i64 (z : Int)), Rl.eq (.pointer (some ⟨g2, o2 + z * 6, none⟩)), Rl.eq (.agg #[.int .i32 v.r, .int .u8 v.w, .int .u32 v.fg, .int .u32 v.bg, .int .u8 v.at_, .int .u16 v.ln]), Rl.eq (.bool true), Rl.eq (.bool true), Rl.eq (.bool true), Rl.eq (.slice (some ⟨g2, o2, none⟩) n c), Rl.eq (.int .i64 (z : Int)), Rl.eq (.pointer (some ⟨g2, o2 + z * 6, none⟩)), Rl.eq (.pointer (some ⟨g2, o2 + z * 6 + 2, none⟩)), Rl.eq (.agg #[.int .u32 v.fg, .int .u32 v.bg, .int .u8 v.at_, .int .u16 v.ln]), Rl.eq (.slice (some ⟨g2, o2, none⟩) n c), Rl.eq (.int .i64 (j : Int)), Rl.eq (.pointer (some ⟨g2, o2 + j * 6, none⟩)), Rl.eq (.pointer (some ⟨g2, o2 + j * 6 + 2, none⟩)), Rl.eq (.agg #[.int .u32 y.fg, .int .u32 y.bg, .int .u8 y.at_, .int .u16 y.ln]), Rl.eq (.bool false), Rl.eq (.bool false)] [33, 34, 35, 36, 37, 38, 39, 40, 41, 42, 43, 44, 45, 46, 47, 48, 49, 50, 51, 52, 53, 54, 55, 56, 57, 58, 59, 60] (by kernel_rfl) rfl (by kernel_rfl) (by kernel_rfl) ?_ ?_
                    · repeat (first | exact AllFrom.nil_ | (refine AllFrom.cons_ (by rfl) ?_ ?_; rotate_left))
                      · intro f w' gG hF hD; have h10 : f 10 = .int .i64 (z : Int) := hF 10 (by kernel_rfl); rw [if_pos (wanted_none rfl)]; clear hF hD; exact gives_val (by simp only [execOp, evF, h10]; first | rfl | go_simp) ⟨Gr.refl _, rfl⟩
                      · intro f w' gG hF hD; have h1 : f 1 = .slice (some ⟨g2, o2, none⟩) n c := hF 1 (by kernel_rfl); rw [if_pos (wanted_none rfl)]; clear hF hD; exact gives_val (by simp only [execOp, evF, h1]; first | rfl | go_simp) ⟨Gr.refl _, rfl⟩
                      · intro f w' gG hF hD; have h34 : f 34 = .slice (some ⟨g2, o2, none⟩) n c := hD 1 34 (by kernel_rfl) rfl; rw [if_pos (wanted_none rfl)]; clear hF hD; exact gives_val (by unfold execOp; simp only [resolve, invoke, builtin, Sem.run_bind, Sem.run_pure, Result.andThen_ok, List.map_toArray, List.map_cons, List.map_nil, evF, h34]; first | rfl | go_simp) ⟨Gr.refl _, rfl⟩
                      · intro f w' gG hF hD; have h33 : f 33 = .int .i64 (z : Int) := hD 0 33 (by kernel_rfl) rfl; have h35 : f 35 = .int .i64 (n : Int) := hD 2 35 (by kernel_rfl) rfl; rw [if_pos (wanted_none rfl)]; clear hF hD; exact gives_val (by simp only [execOp, evF, h33, h35]; first | rfl | go_simp) ⟨Gr.refl _, rfl⟩
                      · intro f w' gG hF hD; have h36 : f 36 = .bool true := hD 3 36 (by kernel_rfl) rfl; rw [if_pos (wanted_none rfl)]; clear hF hD; exact gives_val (by simp only [execOp, evF, h36]; first | rfl | go_simp) ⟨Gr.refl _, rfl⟩
                      · intro f w' gG hF hD; have h0 : f 0 = .slice (some ⟨g, o, none⟩) n c1 := hF 0 (by kernel_rfl); rw [if_pos (wanted_some (d := 37) rfl rfl (hD 4 37 (by kernel_rfl) rfl))]; clear hF hD; exact gives_val (by simp only [execOp, evF, h0]; first | rfl | go_simp) ⟨Gr.refl _, rfl⟩
                      · intro f w' gG hF hD; have h10 : f 10 = .int .i64 (z : Int) := hF 10 (by kernel_rfl); rw [if_pos (wanted_some (d := 37) rfl rfl (hD 4 37 (by kernel_rfl) rfl))]; clear hF hD; exact gives_val (by simp only [execOp, evF, h10]; first | rfl | go_simp) ⟨Gr.refl _, rfl⟩
                      · intro f w' gG hF hD; have h38 : f 38 = .slice (some ⟨g, o, none⟩) n c1 := hD 5 38 (by kernel_rfl) rfl; have h39 : f 39 = .int .i64 (z : Int) := hD 6 39 (by kernel_rfl) rfl; rw [if_pos (wanted_some (d := 37) rfl rfl (hD 4 37 (by kernel_rfl) rfl))]; clear hF hD; exact gives_val (by simp only [execOp, evF, h38, h39]; first | rfl | go_simp) ⟨Gr.refl _, rfl⟩
                      · intro f w' gG hF hD; have h40 : f 40 = .pointer (some ⟨g, o + z * 6, none⟩) := hD 7 40 (by kernel_rfl) rfl; rw [if_pos (wanted_some (d := 37) rfl rfl (hD 4 37 (by kernel_rfl) rfl))]; clear hF hD; obtain ⟨z0, z1, z2, z3, z4, z5⟩ := HCX.out.below ((below_drewN (Below.refl wr.heap.size wr) 1).trans gG) HGX.out; exact gives_val (by simp only [execOp, evF, h40]; go_simp) ⟨Gr.refl _, rfl⟩
                      · intro f w' gG hF hD; have h1 : f 1 = .slice (some ⟨g2, o2, none⟩) n c := hF 1 (by kernel_rfl); rw [if_pos (wanted_some (d := 37) rfl rfl (hD 4 37 (by kernel_rfl) rfl))]; clear hF hD; exact gives_val (by simp only [execOp, evF, h1]; first | rfl | go_simp) ⟨Gr.refl _, rfl⟩
                      · intro f w' gG hF hD; have h10 : f 10 = .int .i64 (z : Int) := hF 10 (by kernel_rfl); rw [if_pos (wanted_some (d := 37) rfl rfl (hD 4 37 (by kernel_rfl) rfl))]; clear hF hD; exact gives_val (by simp only [execOp, evF, h10]; first | rfl | go_simp) ⟨Gr.refl _, rfl⟩
                      · intro f w' gG hF hD; have h42 : f 42 = .slice (some ⟨g2, o2, none⟩) n c := hD 9 42 (by kernel_rfl) rfl; have h43 : f 43 = .int .i64 (z : Int) := hD 10 43 (by kernel_rfl) rfl; rw [if_pos (wanted_some (d := 37) rfl rfl (hD 4 37 (by kernel_rfl) rfl))]; clear hF hD; exact gives_val (by simp only [execOp, evF, h42, h43]; first | rfl | go_simp) ⟨Gr.refl _, rfl⟩
                      · intro f w' gG hF hD; have h44 : f 44 = .pointer (some ⟨g2, o2 + z * 6, none⟩) := hD 11 44 (by kernel_rfl) rfl; rw [if_pos (wanted_some (d := 37) rfl rfl (hD 4 37 (by kernel_rfl) rfl))]; clear hF hD; obtain ⟨z0, z1, z2, z3, z4, z5⟩ := HCY.out.below ((below_drewN (Below.refl wr.heap.size wr) 1).trans gG) HGY.out; exact gives_val (by simp only [execOp, evF, h44]; go_simp) ⟨Gr.refl _, rfl⟩
                      · intro f w' gG hF hD; have h41 : f 41 = .agg #[.int .i32 u.r, .int .u8 u.w, .int .u32 u.fg, .int .u32 u.bg, .int .u8 u.at_, .int .u16 u.ln] := hD 8 41 (by kernel_rfl) rfl; have h45 : f 45 = .agg #[.int .i32 v.r, .int .u8 v.w, .int .u32 v.fg, .int .u32 v.bg, .int .u8 v.at_, .int .u16 v.ln] := hD 12 45 (by kernel_rfl) rfl; rw [if_pos (wanted_some (d := 37) rfl rfl (hD 4 37 (by kernel_rfl) rfl))]; clear hF hD
                        have hpe := run_cellNe u v
                        unfold CeD.val at hpe
                        exact gives_val (by simp only [execOp, evF, h41, h45, hpe, EU.out]; go_simp; try exact EU.out) ⟨Gr.refl _, rfl⟩
                      · intro f w' gG hF hD; have h37 : f 37 = .bool true := hD 4 37 (by kernel_rfl) rfl; have h46 : f 46 = .bool true := hD 13 46 (by kernel_rfl) rfl; rw [if_pos (wanted_none rfl)]; clear hF hD; exact gives_val (by simp only [execOp, evF, h37, h46]; first | rfl | go_simp) ⟨Gr.refl _, rfl⟩
                      · intro f w' gG hF hD; have h47 : f 47 = .bool true := hD 14 47 (by kernel_rfl) rfl; rw [if_pos (wanted_none rfl)]; clear hF hD; exact gives_val (by simp only [execOp, evF, h47]; first | rfl | go_simp) ⟨Gr.refl _, rfl⟩
                      · intro f w' gG hF hD; have h1 : f 1 = .slice (some ⟨g2, o2, none⟩) n c := hF 1 (by kernel_rfl); rw [if_pos (wanted_some (d := 48) rfl rfl (hD 15 48 (by kernel_rfl) rfl))]; clear hF hD; exact gives_val (by simp only [execOp, evF, h1]; first | rfl | go_simp) ⟨Gr.refl _, rfl⟩
                      · intro f w' gG hF hD; have h10 : f 10 = .int .i64 (z : Int) := hF 10 (by kernel_rfl); rw [if_pos (wanted_some (d := 48) rfl rfl (hD 15 48 (by kernel_rfl) rfl))]; clear hF hD; exact gives_val (by simp only [execOp, evF, h10]; first | rfl | go_simp) ⟨Gr.refl _, rfl⟩
                      · intro f w' gG hF hD; have h49 : f 49 = .slice (some ⟨g2, o2, none⟩) n c := hD 16 49 (by kernel_rfl) rfl; have h50 : f 50 = .int .i64 (z : Int) := hD 17 50 (by kernel_rfl) rfl; rw [if_pos (wanted_some (d := 48) rfl rfl (hD 15 48 (by kernel_rfl) rfl))]; clear hF hD; exact gives_val (by simp only [execOp, evF, h49, h50]; first | rfl | go_simp) ⟨Gr.refl _, rfl⟩
                      · intro f w' gG hF hD; have h51 : f 51 = .pointer (some ⟨g2, o2 + z * 6, none⟩) := hD 18 51 (by kernel_rfl) rfl; rw [if_pos (wanted_some (d := 48) rfl rfl (hD 15 48 (by kernel_rfl) rfl))]; clear hF hD; exact gives_val (by simp only [execOp, evF, h51]; first | rfl | go_simp) ⟨Gr.refl _, rfl⟩
                      · intro f w' gG hF hD; have h52 : f 52 = .pointer (some ⟨g2, o2 + z * 6 + 2, none⟩) := hD 19 52 (by kernel_rfl) rfl; rw [if_pos (wanted_some (d := 48) rfl rfl (hD 15 48 (by kernel_rfl) rfl))]; clear hF hD; obtain ⟨z0, z1, z2, z3, z4, z5⟩ := HCY.out.below ((below_drewN (Below.refl wr.heap.size wr) 1).trans gG) HGY.out; exact gives_val (by simp only [execOp, evF, h52]; go_simp) ⟨Gr.refl _, rfl⟩
                      · intro f w' gG hF hD; have h1 : f 1 = .slice (some ⟨g2, o2, none⟩) n c := hF 1 (by kernel_rfl); rw [if_pos (wanted_some (d := 48) rfl rfl (hD 15 48 (by kernel_rfl) rfl))]; clear hF hD; exact gives_val (by simp only [execOp, evF, h1]; first | rfl | go_simp) ⟨Gr.refl _, rfl⟩
                      · intro f w' gG hF hD; have h9 : f 9 = .int .i64 (j : Int) := hF 9 (by kernel_rfl); rw [if_pos (wanted_some (d := 48) rfl rfl (hD 15 48 (by kernel_rfl) rfl))]; clear hF hD; exact gives_val (by simp only [execOp, evF, h9]; first | rfl | go_simp) ⟨Gr.refl _, rfl⟩
                      · intro f w' gG hF hD; have h54 : f 54 = .slice (some ⟨g2, o2, none⟩) n c := hD 21 54 (by kernel_rfl) rfl; have h55 : f 55 = .int .i64 (j : Int) := hD 22 55 (by kernel_rfl) rfl; rw [if_pos (wanted_some (d := 48) rfl rfl (hD 15 48 (by kernel_rfl) rfl))]; clear hF hD; exact gives_val (by simp only [execOp, evF, h54, h55]; first | rfl | go_simp) ⟨Gr.refl _, rfl⟩
                      · intro f w' gG hF hD; have h56 : f 56 = .pointer (some ⟨g2, o2 + j * 6, none⟩) := hD 23 56 (by kernel_rfl) rfl; rw [if_pos (wanted_some (d := 48) rfl rfl (hD 15 48 (by kernel_rfl) rfl))]; clear hF hD; exact gives_val (by simp only [execOp, evF, h56]; first | rfl | go_simp) ⟨Gr.refl _, rfl⟩
                      · intro f w' gG hF hD; have h57 : f 57 = .pointer (some ⟨g2, o2 + j * 6 + 2, none⟩) := hD 24 57 (by kernel_rfl) rfl; rw [if_pos (wanted_some (d := 48) rfl rfl (hD 15 48 (by kernel_rfl) rfl))]; clear hF hD; obtain ⟨z0, z1, z2, z3, z4, z5⟩ := HCJ.out.below ((below_drewN (Below.refl wr.heap.size wr) 1).trans gG) HGY.out; exact gives_val (by simp only [execOp, evF, h57]; go_simp) ⟨Gr.refl _, rfl⟩
                      · intro f w' gG hF hD; have h53 : f 53 = .agg #[.int .u32 v.fg, .int .u32 v.bg, .int .u8 v.at_, .int .u16 v.ln] := hD 20 53 (by kernel_rfl) rfl; have h58 : f 58 = .agg #[.int .u32 y.fg, .int .u32 y.bg, .int .u8 y.at_, .int .u16 y.ln] := hD 25 58 (by kernel_rfl) rfl; rw [if_pos (wanted_some (d := 48) rfl rfl (hD 15 48 (by kernel_rfl) rfl))]; clear hF hD
                        have hpe := run_penEq v y
                        unfold CeD.pen at hpe
                        exact gives_val (by simp only [execOp, evF, h53, h58, hpe, EQ.out]; go_simp; try exact EQ.out) ⟨Gr.refl _, rfl⟩
                      · intro f w' gG hF hD; have h48 : f 48 = .bool true := hD 15 48 (by kernel_rfl) rfl; have h59 : f 59 = .bool false := hD 26 59 (by kernel_rfl) rfl; rw [if_pos (wanted_none rfl)]; clear hF hD; exact gives_val (by simp only [execOp, evF, h48, h59]; first | rfl | go_simp) ⟨Gr.refl _, rfl⟩
                    · intro f w' gG hD; have h60 : f 60 = .bool false := hD 27 60 rfl; simp only [putAll, List.setIfInBounds_toArray, List.set_cons_zero, List.set_cons_succ, h60]; clear hD
                      have HFIN2 : Hid (Below wo.heap.size wo w') := Lib.hid (HBZ.out.trans (Below.mono ((below_drewN (Below.refl wr.heap.size wr) 1).trans gG) HBZ.out.size))
                      clear gG
                      go_wp2_with (fail)
                      go_meet
                      exact ⟨by rw [← HTE.out], Lib.hid ⟨by rw [← HTE.out]; exact hz, by rw [← HTE.out]; exact hzn, HFIN2.out⟩⟩
                  · have HZ2 : Hid (endG y a b (z + 1) = T) := Lib.hid (by rw [← HZ.out]; exact (endG_go (p := y) hb2 ha2 (by rw [HUV.out.1, HUV.out.2]; exact EU.out) (by rw [HUV.out.2]; exact EQ.out)).symm)
                    go_wp2_with (fail)
                    refine wp_region_rw 117 [Rl.eq (.int .i64 (z : Int)), Rl.eq (.slice (some ⟨g2, o2, none⟩) n c), Rl.eq (.int .i64 (n : Int)), Rl.eq (.bool true), Rl.eq (.bool true), Rl.eq (.slice (some ⟨g, o, none⟩) n c1), Rl.eq (.int .i64 (z : Int)), Rl.eq (.pointer (some ⟨g, o + z * 6, none⟩)), Rl.eq (.agg #[.int .i32 u.r, .int .u8 u.w, .int .u32 u.fg, .int .u32 u.bg, .int .u8 u.at_, .int .u16 u.ln]), Rl.eq (.slice (some ⟨g2, o2, none⟩) n c), Rl.eq (.int .i64 (z : Int)), Rl.eq (.pointer (some ⟨g2, o2 + z * 6, none⟩)), Rl.eq (.agg #[.int .i32 v.r, .int .u8 v.w, .int .u32 v.fg, .int .u32 v.bg, .int .u8 v.at_, .int .u16 v.ln]), Rl.eq (.bool true), Rl.eq (.bool true), Rl.eq (.bool true), Rl.eq (.slice (some ⟨g2, o2, none⟩) n c), Rl.eq (.int .i64 (z : Int)), Rl.eq (.pointer (some ⟨g2, o2 + z * 6, none⟩)), Rl.eq (.pointer (some ⟨g2, o2 + z * 6 + 2, none⟩)), Rl.eq (.agg #[.int .u32 v.fg, .int .u32 v.bg, .int .u8 v.at_, .int .u16 v.ln]), Rl.eq (.slice (some ⟨g2, o2, none⟩) n c), Rl.eq (.int .i64 (j : Int)), Rl.eq (.pointer (some ⟨g2, o2 + j * 6, none⟩)), Rl.eq (.pointer (some ⟨g2, o2 + j * 6 + 2, none⟩)), Rl.eq (.agg #[.int .u32 y.fg, .int .u32 y.bg, .int .u8 y.at_, .int .u16 y.ln]), Rl.eq (.bool true), Rl.eq (.bool true)] [33, 34, 35, 36, 37, 38, 39, 40, 41, 42, 43, 44, 45, 46, 47, 48, 49, 50, 51, 52, 53, 54, 55, 56, 57, 58, 59, 60] (by kernel_rfl) rfl (by kernel_rfl) (by kernel_rfl) ?_ ?_
                    · repeat (first | exact AllFrom.nil_ | (refine AllFrom.cons_ (by rfl) ?_ ?_; rotate_left))
                      · intro f w' gG hF hD; have h10 : f 10 = .int .i64 (z : Int) := hF 10 (by kernel_rfl); rw [if_pos (wanted_none rfl)]; clear hF hD; exact gives_val (by simp only [execOp, evF, h10]; first | rfl | go_simp) ⟨Gr.refl _, rfl⟩
                      · intro f w' gG hF hD; have h1 : f 1 = .slice (some ⟨g2, o2, none⟩) n c := hF 1 (by kernel_rfl); rw [if_pos (wanted_none rfl)]; clear hF hD; exact gives_val (by simp only [execOp, evF, h1]; first | rfl | go_simp) ⟨Gr.refl _, rfl⟩
                      · intro f w' gG hF hD; have h34 : f 34 = .slice (some ⟨g2, o2, none⟩) n c := hD 1 34 (by kernel_rfl) rfl; rw [if_pos (wanted_none rfl)]; clear hF hD; exact gives_val (by unfold execOp; simp only [resolve, invoke, builtin, Sem.run_bind, Sem.run_pure, Result.andThen_ok, List.map_toArray, List.map_cons, List.map_nil, evF, h34]; first | rfl | go_simp) ⟨Gr.refl _, rfl⟩
                      · intro f w' gG hF hD; have h33 : f 33 = .int .i64 (z : Int) := hD 0 33 (by kernel_rfl) rfl; have h35 : f 35 = .int .i64 (n : Int) := hD 2 35 (by kernel_rfl) rfl; rw [if_pos (wanted_none rfl)]; clear hF hD; exact gives_val (by simp only [execOp, evF, h33, h35]; first | rfl | go_simp) ⟨Gr.refl _, rfl⟩
                      · intro f w' gG hF hD; have h36 : f 36 = .bool true := hD 3 36 (by kernel_rfl) rfl; rw [if_pos (wanted_none rfl)]; clear hF hD; exact gives_val (by simp only [execOp, evF, h36]; first | rfl | go_simp) ⟨Gr.refl _, rfl⟩
                      · intro f w' gG hF hD; have h0 : f 0 = .slice (some ⟨g, o, none⟩) n c1 := hF 0 (by kernel_rfl); rw [if_pos (wanted_some (d := 37) rfl rfl (hD 4 37 (by kernel_rfl) rfl))]; clear hF hD; exact gives_val (by simp only [execOp, evF, h0]; first | rfl | go_simp) ⟨Gr.refl _, rfl⟩
                      · intro f w' gG hF hD; have h10 : f 10 = .int .i64 (z : Int) := hF 10 (by kernel_rfl); rw [if_pos (wanted_some (d := 37) rfl rfl (hD 4 37 (by kernel_rfl) rfl))]; clear hF hD; exact gives_val (by simp only [execOp, evF, h10]; first | rfl | go_simp) ⟨Gr.refl _, rfl⟩
                      · intro f w' gG hF hD; have h38 : f 38 = .slice (some ⟨g, o, none⟩) n c1 := hD 5 38 (by kernel_rfl) rfl; have h39 : f 39 = .int .i64 (z : Int) := hD 6 39 (by kernel_rfl) rfl; rw [if_pos (wanted_some (d := 37) rfl rfl (hD 4 37 (by kernel_rfl) rfl))]; clear hF hD; exact gives_val (by simp only [execOp, evF, h38, h39]; first | rfl | go_simp) ⟨Gr.refl _, rfl⟩
                      · intro f w' gG hF hD; have h40 : f 40 = .pointer (some ⟨g, o + z * 6, none⟩) := hD 7 40 (by kernel_rfl) rfl; rw [if_pos (wanted_some (d := 37) rfl rfl (hD 4 37 (by kernel_rfl) rfl))]; clear hF hD; obtain ⟨z0, z1, z2, z3, z4, z5⟩ := HCX.out.below ((below_drewN (Below.refl wr.heap.size wr) 1).trans gG) HGX.out; exact gives_val (by simp only [execOp, evF, h40]; go_simp) ⟨Gr.refl _, rfl⟩
                      · intro f w' gG hF hD; have h1 : f 1 = .slice (some ⟨g2, o2, none⟩) n c := hF 1 (by kernel_rfl); rw [if_pos (wanted_some (d := 37) rfl rfl (hD 4 37 (by kernel_rfl) rfl))]; clear hF hD; exact gives_val (by simp only [execOp, evF, h1]; first | rfl | go_simp) ⟨Gr.refl _, rfl⟩
                      · intro f w' gG hF hD; have h10 : f 10 = .int .i64 (z : Int) := hF 10 (by kernel_rfl); rw [if_pos (wanted_some (d := 37) rfl rfl (hD 4 37 (by kernel_rfl) rfl))]; clear hF hD; exact gives_val (by simp only [execOp, evF, h10]; first | rfl | go_simp) ⟨Gr.refl _, rfl⟩
                      · intro f w' gG hF hD; have h42 : f 42 = .slice (some ⟨g2, o2, none⟩) n c := hD 9 42 (by kernel_rfl) rfl; have h43 : f 43 = .int .i64 (z : Int) := hD 10 43 (by kernel_rfl) rfl; rw [if_pos (wanted_some (d := 37) rfl rfl (hD 4 37 (by kernel_rfl) rfl))]; clear hF hD; exact gives_val (by simp only [execOp, evF, h42, h43]; first | rfl | go_simp) ⟨Gr.refl _, rfl⟩
                      · intro f w' gG hF hD; have h44 : f 44 = .pointer (some ⟨g2, o2 + z * 6, none⟩) := hD 11 44 (by kernel_rfl) rfl; rw [if_pos (wanted_some (d := 37) rfl rfl (hD 4 37 (by kernel_rfl) rfl))]; clear hF hD; obtain ⟨z0, z1, z2, z3, z4, z5⟩ := HCY.out.below ((below_drewN (Below.refl wr.heap.size wr) 1).trans gG) HGY.out; exact gives_val (by simp only [execOp, evF, h44]; go_simp) ⟨Gr.refl _, rfl⟩
                      · intro f w' gG hF hD; have h41 : f 41 = .agg #[.int .i32 u.r, .int .u8 u.w, .int .u32 u.fg, .int .u32 u.bg, .int .u8 u.at_, .int .u16 u.ln] := hD 8 41 (by kernel_rfl) rfl; have h45 : f 45 = .agg #[.int .i32 v.r, .int .u8 v.w, .int .u32 v.fg, .int .u32 v.bg, .int .u8 v.at_, .int .u16 v.ln] := hD 12 45 (by kernel_rfl) rfl; rw [if_pos (wanted_some (d := 37) rfl rfl (hD 4 37 (by kernel_rfl) rfl))]; clear hF hD
                        have hpe := run_cellNe u v
                        unfold CeD.val at hpe
                        exact gives_val (by simp only [execOp, evF, h41, h45, hpe, EU.out]; go_simp; try exact EU.out) ⟨Gr.refl _, rfl⟩
                      · intro f w' gG hF hD; have h37 : f 37 = .bool true := hD 4 37 (by kernel_rfl) rfl; have h46 : f 46 = .bool true := hD 13 46 (by kernel_rfl) rfl; rw [if_pos (wanted_none rfl)]; clear hF hD; exact gives_val (by simp only [execOp, evF, h37, h46]; first | rfl | go_simp) ⟨Gr.refl _, rfl⟩
                      · intro f w' gG hF hD; have h47 : f 47 = .bool true := hD 14 47 (by kernel_rfl) rfl; rw [if_pos (wanted_none rfl)]; clear hF hD; exact gives_val (by simp only [execOp, evF, h47]; first | rfl | go_simp) ⟨Gr.refl _, rfl⟩
                      · intro f w' gG hF hD; have h1 : f 1 = .slice (some ⟨g2, o2, none⟩) n c := hF 1 (by kernel_rfl); rw [if_pos (wanted_some (d := 48) rfl rfl (hD 15 48 (by kernel_rfl) rfl))]; clear hF hD; exact gives_val (by simp only [execOp, evF, h1]; first | rfl | go_simp) ⟨Gr.refl _, rfl⟩
                      · intro f w' gG hF hD; have h10 : f 10 = .int .i64 (z : Int) := hF 10 (by kernel_rfl); rw [if_pos (wanted_some (d := 48) rfl rfl (hD 15 48 (by kernel_rfl) rfl))]; clear hF hD; exact gives_val (by simp only [execOp, evF, h10]; first | rfl | go_simp) ⟨Gr.refl _, rfl⟩
                      · intro f w' gG hF hD; have h49 : f 49 = .slice (some ⟨g2, o2, none⟩) n c := hD 16 49 (by kernel_rfl) rfl; have h50 : f 50 = .int .i64 (z : Int) := hD 17 50 (by kernel_rfl) rfl; rw [if_pos (wanted_some (d := 48) rfl rfl (hD 15 48 (by kernel_rfl) rfl))]; clear hF hD; exact gives_val (by simp only [execOp, evF, h49, h50]; first | rfl | go_simp) ⟨Gr.refl _, rfl⟩
                      · intro f w' gG hF hD; have h51 : f 51 = .pointer (some ⟨g2, o2 + z * 6, none⟩) := hD 18 51 (by kernel_rfl) rfl; rw [if_pos (wanted_some (d := 48) rfl rfl (hD 15 48 (by kernel_rfl) rfl))]; clear hF hD; exact gives_val (by simp only [execOp, evF, h51]; first | rfl | go_simp) ⟨Gr.refl _, rfl⟩
                      · intro f w' gG hF hD; have h52 : f 52 = .pointer (some ⟨g2, o2 + z * 6 + 2, none⟩) := hD 19 52 (by kernel_rfl) rfl; rw [if_pos (wanted_some (d := 48) rfl rfl (hD 15 48 (by kernel_rfl) rfl))]; clear hF hD; obtain ⟨z0, z1, z2, z3, z4, z5⟩ := HCY.out.below ((below_drewN (Below.refl wr.heap.size wr) 1).trans gG) HGY.out; exact gives_val (by simp only [execOp, evF, h52]; go_simp) ⟨Gr.refl _, rfl⟩
                      · intro f w' gG hF hD; have h1 : f 1 = .slice (some ⟨g2, o2, none⟩) n c := hF 1 (by kernel_rfl); rw [if_pos (wanted_some (d := 48) rfl rfl (hD 15 48 (by kernel_rfl) rfl))]; clear hF hD; exact gives_val (by simp only [execOp, evF, h1]; first | rfl | go_simp) ⟨Gr.refl _, rfl⟩
                      · intro f w' gG hF hD; have h9 : f 9 = .int .i64 (j : Int) := hF 9 (by kernel_rfl); rw [if_pos (wanted_some (d := 48) rfl rfl (hD 15 48 (by kernel_rfl) rfl))]; clear hF hD; exact gives_val (by simp only [execOp, evF, h9]; first | rfl | go_simp) ⟨Gr.refl _, rfl⟩
                      · intro f w' gG hF hD; have h54 : f 54 = .slice (some ⟨g2, o2, none⟩) n c := hD 21 54 (by kernel_rfl) rfl; have h55 : f 55 = .int .i64 (j : Int) := hD 22 55 (by kernel_rfl) rfl; rw [if_pos (wanted_some (d := 48) rfl rfl (hD 15 48 (by kernel_rfl) rfl))]; clear hF hD; exact gives_val (by simp only [execOp, evF, h54, h55]; first | rfl | go_simp) ⟨Gr.refl _, rfl⟩
                      · intro f w' gG hF hD; have h56 : f 56 = .pointer (some ⟨g2, o2 + j * 6, none⟩) := hD 23 56 (by kernel_rfl) rfl; rw [if_pos (wanted_some (d := 48) rfl rfl (hD 15 48 (by kernel_rfl) rfl))]; clear hF hD; exact gives_val (by simp only [execOp, evF, h56]; first | rfl | go_simp) ⟨Gr.refl _, rfl⟩
                      · intro f w' gG hF hD; have h57 : f 57 = .pointer (some ⟨g2, o2 + j * 6 + 2, none⟩) := hD 24 57 (by kernel_rfl) rfl; rw [if_pos (wanted_some (d := 48) rfl rfl (hD 15 48 (by kernel_rfl) rfl))]; clear hF hD; obtain ⟨z0, z1, z2, z3, z4, z5⟩ := HCJ.out.below ((below_drewN (Below.refl wr.heap.size wr) 1).trans gG) HGY.out; exact gives_val (by simp only [execOp, evF, h57]; go_simp) ⟨Gr.refl _, rfl⟩
                      · intro f w' gG hF hD; have h53 : f 53 = .agg #[.int .u32 v.fg, .int .u32 v.bg, .int .u8 v.at_, .int .u16 v.ln] := hD 20 53 (by kernel_rfl) rfl; have h58 : f 58 = .agg #[.int .u32 y.fg, .int .u32 y.bg, .int .u8 y.at_, .int .u16 y.ln] := hD 25 58 (by kernel_rfl) rfl; rw [if_pos (wanted_some (d := 48) rfl rfl (hD 15 48 (by kernel_rfl) rfl))]; clear hF hD
                        have hpe := run_penEq v y
                        unfold CeD.pen at hpe
                        exact gives_val (by simp only [execOp, evF, h53, h58, hpe, EQ.out]; go_simp; try exact EQ.out) ⟨Gr.refl _, rfl⟩
                      · intro f w' gG hF hD; have h48 : f 48 = .bool true := hD 15 48 (by kernel_rfl) rfl; have h59 : f 59 = .bool true := hD 26 59 (by kernel_rfl) rfl; rw [if_pos (wanted_none rfl)]; clear hF hD; exact gives_val (by simp only [execOp, evF, h48, h59]; first | rfl | go_simp) ⟨Gr.refl _, rfl⟩
                    · intro f w' gG hD; have h60 : f 60 = .bool true := hD 27 60 rfl; simp only [putAll, List.setIfInBounds_toArray, List.set_cons_zero, List.set_cons_succ, h60]; clear hD
                      have HFIN2 : Hid (Below wo.heap.size wo w') := Lib.hid (HBZ.out.trans (Below.mono ((below_drewN (Below.refl wr.heap.size wr) 1).trans gG) HBZ.out.size))
                      clear gG
                      go_wp2_with (fail)
                      go_roundw
                      case rel => exact ⟨z + 1, by omega, by omega, by go_num, HZ2, HFIN2⟩
                      case measure => simp [intOf]; omega
                · have HTE : Hid (z = T) := Lib.hid (by rw [← HZ.out]; exact (endG_same (p := y) hb2 ha2 (by rw [HUV.out.1, HUV.out.2]; exact EU.out)).symm)
                  go_wp2_with (fail)
                  refine wp_region_rw 117 [Rl.eq (.int .i64 (z : Int)), Rl.eq (.slice (some ⟨g2, o2, none⟩) n c), Rl.eq (.int .i64 (n : Int)), Rl.eq (.bool true), Rl.eq (.bool true), Rl.eq (.slice (some ⟨g, o, none⟩) n c1), Rl.eq (.int .i64 (z : Int)), Rl.eq (.pointer (some ⟨g, o + z * 6, none⟩)), Rl.eq (.agg #[.int .i32 u.r, .int .u8 u.w, .int .u32 u.fg, .int .u32 u.bg, .int .u8 u.at_, .int .u16 u.ln]), Rl.eq (.slice (some ⟨g2, o2, none⟩) n c), Rl.eq (.int .i64 (z : Int)), Rl.eq (.pointer (some ⟨g2, o2 + z * 6, none⟩)), Rl.eq (.agg #[.int .i32 v.r, .int .u8 v.w, .int .u32 v.fg, .int .u32 v.bg, .int .u8 v.at_, .int .u16 v.ln]), Rl.eq (.bool false), Rl.eq (.bool false), Rl.eq (.bool false), Rl.eq (undef), Rl.eq (undef), Rl.eq (undef), Rl.eq (undef), Rl.eq (undef), Rl.eq (undef), Rl.eq (undef), Rl.eq (undef), Rl.eq (undef), Rl.eq (undef), Rl.eq (undef), Rl.eq (.bool false)] [33, 34, 35, 36, 37, 38, 39, 40, 41, 42, 43, 44, 45, 46, 47, 48, 49, 50, 51, 52, 53, 54, 55, 56, 57, 58, 59, 60] (by kernel_rfl) rfl (by kernel_rfl) (by kernel_rfl) ?_ ?_
                  · repeat (first | exact AllFrom.nil_ | (refine AllFrom.cons_ (by rfl) ?_ ?_; rotate_left))
                    · intro f w' gG hF hD; have h10 : f 10 = .int .i64 (z : Int) := hF 10 (by kernel_rfl); rw [if_pos (wanted_none rfl)]; clear hF hD; exact gives_val (by simp only [execOp, evF, h10]; first | rfl | go_simp) ⟨Gr.refl _, rfl⟩
                    · intro f w' gG hF hD; have h1 : f 1 = .slice (some ⟨g2, o2, none⟩) n c := hF 1 (by kernel_rfl); rw [if_pos (wanted_none rfl)]; clear hF hD; exact gives_val (by simp only [execOp, evF, h1]; first | rfl | go_simp) ⟨Gr.refl _, rfl⟩
                    · intro f w' gG hF hD; have h34 : f 34 = .slice (some ⟨g2, o2, none⟩) n c := hD 1 34 (by kernel_rfl) rfl; rw [if_pos (wanted_none rfl)]; clear hF hD; exact gives_val (by unfold execOp; simp only [resolve, invoke, builtin, Sem.run_bind, Sem.run_pure, Result.andThen_ok, List.map_toArray, List.map_cons, List.map_nil, evF, h34]; first | rfl | go_simp) ⟨Gr.refl _, rfl⟩
                    · intro f w' gG hF hD; have h33 : f 33 = .int .i64 (z : Int) := hD 0 33 (by kernel_rfl) rfl; have h35 : f 35 = .int .i64 (n : Int) := hD 2 35 (by kernel_rfl) rfl; rw [if_pos (wanted_none rfl)]; clear hF hD; exact gives_val (by simp only [execOp, evF, h33, h35]; first | rfl | go_simp) ⟨Gr.refl _, rfl⟩
                    · intro f w' gG hF hD; have h36 : f 36 = .bool true := hD 3 36 (by kernel_rfl) rfl; rw [if_pos (wanted_none rfl)]; clear hF hD; exact gives_val (by simp only [execOp, evF, h36]; first | rfl | go_simp) ⟨Gr.refl _, rfl⟩
                    · intro f w' gG hF hD; have h0 : f 0 = .slice (some ⟨g, o, none⟩) n c1 := hF 0 (by kernel_rfl); rw [if_pos (wanted_some (d := 37) rfl rfl (hD 4 37 (by kernel_rfl) rfl))]; clear hF hD; exact gives_val (by simp only [execOp, evF, h0]; first | rfl | go_simp) ⟨Gr.refl _, rfl⟩
                    · intro f w' gG hF hD; have h10 : f 10 = .int .i64 (z : Int) := hF 10 (by kernel_rfl); rw [if_pos (wanted_some (d := 37) rfl rfl (hD 4 37 (by kernel_rfl) rfl))]; clear hF hD; exact gives_val (by simp only [execOp, evF, h10]; first | rfl | go_simp) ⟨Gr.refl _, rfl⟩
                    · intro f w' gG hF hD; have h38 : f 38 = .slice (some ⟨g, o, none⟩) n c1 := hD 5 38 (by kernel_rfl) rfl; have h39 : f 39 = .int .i64 (z : Int) := hD 6 39 (by kernel_rfl) rfl; rw [if_pos (wanted_some (d := 37) rfl rfl (hD 4 37 (by kernel_rfl) rfl))]; clear hF hD; exact gives_val (by simp only [execOp, evF, h38, h39]; first | rfl | go_simp) ⟨Gr.refl _, rfl⟩
                    · intro f w' gG hF hD; have h40 : f 40 = .pointer (some ⟨g, o + z * 6, none⟩) := hD 7 40 (by kernel_rfl) rfl; rw [if_pos (wanted_some (d := 37) rfl rfl (hD 4 37 (by kernel_rfl) rfl))]; clear hF hD; obtain ⟨z0, z1, z2, z3, z4, z5⟩ := HCX.out.below ((below_drewN (Below.refl wr.heap.size wr) 1).trans gG) HGX.out; exact gives_val (by simp only [execOp, evF, h40]; go_simp) ⟨Gr.refl _, rfl⟩
                    · intro f w' gG hF hD; have h1 : f 1 = .slice (some ⟨g2, o2, none⟩) n c := hF 1 (by kernel_rfl); rw [if_pos (wanted_some (d := 37) rfl rfl (hD 4 37 (by kernel_rfl) rfl))]; clear hF hD; exact gives_val (by simp only [execOp, evF, h1]; first | rfl | go_simp) ⟨Gr.refl _, rfl⟩
                    · intro f w' gG hF hD; have h10 : f 10 = .int .i64 (z : Int) := hF 10 (by kernel_rfl); rw [if_pos (wanted_some (d := 37) rfl rfl (hD 4 37 (by kernel_rfl) rfl))]; clear hF hD; exact gives_val (by simp only [execOp, evF, h10]; first | rfl | go_simp) ⟨Gr.refl _, rfl⟩
                    · intro f w' gG hF hD; have h42 : f 42 = .slice (some ⟨g2, o2, none⟩) n c := hD 9 42 (by kernel_rfl) rfl; have h43 : f 43 = .int .i64 (z : Int) := hD 10 43 (by kernel_rfl) rfl; rw [if_pos (wanted_some (d := 37) rfl rfl (hD 4 37 (by kernel_rfl) rfl))]; clear hF hD; exact gives_val (by simp only [execOp, evF, h42, h43]; first | rfl | go_simp) ⟨Gr.refl _, rfl⟩
                    · intro f w' gG hF hD; have h44 : f 44 = .pointer (some ⟨g2, o2 + z * 6, none⟩) := hD 11 44 (by kernel_rfl) rfl; rw [if_pos (wanted_some (d := 37) rfl rfl (hD 4 37 (by kernel_rfl) rfl))]; clear hF hD; obtain ⟨z0, z1, z2, z3, z4, z5⟩ := HCY.out.below ((below_drewN (Below.refl wr.heap.size wr) 1).trans gG) HGY.out; exact gives_val (by simp only [execOp, evF, h44]; go_simp) ⟨Gr.refl _, rfl⟩
                    · intro f w' gG hF hD; have h41 : f 41 = .agg #[.int .i32 u.r, .int .u8 u.w, .int .u32 u.fg, .int .u32 u.bg, .int .u8 u.at_, .int .u16 u.ln] := hD 8 41 (by kernel_rfl) rfl; have h45 : f 45 = .agg #[.int .i32 v.r, .int .u8 v.w, .int .u32 v.fg, .int .u32 v.bg, .int .u8 v.at_, .int .u16 v.ln] := hD 12 45 (by kernel_rfl) rfl; rw [if_pos (wanted_some (d := 37) rfl rfl (hD 4 37 (by kernel_rfl) rfl))]; clear hF hD
                      have hpe := run_cellNe u v
                      unfold CeD.val at hpe
                      exact gives_val (by simp only [execOp, evF, h41, h45, hpe, EU.out]; go_simp; try exact EU.out) ⟨Gr.refl _, rfl⟩
                    · intro f w' gG hF hD; have h37 : f 37 = .bool true := hD 4 37 (by kernel_rfl) rfl; have h46 : f 46 = .bool false := hD 13 46 (by kernel_rfl) rfl; rw [if_pos (wanted_none rfl)]; clear hF hD; exact gives_val (by simp only [execOp, evF, h37, h46]; first | rfl | go_simp) ⟨Gr.refl _, rfl⟩
                    · intro f w' gG hF hD; have h47 : f 47 = .bool false := hD 14 47 (by kernel_rfl) rfl; rw [if_pos (wanted_none rfl)]; clear hF hD; exact gives_val (by simp only [execOp, evF, h47]; first | rfl | go_simp) ⟨Gr.refl _, rfl⟩
                    · intro f w' gG hF hD; rw [if_neg (unwanted_some (d := 48) (b := true) rfl rfl (show f 48 = .bool false from hD 15 48 (by kernel_rfl) rfl))]; exact rfl
                    · intro f w' gG hF hD; rw [if_neg (unwanted_some (d := 48) (b := true) rfl rfl (show f 48 = .bool false from hD 15 48 (by kernel_rfl) rfl))]; exact rfl
                    · intro f w' gG hF hD; rw [if_neg (unwanted_some (d := 48) (b := true) rfl rfl (show f 48 = .bool false from hD 15 48 (by kernel_rfl) rfl))]; exact rfl
                    · intro f w' gG hF hD; rw [if_neg (unwanted_some (d := 48) (b := true) rfl rfl (show f 48 = .bool false from hD 15 48 (by kernel_rfl) rfl))]; exact rfl
                    · intro f w' gG hF hD; rw [if_neg (unwanted_some (d := 48) (b := true) rfl rfl (show f 48 = .bool false from hD 15 48 (by kernel_rfl) rfl))]; exact rfl
                    · intro f w' gG hF hD; rw [if_neg (unwanted_some (d := 48) (b := true) rfl rfl (show f 48 = .bool false from hD 15 48 (by kernel_rfl) rfl))]; exact rfl
                    · intro f w' gG hF hD; rw [if_neg (unwanted_some (d := 48) (b := true) rfl rfl (show f 48 = .bool false from hD 15 48 (by kernel_rfl) rfl))]; exact rfl
                    · intro f w' gG hF hD; rw [if_neg (unwanted_some (d := 48) (b := true) rfl rfl (show f 48 = .bool false from hD 15 48 (by kernel_rfl) rfl))]; exact rfl
                    · intro f w' gG hF hD; rw [if_neg (unwanted_some (d := 48) (b := true) rfl rfl (show f 48 = .bool false from hD 15 48 (by kernel_rfl) rfl))]; exact rfl
                    · intro f w' gG hF hD; rw [if_neg (unwanted_some (d := 48) (b := true) rfl rfl (show f 48 = .bool false from hD 15 48 (by kernel_rfl) rfl))]; exact rfl
                    · intro f w' gG hF hD; rw [if_neg (unwanted_some (d := 48) (b := true) rfl rfl (show f 48 = .bool false from hD 15 48 (by kernel_rfl) rfl))]; exact rfl
                    · intro f w' gG hF hD; have h48 : f 48 = .bool false := hD 15 48 (by kernel_rfl) rfl; have h59 : f 59 = undef := hD 26 59 (by kernel_rfl) rfl; rw [if_pos (wanted_none rfl)]; clear hF hD; exact gives_val (by simp only [execOp, evF, h48, h59]; first | rfl | go_simp) ⟨Gr.refl _, rfl⟩
                  · intro f w' gG hD; have h60 : f 60 = .bool false := hD 27 60 rfl; simp only [putAll, List.setIfInBounds_toArray, List.set_cons_zero, List.set_cons_succ, h60]; clear hD
                    have HFIN2 : Hid (Below wo.heap.size wo w') := Lib.hid (HBZ.out.trans (Below.mono ((below_drewN (Below.refl wr.heap.size wr) 1).trans gG) HBZ.out.size))
                    clear gG
                    go_wp2_with (fail)
                    go_meet
                    exact ⟨by rw [← HTE.out], Lib.hid ⟨by rw [← HTE.out]; exact hz, by rw [← HTE.out]; exact hzn, HFIN2.out⟩⟩
              · obtain rfl : n = z := by omega
                have hge' : decide ((n : Int) < (n : Int)) = false := by simp
                have HTE : Hid (n = T) := Lib.hid (by rw [← HZ.out]; exact (endG_end _ _ _ _ (by rw [HM.out]; exact Nat.le_refl _)).symm)
                go_wp2_with (fail)
                refine wp_region_rw 117 [Rl.eq (.int .i64 (n : Int)), Rl.eq (.slice (some ⟨g2, o2, none⟩) n c), Rl.eq (.int .i64 (n : Int)), Rl.eq (.bool false), Rl.eq (.bool false), Rl.eq (undef), Rl.eq (undef), Rl.eq (undef), Rl.eq (undef), Rl.eq (undef), Rl.eq (undef), Rl.eq (undef), Rl.eq (undef), Rl.eq (undef), Rl.eq (.bool false), Rl.eq (.bool false), Rl.eq (undef), Rl.eq (undef), Rl.eq (undef), Rl.eq (undef), Rl.eq (undef), Rl.eq (undef), Rl.eq (undef), Rl.eq (undef), Rl.eq (undef), Rl.eq (undef), Rl.eq (undef), Rl.eq (.bool false)] [33, 34, 35, 36, 37, 38, 39, 40, 41, 42, 43, 44, 45, 46, 47, 48, 49, 50, 51, 52, 53, 54, 55, 56, 57, 58, 59, 60] (by kernel_rfl) rfl (by kernel_rfl) (by kernel_rfl) ?_ ?_
                · repeat (first | exact AllFrom.nil_ | (refine AllFrom.cons_ (by rfl) ?_ ?_; rotate_left))
                  · intro f w' gG hF hD; have h10 : f 10 = .int .i64 (n : Int) := hF 10 (by kernel_rfl); rw [if_pos (wanted_none rfl)]; clear hF hD; exact gives_val (by simp only [execOp, evF, h10]; first | rfl | go_simp) ⟨Gr.refl _, rfl⟩
                  · intro f w' gG hF hD; have h1 : f 1 = .slice (some ⟨g2, o2, none⟩) n c := hF 1 (by kernel_rfl); rw [if_pos (wanted_none rfl)]; clear hF hD; exact gives_val (by simp only [execOp, evF, h1]; first | rfl | go_simp) ⟨Gr.refl _, rfl⟩
                  · intro f w' gG hF hD; have h34 : f 34 = .slice (some ⟨g2, o2, none⟩) n c := hD 1 34 (by kernel_rfl) rfl; rw [if_pos (wanted_none rfl)]; clear hF hD; exact gives_val (by unfold execOp; simp only [resolve, invoke, builtin, Sem.run_bind, Sem.run_pure, Result.andThen_ok, List.map_toArray, List.map_cons, List.map_nil, evF, h34]; first | rfl | go_simp) ⟨Gr.refl _, rfl⟩
                  · intro f w' gG hF hD; have h33 : f 33 = .int .i64 (n : Int) := hD 0 33 (by kernel_rfl) rfl; have h35 : f 35 = .int .i64 (n : Int) := hD 2 35 (by kernel_rfl) rfl; rw [if_pos (wanted_none rfl)]; clear hF hD; exact gives_val (by simp only [execOp, evF, h33, h35]; first | rfl | go_simp) ⟨Gr.refl _, rfl⟩
                  · intro f w' gG hF hD; have h36 : f 36 = .bool false := hD 3 36 (by kernel_rfl) rfl; rw [if_pos (wanted_none rfl)]; clear hF hD; exact gives_val (by simp only [execOp, evF, h36]; first | rfl | go_simp) ⟨Gr.refl _, rfl⟩
                  · intro f w' gG hF hD; rw [if_neg (unwanted_some (d := 37) (b := true) rfl rfl (show f 37 = .bool false from hD 4 37 (by kernel_rfl) rfl))]; exact rfl
                  · intro f w' gG hF hD; rw [if_neg (unwanted_some (d := 37) (b := true) rfl rfl (show f 37 = .bool false from hD 4 37 (by kernel_rfl) rfl))]; exact rfl
                  · intro f w' gG hF hD; rw [if_neg (unwanted_some (d := 37) (b := true) rfl rfl (show f 37 = .bool false from hD 4 37 (by kernel_rfl) rfl))]; exact rfl
                  · intro f w' gG hF hD; rw [if_neg (unwanted_some (d := 37) (b := true) rfl rfl (show f 37 = .bool false from hD 4 37 (by kernel_rfl) rfl))]; exact rfl
                  · intro f w' gG hF hD; rw [if_neg (unwanted_some (d := 37) (b := true) rfl rfl (show f 37 = .bool false from hD 4 37 (by kernel_rfl) rfl))]; exact rfl
                  · intro f w' gG hF hD; rw [if_neg (unwanted_some (d := 37) (b := true) rfl rfl (show f 37 = .bool false from hD 4 37 (by kernel_rfl) rfl))]; exact rfl
                  · intro f w' gG hF hD; rw [if_neg (unwanted_some (d := 37) (b := true) rfl rfl (show f 37 = .bool false from hD 4 37 (by kernel_rfl) rfl))]; exact rfl
                  · intro f w' gG hF hD; rw [if_neg (unwanted_some (d := 37) (b := true) rfl rfl (show f 37 = .bool false from hD 4 37 (by kernel_rfl) rfl))]; exact rfl
                  · intro f w' gG hF hD; rw [if_neg (unwanted_some (d := 37) (b := true) rfl rfl (show f 37 = .bool false from hD 4 37 (by kernel_rfl) rfl))]; exact rfl
                  · intro f w' gG hF hD; have h37 : f 37 = .bool false := hD 4 37 (by kernel_rfl) rfl; have h46 : f 46 = undef := hD 13 46 (by kernel_rfl) rfl; rw [if_pos (wanted_none rfl)]; clear hF hD; exact gives_val (by simp only [execOp, evF, h37, h46]; first | rfl | go_simp) ⟨Gr.refl _, rfl⟩
                  · intro f w' gG hF hD; have h47 : f 47 = .bool false := hD 14 47 (by kernel_rfl) rfl; rw [if_pos (wanted_none rfl)]; clear hF hD; exact gives_val (by simp only [execOp, evF, h47]; first | rfl | go_simp) ⟨Gr.refl _, rfl⟩
                  · intro f w' gG hF hD; rw [if_neg (unwanted_some (d := 48) (b := true) rfl rfl (show f 48 = .bool false from hD 15 48 (by kernel_rfl) rfl))]; exact rfl
                  · intro f w' gG hF hD; rw [if_neg (unwanted_some (d := 48) (b := true) rfl rfl (show f 48 = .bool false from hD 15 48 (by kernel_rfl) rfl))]; exact rfl
                  · intro f w' gG hF hD; rw [if_neg (unwanted_some (d := 48) (b := true) rfl rfl (show f 48 = .bool false from hD 15 48 (by kernel_rfl) rfl))]; exact rfl
                  · intro f w' gG hF hD; rw [if_neg (unwanted_some (d := 48) (b := true) rfl rfl (show f 48 = .bool false from hD 15 48 (by kernel_rfl) rfl))]; exact rfl
                  · intro f w' gG hF hD; rw [if_neg (unwanted_some (d := 48) (b := true) rfl rfl (show f 48 = .bool false from hD 15 48 (by kernel_rfl) rfl))]; exact rfl
                  · intro f w' gG hF hD; rw [if_neg (unwanted_some (d := 48) (b := true) rfl rfl (show f 48 = .bool false from hD 15 48 (by kernel_rfl) rfl))]; exact rfl
                  · intro f w' gG hF hD; rw [if_neg (unwanted_some (d := 48) (b := true) rfl rfl (show f 48 = .bool false from hD 15 48 (by kernel_rfl) rfl))]; exact rfl
                  · intro f w' gG hF hD; rw [if_neg (unwanted_some (d := 48) (b := true) rfl rfl (show f 48 = .bool false from hD 15 48 (by kernel_rfl) rfl))]; exact rfl
                  · intro f w' gG hF hD; rw [if_neg (unwanted_some (d := 48) (b := true) rfl rfl (show f 48 = .bool false from hD 15 48 (by kernel_rfl) rfl))]; exact rfl
                  · intro f w' gG hF hD; rw [if_neg (unwanted_some (d := 48) (b := true) rfl rfl (show f 48 = .bool false from hD 15 48 (by kernel_rfl) rfl))]; exact rfl
                  · intro f w' gG hF hD; rw [if_neg (unwanted_some (d := 48) (b := true) rfl rfl (show f 48 = .bool false from hD 15 48 (by kernel_rfl) rfl))]; exact rfl
                  · intro f w' gG hF hD; have h48 : f 48 = .bool false := hD 15 48 (by kernel_rfl) rfl; have h59 : f 59 = undef := hD 26 59 (by kernel_rfl) rfl; rw [if_pos (wanted_none rfl)]; clear hF hD; exact gives_val (by simp only [execOp, evF, h48, h59]; first | rfl | go_simp) ⟨Gr.refl _, rfl⟩
                · intro f w' gG hD; have h60 : f 60 = .bool false := hD 27 60 rfl; simp only [putAll, List.setIfInBounds_toArray, List.set_cons_zero, List.set_cons_succ, h60]; clear hD
                  have HFIN2 : Hid (Below wo.heap.size wo w') := Lib.hid (HBZ.out.trans (Below.mono ((below_drewN (Below.refl wr.heap.size wr) 1).trans gG) HBZ.out.size))
                  clear gG
                  go_wp2_with (fail)
                  go_meet
                  exact ⟨by rw [← HTE.out], Lib.hid ⟨by rw [← HTE.out]; omega, by rw [← HTE.out]; exact Nat.le_refl _, HFIN2.out⟩⟩
          case rest =>
          obtain ⟨rfl, HCU⟩ := hcut
          have htj1 : j + 1 ≤ T := HCU.out.1
          have htj2 : T ≤ n := HCU.out.2.1
          have HWC : Hid (Below wo.heap.size wo wc) := Lib.hid HCU.out.2.2
          have HBC : Hid (Below w.heap.size w wc) := Lib.hid (HBW.out.trans (Below.mono HWC.out HBW.out.size))
          have HYM : Hid (CeOk y ∧ 0 ≤ y.r ∧ y.r ≤ 1114111) := Lib.hid (HCE.out y (by rw [HYB.out]; exact List.getElem_mem hb))
          obtain ⟨f, ef⟩ : ∃ f : Nat, y.fg = (f : Int) := ⟨y.fg.toNat, by have := HYM.out.1.2.2.1.1; omega⟩; obtain ⟨q, eq⟩ : ∃ q : Nat, y.bg = (q : Int) := ⟨y.bg.toNat, by have := HYM.out.1.2.2.2.1.1; omega⟩; obtain ⟨t, et⟩ : ∃ t : Nat, y.at_ = (t : Int) := ⟨y.at_.toNat, by have := HYM.out.1.2.2.2.2.1.1; omega⟩
          have HFB : Hid (f ≤ 4294967295 ∧ q ≤ 4294967295 ∧ t ≤ 255) := Lib.hid (by have h := HYM.out.1; unfold CeOk at h; omega)
          have hwf : IntKind.i64.wrap (f : Int) = (f : Int) := IntWalk.i64_in _ ⟨by omega, by have := HFB.out.1; omega⟩
          have hwq : IntKind.i64.wrap (q : Int) = (q : Int) := IntWalk.i64_in _ ⟨by omega, by have := HFB.out.2.1; omega⟩
          have hwt : IntKind.i64.wrap (t : Int) = (t : Int) := IntWalk.i64_in _ ⟨by omega, by have := HFB.out.2.2; omega⟩
          obtain ⟨k1, ek1⟩ : ∃ k1 : Nat, (j : Int) - (h : Int) = (k1 : Int) := ⟨j - h, by omega⟩; obtain ⟨k2, ek2⟩ : ∃ k2 : Nat, (T : Int) - (j : Int) = (k2 : Int) := ⟨T - j, by omega⟩
          have HK12 : Hid (k1 = j - h ∧ k2 = T - j ∧ k1 ≤ 1920 ∧ k2 ≤ 1920) := Lib.hid (by omega)
          obtain ⟨ns, ens⟩ : ∃ ns : List Nat, ns = [k1, k2, f, q, t] := ⟨_, rfl⟩
          have HNS : Hid (ns.length = 5 ∧ (∀ x ∈ ns, x < 2 ^ 63) ∧ (varsL ns).length ≤ 50) := Lib.hid (by
            have h1 := HFB.out; have h2 := HK12.out
            have h3 : ∀ x ∈ ns, x < 2 ^ 63 := by
              intro x hx; rw [ens] at hx; simp only [List.mem_cons, List.not_mem_nil, or_false] at hx
              rcases hx with rfl | rfl | rfl | rfl | rfl <;> omega
            refine ⟨by rw [ens]; rfl, h3, ?_⟩
            have h4 := varsL_le ns (fun x hx => by have := h3 x hx; unfold U64; omega)
            rw [ens] at h4 ⊢; simp only [List.length_cons, List.length_nil] at h4
            omega)
          have HRUN : Hid (runB (j - h) y ((b.drop j).take (T - j)) = varsL ns ++ runesB ((b.drop j).take (T - j))) := Lib.hid (by
            rw [runB_vars, ens, ef, eq, et, HK12.out.1, HK12.out.2.1, List.length_take, List.length_drop, HM.out, Nat.min_eq_left (by omega)]
            rfl)
          have HPN := Lib.hid (HC2.out.below HWC.out HGS2.out)
          obtain ⟨PA, ePA⟩ : ∃ PA : Array Value, PA = #[.int .u32 (f : Int), .int .u32 (q : Int), .int .u8 (t : Int), .int .u16 y.ln] := ⟨_, rfl⟩
          have HPA : Hid (PA = #[.int .u32 y.fg, .int .u32 y.bg, .int .u8 y.at_, .int .u16 y.ln]) := Lib.hid (by rw [ePA, ef, eq, et])
          have HP1 : Hid (PA.all (·.oneCell') = true) := Lib.hid (by rw [ePA]; simp [Value.oneCell'])
          have HPS : Hid (PA.size = 4) := Lib.hid (by rw [ePA]; rfl)
          have EPA := Lib.hid ePA
          have ENS := Lib.hid ens
          have EK1 := Lib.hid ek1
          have EK2 := Lib.hid ek2
          obtain ⟨p, ep⟩ : ∃ p, p = wc.heap.size := ⟨_, rfl⟩; clear ePA ens ef eq et
          go_upto_region 11 with (first
            | (refine wpList_load_cells rfl 41 (.tmp 66) rfl ⟨g2, o2 + j * 6 + 2, none⟩ rfl [.int .u32 y.fg, .int .u32 y.bg, .int .u8 y.at_, .int .u16 y.ln] (.agg PA) (by rw [HPA.out]) _ (pen_load HPN.out) Tryz.underlying41 rfl (info_penB.trans rfl) ?_)
            | (refine wpList_store_rowTo rfl 41 (.tmp 11) (.tmp 67) rfl rfl wc.heap.size PA rfl rfl 41 _ (heap_alloc_new wc _) (info_penB.trans (by rw [HPS.out])) (by rw [HPS.out]; rfl) HP1.out ?_))
          generalize eX : World.alloc wc _ = X3
          have hx : Below wc.heap.size wc X3 := by rw [← eX]; exact (Below.refl _ _).alloc (Nat.le_refl _) _
          obtain ⟨old, hq2⟩ : ∃ old, X3.heap[wc.heap.size]? = some (.cells old 41 (0, 0)) := ⟨_, by rw [← eX]; exact heap_alloc_new _ _⟩; obtain ⟨W1, eW1⟩ : ∃ W, W = X3.setRow wc.heap.size PA := ⟨_, rfl⟩; rw [← eW1, ← ep]
          have HPW : Hid (W1.heap[p]? = some (.cells PA 41 (0, 0))) := Lib.hid (by rw [eW1, ep]; exact setRow_heap _ _ _ _ _ _ hq2)
          have hb1 : Below wc.heap.size wc W1 := by rw [eW1]; exact below_setRow hx (Nat.le_refl _) _
          have HB1 : Hid (Below w.heap.size w W1) := Lib.hid (HBC.out.trans (hb1.mono HBC.out.size))
          have HK1 : Hid (Below wo.heap.size wo W1) := Lib.hid (HWC.out.trans (hb1.mono HWC.out.size))
          have c0 : W1.cell? ⟨p, 0, none⟩ = some (.int .u32 (f : Int)) := by rw [heap_cell HPW.out, EPA.out]; rfl
          have c1' : W1.cell? ⟨p, 1, none⟩ = some (.int .u32 (q : Int)) := by rw [heap_cell HPW.out, EPA.out]; rfl
          have c2' : W1.cell? ⟨p, 2, none⟩ = some (.int .u8 (t : Int)) := by rw [heap_cell HPW.out, EPA.out]; rfl
          clear eX hx hq2 eW1 hb1 ep
          go_upto_region 12 with (fail)
          generalize eW2 : World.alloc W1 _ = W2
          obtain ⟨lb, elb⟩ : ∃ lb, lb = W1.heap.size := ⟨_, rfl⟩; rw [← elb]
          have HRL : Hid (Rd W2 (some ⟨lb, 0, none⟩) (ns.map nv)) := Lib.hid (by
            rw [← eW2, elb]
            exact rd_nums W1 ns _ _ (by rw [ENS.out]; rfl))
          have hb2 : Below W1.heap.size W1 W2 := by rw [← eW2]; exact (Below.refl _ _).alloc (Nat.le_refl _) _
          have HB2 : Hid (Below w.heap.size w W2) := Lib.hid (HB1.out.trans (hb2.mono HB1.out.size))
          obtain ⟨bs, hbs, hbl, hbr⟩ := HG.out
          have HO2 : Hid (OwnB W2 w.heap.size V bs) := Lib.hid (Own.below (Own.below hbs HK1.out) hb2)
          have HNE : Hid (V.ownBlock ≠ some lb) := Lib.hid (fun e => by have h1 := (Own.lt (Own.below hbs HK1.out) lb e).2; omega)
          have HRW : Hid (bs.length ≤ j * 60 ∧ R = (k + ((restG a b T T).1 + 1), bs ++ ((varsL ns ++ runesB ((b.drop j).take (T - j))) ++ (restG a b T T).2))) := Lib.hid ⟨hbl, by rw [hbr, HT.out.2, HRUN.out]⟩
          clear eW2 elb hb2 hbs hbl hbr c0 c1' c2' hwf hwq hwt
          go_wp2_with (fail)
          go_loopw [6, 85] (fun v i wr => ∃ (U : Value) (z : Nat), U = v ∧ z ≤ 5 ∧ i = .int .i64 z ∧ Hid (OwnB wr w.heap.size U (bs ++ varsL (ns.take z))) ∧ Hid (U.ownBlock ≠ some lb) ∧ Hid (Rd wr (some ⟨lb, 0, none⟩) (ns.map nv)) ∧ Hid (Below w.heap.size w wr)) (fun _ i _ => 5 - (intOf i).toNat)
          case atStart => exact ⟨V, 0, rfl, Nat.zero_le _, by go_num, Lib.hid (by rw [List.take_zero]; show OwnB W2 w.heap.size V (bs ++ []); rw [List.append_nil]; exact HO2.out), HNE, HRL, HB2⟩
          case round =>
            clear HO2 HNE HRL HB2; obtain ⟨U, z, rfl, hz, rfl, HO, HU, HL, HK⟩ := hrel
            rcases Nat.lt_or_ge z 5 with zlt | zge
            · have zlt' : (z : Int) < 5 := by omega
              have hkl : z < ns.length := by rw [HNS.out.1]; exact zlt
              obtain ⟨lb', off, e1, hbl, hcs⟩ := HL.out.addr (by rw [List.length_map]; omega)
              injection e1 with e1
              injection e1 with e1 e2
              subst e1 e2
              obtain ⟨x, ex⟩ : ∃ x, x = ns[z] := ⟨_, rfl⟩
              have hx63 : x < 2 ^ 63 := by rw [ex]; exact HNS.out.2.1 _ (List.getElem_mem hkl)
              have hc : wr.cell? ⟨lb, 0 + z, none⟩ = some (.int .i64 (x : Int)) := by
                have h := hcs z (by rw [List.length_map]; exact hkl)
                rw [List.getElem_map, ← ex] at h; exact h
              rw [Nat.zero_add] at hc
              have hwx : IntKind.u64.wrap (x : Int) = (x : Int) := IntWalk.u64_in _ ⟨by omega, by omega⟩
              have hxu : U64 x := by unfold U64; omega
              have HXT : Hid ((bs ++ varsL (ns.take z)) ++ varL x = bs ++ varsL (ns.take (z + 1))) := Lib.hid (by
                rw [List.take_succ_eq_append_getElem hkl, varsL, varsL, List.flatMap_append, ← ex, List.append_assoc]; simp)
              have HLN : Hid ((bs ++ varsL (ns.take z)).length + 10 ≤ 200000) := Lib.hid (by
                have h := varsL_le (ns.take z) (fun y hy => by have := HNS.out.2.1 y (List.mem_of_mem_take hy); unfold U64; omega)
                have h2 := HRW.out.1
                simp only [List.length_append, List.length_take] at h ⊢
                omega)
              have HSZ : Hid (w.heap.size ≤ wr.heap.size) := Lib.hid HK.out.size
              have HXU := Lib.hid hxu
              clear hcs ex hx63 hkl hxu hbl
              go_wp2_with (first
                | (go_at_call 70; (refine (Var_c x wr HXU.out).mono ?_); rintro _ w2 ⟨v2, rfl, ho2, hb2⟩; obtain ⟨A2, d2, rfl, _, _, r2, _⟩ := OwnB.form ho2; have R2 := Lib.hid r2; have HB2 := Lib.hid hb2; have s2 : w.heap.size ≤ w2.heap.size := Nat.le_trans HSZ.out hb2.size; have HO2 := Lib.hid (HO.out.below hb2); have HK2 := Lib.hid (HK.out.trans (hb2.mono HSZ.out)); have HL2 := Lib.hid (HL.out.below hb2); clear ho2 hb2 r2)
                | (at_builtin; refine wpList_appB _ rfl (.tmp 89) (.tmp 92) rfl w.heap.size U _ rfl HO2.out A2 (varL x).length d2 (varL x) rfl rfl R2.out (by have := HLN.out; have := varL_len10 HXU.out; omega) s2 ?_; intro v4 w4 h4 hg4 hv4; have HO4 := Lib.hid h4; have HK4 := Lib.hid (HK2.out.grown hg4 s2 (fun q e => (Own.lt HO2.out q e).1)); have HL4 : Hid (Rd w4 (some ⟨lb, 0, none⟩) (ns.map nv)) := Lib.hid (HL2.out.of_blocks (fun b hb ⟨off, e⟩ => hg4.block b hb (fun e2 => HU.out (by { injection e with e; injection e with e _; rw [← e2, e] }))) hg4.size); have HU4 : Hid (v4.ownBlock ≠ some lb) := Lib.hid (fun e => by { rcases hv4 with h | h; exact HU.out (h ▸ e); (rw [h] at e; injection e with e; have := HL2.out.addr (by { rw [List.length_map, HNS.out.1]; decide }); obtain ⟨b', o', e3, hb', _⟩ := this; injection e3 with e3; injection e3 with e3 _; omega) }); clear h4 hg4 hv4))
              go_roundw
              case rel => exact ⟨v4, z + 1, rfl, by omega, by go_num, Lib.hid (by rw [← HXT.out]; exact HO4.out), HU4, HL4, HK4⟩
              case measure => simp [intOf]; omega
            · obtain rfl : 5 = z := by omega
              have HOE : Hid (OwnB wr w.heap.size U (bs ++ varsL ns)) := Lib.hid (by have h := HO.out; rw [List.take_of_length_le (by rw [HNS.out.1]; exact Nat.le_refl _)] at h; exact h)
              clear HO HU HL
              go_upto_region 17 with (first
                | (refine wpList_cutC2 _ w rfl (.tmp 95) (.tmp 96) (.tmp 97) rfl (some ⟨g2, o2, none⟩) n c rfl b HM.out HB.out HNC.out _ _ rfl rfl j T rfl rfl (by omega) htj2 ?_; intro B2 hB2; have HB2 := Lib.hid hB2; clear hB2))
              obtain ⟨sl, esl⟩ : ∃ sl, sl = (b.drop j).take (T - j) := ⟨_, rfl⟩; obtain ⟨N, eN⟩ : ∃ N, N = T - j := ⟨_, rfl⟩
              have HSL : Hid (sl.length = N ∧ N ≤ 1920 ∧ j + N = T ∧ ∀ d ∈ sl, 0 ≤ d.r ∧ d.r ≤ 1114111) := Lib.hid ⟨by rw [esl, eN, List.length_take, List.length_drop, HM.out]; omega, by omega, by omega, fun d hd => by rw [esl] at hd; exact (HCE.out d (List.mem_of_mem_drop (List.mem_of_mem_take hd))).2⟩
              rw [← esl] at HB2
              have ESL := Lib.hid esl
              rw [← eN]
              have hN : N ≤ 1920 := HSL.out.2.1
              clear esl eN
              go_wp2_with (fail)
              go_loopw [6, 100] (fun v i wr => ∃ (U : Value) (z : Nat), U = v ∧ z ≤ N ∧ i = .int .i64 z ∧ Hid (OwnB wr w.heap.size U (bs ++ varsL ns ++ runesB (sl.take z))) ∧ Hid (Below w.heap.size w wr)) (fun _ i _ => N - (intOf i).toNat)
              case atStart => exact ⟨U, 0, rfl, Nat.zero_le _, by go_num, Lib.hid (by rw [List.take_zero]; show OwnB _ w.heap.size U (bs ++ varsL ns ++ []); rw [List.append_nil]; exact HOE.out), HK⟩
              case round =>
                clear HOE HK; obtain ⟨U, z, rfl, hz, rfl, HO, HK⟩ := hrel
                rcases Nat.lt_or_ge z N with zlt | zge
                · have zlt' : (z : Int) < (N : Int) := by omega
                  have hzl : z < sl.length := by rw [HSL.out.1]; exact zlt
                  obtain ⟨bb, off, hA, hbl, hcd⟩ := RdC.cellsAt (RdC.below HB2.out HK.out) z hzl
                  subst hA
                  obtain ⟨d, ed⟩ : ∃ d, d = sl[z] := ⟨_, rfl⟩; rw [← ed] at hcd
                  have HCD := Lib.hid hcd
                  have hdr := HSL.out.2.2.2 d (by rw [ed]; exact List.getElem_mem hzl)
                  obtain ⟨r, er⟩ : ∃ r : Nat, d.r = (r : Int) := ⟨d.r.toNat, by omega⟩
                  have HXT : Hid ((bs ++ varsL ns ++ runesB (sl.take z)) ++ varL r = bs ++ varsL ns ++ runesB (sl.take (z + 1))) := Lib.hid (by
                    rw [List.take_succ_eq_append_getElem hzl, runesB_snoc, ← ed, er, Int.toNat_natCast, List.append_assoc])
                  have HLN : Hid ((bs ++ varsL ns ++ runesB (sl.take z)).length + 10 ≤ 200000) := Lib.hid (by
                    have h := runesB_le (sl.take z) (fun y hy => (HSL.out.2.2.2 y (List.mem_of_mem_take hy)).2)
                    have h2 := HRW.out.1
                    have h3 := HNS.out.2.2
                    have h4 := HSL.out.2.1
                    have h5 : j ≤ 1920 := by omega
                    simp only [List.length_append, List.length_take] at h ⊢
                    omega)
                  have HSZ : Hid (w.heap.size ≤ wr.heap.size) := Lib.hid HK.out.size
                  have HXU : Hid (U64 r) := Lib.hid (u64_small (by omega))
                  have hwr : IntKind.u64.wrap (r : Int) = (r : Int) := IntWalk.u64_in _ ⟨by omega, by omega⟩
                  have HRB : Hid (r ≤ 1114111) := Lib.hid (by omega)
                  have ER := Lib.hid er
                  clear ed hcd hdr er hzl hbl
                  go_upto_region 19 with (first
                    | (refine wpList_load_cells rfl 43 (.tmp 102) rfl ⟨bb, off + z * 6, none⟩ rfl d.cells d.val rfl _ (cells_load HCD.out) Tryz.underlying43 rfl (info_cell.trans rfl) ?_)
                    | (refine wpList_store_rowTo rfl 43 (.tmp 15) (.tmp 103) rfl rfl wr.heap.size d.arr rfl rfl 43 _ (heap_alloc_new wr _) (info_cell.trans rfl) rfl (CeD.one d) ?_))
                  generalize eX : World.alloc wr _ = X3
                  have hx : Below wr.heap.size wr X3 := by rw [← eX]; exact (Below.refl _ _).alloc (Nat.le_refl _) _
                  obtain ⟨old, hq2⟩ : ∃ old, X3.heap[wr.heap.size]? = some (.cells old 43 (0, 0)) := ⟨_, by rw [← eX]; exact heap_alloc_new _ _⟩; obtain ⟨e, ee⟩ : ∃ e, e = wr.heap.size := ⟨_, rfl⟩; obtain ⟨W6, eW6⟩ : ∃ W, W = X3.setRow wr.heap.size d.arr := ⟨_, rfl⟩; rw [← eW6, ← ee]
                  have HE6 : Hid (W6.heap[e]? = some (.cells d.arr 43 (0, 0))) := Lib.hid (by rw [eW6, ee]; exact setRow_heap _ _ _ _ _ _ hq2)
                  have hl6 : Below wr.heap.size wr W6 := by rw [eW6]; exact below_setRow hx (Nat.le_refl _) _
                  have HO6 := Lib.hid (HO.out.below hl6)
                  have HK6 : Hid (Below w.heap.size w W6) := Lib.hid (HK.out.trans (hl6.mono HSZ.out))
                  have HS6 : Hid (w.heap.size ≤ W6.heap.size) := Lib.hid HK6.out.size
                  have c0 : W6.cell? ⟨e, 0, none⟩ = some (.int .i32 (r : Int)) := by rw [heap_cell HE6.out, ← ER.out]; rfl
                  clear eX hx hq2 ee eW6 hl6 HO HK HSZ
                  go_wp2_with (first
                    | (go_at_call 70; (refine (Var_c r W6 HXU.out).mono ?_); rintro _ w2 ⟨v2, rfl, ho2, hb2⟩; obtain ⟨A2, d2, rfl, _, _, r2, _⟩ := OwnB.form ho2; have R2 := Lib.hid r2; have s2 : w.heap.size ≤ w2.heap.size := Nat.le_trans HS6.out hb2.size; have HO2 := Lib.hid (HO6.out.below hb2); have HK2 := Lib.hid (HK6.out.trans (hb2.mono HS6.out)); clear ho2 hb2 r2)
                    | (at_builtin; refine wpList_appB _ rfl (.tmp 104) (.tmp 108) rfl w.heap.size U _ rfl HO2.out A2 (varL r).length d2 (varL r) rfl rfl R2.out (by have := HLN.out; have := varL_len10 HXU.out; omega) s2 ?_; intro v4 w4 h4 hg4 _; have HO4 := Lib.hid h4; have HK4 := Lib.hid (HK2.out.grown hg4 s2 (fun q e => (Own.lt HO2.out q e).1)); clear h4 hg4))
                  go_roundw
                  case rel => exact ⟨v4, z + 1, rfl, by omega, by go_num, Lib.hid (by rw [← HXT.out]; exact HO4.out), HK4⟩
                  case measure => simp [intOf]; omega
                · obtain rfl : N = z := by omega
                  have HGF : Hid (∃ bs' : List UInt8, OwnB wr w.heap.size U bs' ∧ bs'.length ≤ T * 60 ∧ R = ((k + 1) + (restG a b T T).1, bs' ++ (restG a b T T).2)) := Lib.hid (by
                    have h := HO.out
                    rw [List.take_of_length_le (by rw [HSL.out.1]; exact Nat.le_refl _)] at h; refine ⟨_, h, ?_, ?_⟩
                    · have h1 := runesB_le sl (fun y hy => (HSL.out.2.2.2 y hy).2)
                      have h2 := HRW.out.1
                      have h3 := HNS.out.2.2
                      have h4 := HSL.out.1
                      have h5 := HSL.out.2.2.1
                      simp only [List.length_append]
                      omega
                    · rw [HRW.out.2, ← ESL.out]; simp only [List.append_assoc]
                      congr 1
                      omega)
                  clear HO
                  go_wp2_with (fail)
                  go_roundw
                  case rel => exact ⟨U, k + 1, T, T, rfl, Nat.le_refl _, by omega, htj2, by go_num, rfl, rfl, HGF, HK⟩
                  case measure => simp [intOf]; omega
    · obtain rfl : n = j := by omega
      have hge' : ¬ ((n : Int) < (n : Int)) := by omega
      have HRR : Hid (R.1 = k ∧ ∃ bs : List UInt8, OwnB wr w.heap.size V bs ∧ R.2 = bs ∧ bs.length ≤ n * 60) := Lib.hid (by
        obtain ⟨bs, h1, h4, h3⟩ := HG.out; rw [restG_end _ _ _ _ (by rw [HM.out]; exact Nat.le_refl _), List.append_nil] at h3
        exact ⟨by rw [h3]; rfl, bs, h1, by rw [h3], h4⟩)
      go_wp2_with (fail)
      go_ret2
      obtain ⟨q1, bs, q2, q3, q4⟩ := HRR.out; exact ⟨_, by rw [q1] <;> rfl, by rw [q3]; exact q2, HBW.out, by rw [q3]; exact q4, by rw [q1]; omega⟩
end Go.Proofs.YtndjggabdajbfaaGreatDoor


