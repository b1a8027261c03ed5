/- Parts one behind the other: What links.Canon (cells without links), Term.Screen of a new terminal and project.Blank answer; What the reference's Blanks, Of, New (of a grid) and Blank (of a screen) answer; What the reference's New (of a grid) and Blank (of a screen) answer. Conditions: as told at each. -/
import Derived.Test.YtndjggabdajbfaaGreatDoorPG13

set_option linter.unusedVariables false
set_option linter.unusedSimpArgs false
/- What links.Canon (cells without links), Term.Screen of a new terminal and project.Blank answer. Conditions: none. -/
namespace Go.Proofs.YtndjggabdajbfaaGreatDoor
open Go Go.RowKit Go.Lib

theorem set_same {α : Type} {l : List α} {j : Nat} {u : α} (h : l[j]? = some u) : l.set j u = l := by
  apply List.ext_getElem?
  intro i; rw [List.getElem?_set]
  by_cases e : j = i
  · subst e
    rw [if_pos rfl, h]; obtain ⟨hj, _⟩ := List.getElem?_eq_some_iff.1 h; rw [if_pos hj]
  · rw [if_neg e]
theorem OwnC.again {w : World} {B g n c : Nat} {ds : List CeD} (h : OwnC w B (.slice (some ⟨g, 0, none⟩) n c) ds) (i : Nat) (hi : i < ds.length) (h0 : ds[i].ln = 0) : OwnC (w.setCell ⟨g, i * 6 + 5, none⟩ (.int .u16 0)) B (.slice (some ⟨g, 0, none⟩) n c) ds := by
  have hl := h.len.1
  have h2 := (h.to_n.stored (i * 6 + 5) (.int .u16 0)).1
  rw [set_same (by rw [cellsC_get ds i hi 5 (by decide)]; show some (Value.int .u16 ds[i].ln) = _; rw [h0])] at h2
  unfold OwnC
  rw [← hl]; exact h2
set_option maxRecDepth 100000 in
set_option maxHeartbeats 16000000 in
theorem Canon0_c (A : Option Addr) (n c : Nat) (ds : List CeD) (w : World) (hn : ds.length = n) (hr : RdC w A ds) (hl : n ≤ 60000) (h0 : ∀ d ∈ ds, d.ln = 0) :
    Calls Tryz.prog 79 #[.slice A n c, .slice none 0 0] w fun e w' => ∃ A' c', e = .returned (.tuple #[.slice A' n c', .slice none 0 0]) ∧ OwnC w' w.heap.size (.slice A' n c') ds ∧ Below w.heap.size w w' := by
  have HN := Lib.hid hn
  have HR := Lib.hid hr
  have HZ := Lib.hid h0
  clear hn hr h0
  go_enter Tryz.func79, Tryz.ntmps79
  go_upto_region 3 with (go_at_call 16; (with_reducible refine (CloneC_c A n c ds w HN.out HR.out (by omega)).mono ?_); rintro _ w1 ⟨v1, rfl, ho1, hb1⟩; obtain ⟨A1, c1, rfl, hnc1, _, _, ha1, hz1⟩ := ho1.form; have HO1 := Lib.hid ho1; have HB1 := Lib.hid hb1; have HA1 := Lib.hid ha1; have HZ1 := Lib.hid hz1; have HNC := Lib.hid hnc1; clear ho1 hb1 ha1 hz1 hnc1)
  rw [HN.out] at HO1 HNC ⊢
  go_wp2_with (fail)
  go_loopw [7, 15] (fun l i wr => ∃ k : Nat, k ≤ n ∧ l = .slice none 0 0 ∧ i = .int .i64 k ∧ Hid (OwnC wr w.heap.size (.slice A1 n c1) ds) ∧ Hid (Below w.heap.size w wr)) (fun _ i _ => n - (intOf i).toNat)
  case atStart => exact ⟨0, Nat.zero_le _, rfl, rfl, HO1, HB1⟩
  case round =>
    obtain ⟨k, hk, rfl, rfl, HO, HB⟩ := hrel
    rcases Nat.lt_or_ge k n with hlt | hge
    · have hlt' : (k : Int) < (n : Int) := by omega
      obtain ⟨b, hA⟩ : ∃ b, A1 = some ⟨b, 0, none⟩ := by
        cases hA : A1 with
        | none => have h1 := HZ1.out hA; have h2 := HNC.out; omega
        | some a => obtain ⟨_, _, h1, h2⟩ := HA1.out a hA; obtain ⟨bb, oo, ss⟩ := a; cases h1; cases h2; exact ⟨bb, rfl⟩
      subst hA
      have hkl : k < ds.length := by rw [HN.out]; exact hlt
      have h00 : ds[k].ln = 0 := HZ.out _ (List.getElem_mem _)
      have z5 : wr.cell? ⟨b, k * 6 + 5, none⟩ = some (.int .u16 0) := by rw [← h00]; exact (HO.out.six k hkl).2.2.2.2.2
      have f5 := HO.out.free (k * 6 + 5)
      have HBB : Hid (w.heap.size ≤ b) := Lib.hid (OwnC.lt HO.out b rfl).1
      have HH : Hid (k < ds.length ∧ ∀ h : k < ds.length, ds[k].ln = 0) := Lib.hid ⟨hkl, fun _ => h00⟩
      clear hkl h00
      go_upto_region 8 with (fail)
      obtain ⟨W5, eW5⟩ : ∃ W5, W5 = wr.setCell ⟨b, k * 6 + 5, none⟩ (.int .u16 0) := ⟨_, rfl⟩; rw [← eW5]
      have HO5 : Hid (OwnC W5 w.heap.size (.slice (some ⟨b, 0, none⟩) n c1) ds) := Lib.hid (by rw [eW5]; exact HO.out.again k HH.out.1 (HH.out.2 _))
      have HB5 : Hid (Below w.heap.size w W5) := Lib.hid (by rw [eW5]; exact below_set HB.out b _ _ HBB.out)
      clear eW5 z5 f5
      go_wp2_with (fail)
      go_roundw
      case rel => exact ⟨k + 1, by omega, rfl, by go_num, HO5, HB5⟩
      case measure => simp [intOf]; omega
    · obtain rfl : n = k := by omega
      have hge' : ¬ ((n : Int) < (n : Int)) := by omega
      go_wp2_with (fail)
      go_ret2
      exact ⟨_, _, rfl, HO.out, HB.out⟩
/-- What Canon answers, as a value that stays. -/
def Rl.can (B N : Nat) (ds : List CeD) : Rl := ⟨fun w v => ∃ A' c', v = .tuple #[.slice A' N c', .slice none 0 0] ∧ OwnC w B (.slice A' N c') ds, fun ⟨A', c', h, r⟩ g => ⟨A', c', h, OwnC.below r g⟩⟩
def Rl.canS (B N : Nat) (ds : List CeD) : Rl := ⟨fun w v => ∃ A' c', v = .slice A' N c' ∧ OwnC w B (.slice A' N c') ds, fun ⟨A', c', h, r⟩ g => ⟨A', c', h, OwnC.below r g⟩⟩
set_option maxRecDepth 100000 in
set_option maxHeartbeats 16000000 in
theorem termScreen_c (g : Nat) (C R : Int) (b N : Nat) (w : World) (h : TermB w g C R (.slice (some ⟨b, 0, none⟩) N N)) (hr : RdC w (some ⟨b, 0, none⟩) (List.replicate N blankD)) (hN : N ≤ 1920) :
    Calls Tryz.prog 59 #[.pointer (some ⟨g, 0, none⟩)] w fun e w' => ∃ A' c', e = .returned (.agg (scC (blankS C R) A' N c' none 0 0)) ∧ OwnC w' w.heap.size (.slice A' N c') (List.replicate N blankD) ∧ Below w.heap.size w w' := by
  obtain ⟨W0, eW0⟩ : ∃ W0, W0 = w.alloc (.cells (scC scZ none 0 0 none 0 0) 25) := ⟨_, rfl⟩; obtain ⟨q, eq⟩ : ∃ q, q = w.heap.size := ⟨_, rfl⟩
  have hb0 : Below w.heap.size w W0 := by rw [eW0]; exact (Below.refl _ _).alloc (Nat.le_refl _) _
  have HB0 := Lib.hid hb0
  have HQ0 : Hid (ScB W0 q scZ none 0 0 none 0 0) := Lib.hid (by rw [eW0, eq]; exact heap_alloc_new _ _)
  have EW0 : Hid (w.alloc (.cells #[.int .i64 0, .int .i64 0, .slice none 0 0, .int .i64 0, .int .i64 0, .bool false, .int .u8 0, .string { data := #[] }, .slice none 0 0] 25) = W0) := Lib.hid (by rw [eW0]; rfl)
  have EQ := Lib.hid eq
  have HQW : Hid (w.heap.size ≤ q) := Lib.hid (Nat.le_of_eq eq.symm)
  have HT := Lib.hid (h.below hb0)
  have HR := Lib.hid (hr.below hb0)
  obtain ⟨L, eL⟩ : ∃ L, L = List.replicate N blankD := ⟨_, rfl⟩; rw [← eL] at HR; rw [← eL]
  have HL : Hid (L.length = N ∧ ∀ d ∈ L, d.ln = 0) := Lib.hid ⟨by rw [eL]; simp, fun d hd => by rw [eL] at hd; have := List.eq_of_mem_replicate hd; subst this; rfl⟩
  clear hb0 eW0 eq h hr eL
  go_enter Tryz.func59, Tryz.ntmps59
  go_upto_region 3 with (fail)
  rw [EW0.out, ← EQ.out]; refine wp_region_rw 52 [Rl.eq (.pointer (some ⟨g, 0, none⟩)), Rl.eq (.agg (gridA C R (.slice (some ⟨b, 0, none⟩) N N))), Rl.eq (.slice (some ⟨b, 0, none⟩) N N), Rl.eq (.pointer (some ⟨g, 0, none⟩)), Rl.eq (.pointer (some ⟨g, 0, none⟩)), Rl.eq (.pointer (some ⟨g, 111, none⟩)), Rl.eq (.slice none 0 0), Rl.can W0.heap.size N L, Rl.can W0.heap.size N L, Rl.canS W0.heap.size N L, Rl.eq (.slice none 0 0), Rl.canS W0.heap.size N L, Rl.eq (.slice none 0 0)] [9, 10, 11, 12, 13, 14, 15, 16, 8, 17, 18, 3, 4] (by kernel_rfl) rfl (by kernel_rfl) (by kernel_rfl) ?_ ?_
  · repeat (first | exact AllFrom.nil_ | (refine AllFrom.cons_ (by rfl) ?_ ?_; rotate_left))
    · intro f w' g_ hF hD; have h0 : f 0 = .pointer (some ⟨g, 0, none⟩) := hF 0 (by kernel_rfl); rw [if_pos (wanted_none rfl)]; clear hF hD; exact gives_val (by simp only [execOp, evF, h0]; first | rfl | go_simp) ⟨Gr.refl _, rfl⟩
    · intro f w' g_ hF hD; have h9 : f 9 = (.pointer (some ⟨g, 0, none⟩)) := hD 0 9 (by kernel_rfl) rfl; rw [if_pos (wanted_none rfl)]; clear hF hD
      have kg : Below W0.heap.size W0 w' := (below_drewN (Below.refl _ _) 1).trans g_
      have kt := HT.out.below kg
      refine gives_func rfl Tryz.func80 (by kernel_rfl) rfl (by simp only [List.map_toArray, List.map_cons, List.map_nil, evF, h9]) ((here_c g C R (some ⟨b, 0, none⟩) N N w' kt).mono ?_)
      rintro e w'' ⟨rfl, hb⟩
      exact ⟨_, rfl, hb, rfl⟩
    · intro f w' g_ hF hD; have h10 : f 10 = (.agg (gridA C R (.slice (some ⟨b, 0, none⟩) N N))) := hD 1 10 (by kernel_rfl) rfl; rw [if_pos (wanted_none rfl)]; clear hF hD; exact gives_val (by simp only [execOp, evF, h10]; first | rfl | go_simp) ⟨Gr.refl _, rfl⟩
    · intro f w' g_ hF hD; have h0 : f 0 = .pointer (some ⟨g, 0, none⟩) := hF 0 (by kernel_rfl); rw [if_pos (wanted_none rfl)]; clear hF hD; exact gives_val (by simp only [execOp, evF, h0]; first | rfl | go_simp) ⟨Gr.refl _, rfl⟩
    · intro f w' g_ hF hD; have h12 : f 12 = (.pointer (some ⟨g, 0, none⟩)) := hD 3 12 (by kernel_rfl) rfl; rw [if_pos (wanted_none rfl)]; clear hF hD; exact gives_val (by simp only [execOp, evF, h12]; first | rfl | go_simp) ⟨Gr.refl _, rfl⟩
    · intro f w' g_ hF hD; have h13 : f 13 = (.pointer (some ⟨g, 0, none⟩)) := hD 4 13 (by kernel_rfl) rfl; rw [if_pos (wanted_none rfl)]; clear hF hD; exact gives_val (by simp only [execOp, evF, h13]; first | rfl | go_simp) ⟨Gr.refl _, rfl⟩
    · intro f w' g_ hF hD; have h14 : f 14 = (.pointer (some ⟨g, 111, none⟩)) := hD 5 14 (by kernel_rfl) rfl; rw [if_pos (wanted_none rfl)]; clear hF hD
      have kg : Below W0.heap.size W0 w' := (below_drewN (Below.refl _ _) 1).trans g_
      have kt := HT.out.below kg
      have cl := kt.cells.2.2.2.2.2.2.2.2.2.2.2
      exact gives_val (by simp only [execOp, evF, h14]; go_simp) ⟨Gr.refl _, rfl⟩
    · intro f w' g_ hF hD; have h11 : f 11 = (.slice (some ⟨b, 0, none⟩) N N) := hD 2 11 (by kernel_rfl) rfl; have h15 : f 15 = (.slice none 0 0) := hD 6 15 (by kernel_rfl) rfl; rw [if_pos (wanted_none rfl)]; clear hF hD
      have kg : Below W0.heap.size W0 w' := (below_drewN (Below.refl _ _) 1).trans g_
      refine gives_func rfl Tryz.func79 (by kernel_rfl) rfl (by simp only [List.map_toArray, List.map_cons, List.map_nil, evF, h11, h15]) ((Canon0_c (some ⟨b, 0, none⟩) N N L w' HL.out.1 (HR.out.below kg) (by omega) HL.out.2).mono ?_)
      rintro e w'' ⟨A', c', rfl, ho, hb⟩
      exact ⟨_, rfl, hb, A', c', rfl, OwnC.low ho kg.size⟩
    · intro f w' g_ hF hD; have q16 := hD 7 16 (by kernel_rfl) rfl; rw [if_pos (wanted_none rfl)]; clear hF hD; obtain ⟨A', c', e, ho⟩ := q16; exact gives_val (by simp only [execOp, evF, e]; first | rfl | go_simp) ⟨Gr.refl _, A', c', rfl, ho⟩
    · intro f w' g_ hF hD; have q8 := hD 8 8 (by kernel_rfl) rfl; rw [if_pos (wanted_none rfl)]; clear hF hD; obtain ⟨A', c', e, ho⟩ := q8; exact gives_val (by simp only [execOp, evF, e]; first | rfl | go_simp) ⟨Gr.refl _, A', c', rfl, ho⟩
    · intro f w' g_ hF hD; have q8 := hD 8 8 (by kernel_rfl) rfl; rw [if_pos (wanted_none rfl)]; clear hF hD; obtain ⟨A', c', e, ho⟩ := q8; exact gives_val (by simp only [execOp, evF, e]; first | rfl | go_simp) ⟨Gr.refl _, rfl⟩
    · intro f w' g_ hF hD; have q17 := hD 9 17 (by kernel_rfl) rfl; rw [if_pos (wanted_none rfl)]; clear hF hD; obtain ⟨A', c', e, ho⟩ := q17; exact gives_val (by simp only [execOp, evF, e]; first | rfl | go_simp) ⟨Gr.refl _, A', c', rfl, ho⟩
    · intro f w' g_ hF hD; have h18 : f 18 = (.slice none 0 0) := hD 10 18 (by kernel_rfl) rfl; rw [if_pos (wanted_none rfl)]; clear hF hD; exact gives_val (by simp only [execOp, evF, h18]; first | rfl | go_simp) ⟨Gr.refl _, rfl⟩
  intro f w4 gg hD; obtain ⟨A3, c3, h3, ho3⟩ : ∃ A' c', f 3 = .slice A' N c' ∧ OwnC w4 W0.heap.size (.slice A' N c') L := hD 11 3 rfl; have h4 : f 4 = .slice none 0 0 := hD 12 4 rfl
  have kg : Below W0.heap.size W0 w4 := (below_drewN (Below.refl _ _) 1).trans gg
  simp only [putAll, List.setIfInBounds_toArray, List.set_cons_zero, List.set_cons_succ, h3, h4]
  have HQ4 := Lib.hid (HQ0.out.below kg)
  have HB4 := Lib.hid (HB0.out.trans (kg.mono HB0.out.size))
  have HO4 := Lib.hid ho3
  have HT4 := Lib.hid (HT.out.below kg)
  have HQL : Hid (q < W0.heap.size) := Lib.hid (heap_lt HQ0.out)
  generalize f 8 = d8; generalize f 9 = d9; generalize f 10 = d10; generalize f 11 = d11; generalize f 12 = d12; generalize f 13 = d13; generalize f 14 = d14; generalize f 15 = d15; generalize f 16 = d16; generalize f 17 = d17; generalize f 18 = d18; clear hD gg kg h3 h4 ho3
  go_upto_region 4 with (fail)
  refine wp_region_rt 52 33 [Rl.eq (.pointer (some ⟨g, 0, none⟩)), Rl.eq (.pointer (some ⟨g, 0, none⟩)), Rl.eq (.pointer (some ⟨g, 7, none⟩)), Rl.eq (.int .i64 C), Rl.eq (.pointer (some ⟨g, 0, none⟩)), Rl.eq (.pointer (some ⟨g, 0, none⟩)), Rl.eq (.pointer (some ⟨g, 8, none⟩)), Rl.eq (.int .i64 R), Rl.eq (.slice A3 N c3), Rl.eq (.pointer (some ⟨g, 0, none⟩)), Rl.eq (.pointer (some ⟨g, 0, none⟩)), Rl.eq (.pointer (some ⟨g, 0, none⟩)), Rl.eq (.pointer (some ⟨g, 0, none⟩)), Rl.eq (.int .i64 0), Rl.eq (.pointer (some ⟨g, 0, none⟩)), Rl.eq (.pointer (some ⟨g, 0, none⟩)), Rl.eq (.pointer (some ⟨g, 0, none⟩)), Rl.eq (.pointer (some ⟨g, 1, none⟩)), Rl.eq (.int .i64 0), Rl.eq (.pointer (some ⟨g, 0, none⟩)), Rl.eq (.pointer (some ⟨g, 0, none⟩)), Rl.eq (.pointer (some ⟨g, 21, none⟩)), Rl.eq (.bool false), Rl.eq (.pointer (some ⟨g, 0, none⟩)), Rl.eq (.pointer (some ⟨g, 0, none⟩)), Rl.eq (.pointer (some ⟨g, 22, none⟩)), Rl.eq (.int .u8 0), Rl.eq (.pointer (some ⟨g, 0, none⟩)), Rl.eq (.pointer (some ⟨g, 0, none⟩)), Rl.eq (.pointer (some ⟨g, 110, none⟩)), Rl.eq (.string ⟨#[]⟩), Rl.eq (.slice none 0 0), Rl.eq (.agg #[.int .i64 C, .int .i64 R, .slice A3 N c3, .int .i64 0, .int .i64 0, .bool false, .int .u8 0, .string ⟨#[]⟩, .slice none 0 0])] [19, 20, 21, 22, 23, 24, 25, 26, 27, 28, 29, 30, 31, 32, 33, 34, 35, 36, 37, 38, 39, 40, 41, 42, 43, 44, 45, 46, 47, 48, 49, 50, 51] (by kernel_rfl) rfl (by kernel_rfl) (by kernel_rfl) (by decide) (by kernel_rfl) (by kernel_rfl) ?_ ?_
  · simp only [List.take_succ_cons, List.take_zero]
    repeat (first | exact AllFrom.nil_ | (refine AllFrom.cons_ (by rfl) ?_ ?_; rotate_left))
    · intro f w' g_ hF hD; have h0 : f 0 = .pointer (some ⟨g, 0, none⟩) := hF 0 (by kernel_rfl); rw [if_pos (wanted_none rfl)]; clear hF hD; exact gives_val (by simp only [execOp, evF, h0]; first | rfl | go_simp) ⟨Gr.refl _, rfl⟩
    · intro f w' g_ hF hD; have h19 : f 19 = (.pointer (some ⟨g, 0, none⟩)) := hD 0 19 (by kernel_rfl) rfl; rw [if_pos (wanted_none rfl)]; clear hF hD; exact gives_val (by simp only [execOp, evF, h19]; first | rfl | go_simp) ⟨Gr.refl _, rfl⟩
    · intro f w' g_ hF hD; have h20 : f 20 = (.pointer (some ⟨g, 0, none⟩)) := hD 1 20 (by kernel_rfl) rfl; rw [if_pos (wanted_none rfl)]; clear hF hD; exact gives_val (by simp only [execOp, evF, h20]; first | rfl | go_simp) ⟨Gr.refl _, rfl⟩
    · intro f w' g_ hF hD; have h21 : f 21 = (.pointer (some ⟨g, 7, none⟩)) := hD 2 21 (by kernel_rfl) rfl; rw [if_pos (wanted_none rfl)]; clear hF hD
      have kt := HT4.out.below (show Below w4.heap.size w4 w' from (below_drewN (Below.refl _ _) 1).trans g_)
      have cl := kt.cells.2.2.1
      exact gives_val (by simp only [execOp, evF, h21]; go_simp) ⟨Gr.refl _, rfl⟩
    · intro f w' g_ hF hD; have h0 : f 0 = .pointer (some ⟨g, 0, none⟩) := hF 0 (by kernel_rfl); rw [if_pos (wanted_none rfl)]; clear hF hD; exact gives_val (by simp only [execOp, evF, h0]; first | rfl | go_simp) ⟨Gr.refl _, rfl⟩
    · intro f w' g_ hF hD; have h23 : f 23 = (.pointer (some ⟨g, 0, none⟩)) := hD 4 23 (by kernel_rfl) rfl; rw [if_pos (wanted_none rfl)]; clear hF hD; exact gives_val (by simp only [execOp, evF, h23]; first | rfl | go_simp) ⟨Gr.refl _, rfl⟩
    · intro f w' g_ hF hD; have h24 : f 24 = (.pointer (some ⟨g, 0, none⟩)) := hD 5 24 (by kernel_rfl) rfl; rw [if_pos (wanted_none rfl)]; clear hF hD; exact gives_val (by simp only [execOp, evF, h24]; first | rfl | go_simp) ⟨Gr.refl _, rfl⟩
    · intro f w' g_ hF hD; have h25 : f 25 = (.pointer (some ⟨g, 8, none⟩)) := hD 6 25 (by kernel_rfl) rfl; rw [if_pos (wanted_none rfl)]; clear hF hD
      have kt := HT4.out.below (show Below w4.heap.size w4 w' from (below_drewN (Below.refl _ _) 1).trans g_)
      have cl := kt.cells.2.2.2.1
      exact gives_val (by simp only [execOp, evF, h25]; go_simp) ⟨Gr.refl _, rfl⟩
    · intro f w' g_ hF hD; have h3 : f 3 = .slice A3 N c3 := hF 3 (by kernel_rfl); rw [if_pos (wanted_none rfl)]; clear hF hD; exact gives_val (by simp only [execOp, evF, h3]; first | rfl | go_simp) ⟨Gr.refl _, rfl⟩
    · intro f w' g_ hF hD; have h0 : f 0 = .pointer (some ⟨g, 0, none⟩) := hF 0 (by kernel_rfl); rw [if_pos (wanted_none rfl)]; clear hF hD; exact gives_val (by simp only [execOp, evF, h0]; first | rfl | go_simp) ⟨Gr.refl _, rfl⟩
    · intro f w' g_ hF hD; have h28 : f 28 = (.pointer (some ⟨g, 0, none⟩)) := hD 9 28 (by kernel_rfl) rfl; rw [if_pos (wanted_none rfl)]; clear hF hD; exact gives_val (by simp only [execOp, evF, h28]; first | rfl | go_simp) ⟨Gr.refl _, rfl⟩
    · intro f w' g_ hF hD; have h29 : f 29 = (.pointer (some ⟨g, 0, none⟩)) := hD 10 29 (by kernel_rfl) rfl; rw [if_pos (wanted_none rfl)]; clear hF hD; exact gives_val (by simp only [execOp, evF, h29]; first | rfl | go_simp) ⟨Gr.refl _, rfl⟩
    · intro f w' g_ hF hD; have h30 : f 30 = (.pointer (some ⟨g, 0, none⟩)) := hD 11 30 (by kernel_rfl) rfl; rw [if_pos (wanted_none rfl)]; clear hF hD; exact gives_val (by simp only [execOp, evF, h30]; first | rfl | go_simp) ⟨Gr.refl _, rfl⟩
    · intro f w' g_ hF hD; have h31 : f 31 = (.pointer (some ⟨g, 0, none⟩)) := hD 12 31 (by kernel_rfl) rfl; rw [if_pos (wanted_none rfl)]; clear hF hD
      have kt := HT4.out.below (show Below w4.heap.size w4 w' from (below_drewN (Below.refl _ _) 1).trans g_)
      have cl := kt.cells.1
      exact gives_val (by simp only [execOp, evF, h31]; go_simp) ⟨Gr.refl _, rfl⟩
    · intro f w' g_ hF hD; have h0 : f 0 = .pointer (some ⟨g, 0, none⟩) := hF 0 (by kernel_rfl); rw [if_pos (wanted_none rfl)]; clear hF hD; exact gives_val (by simp only [execOp, evF, h0]; first | rfl | go_simp) ⟨Gr.refl _, rfl⟩
    · intro f w' g_ hF hD; have h33 : f 33 = (.pointer (some ⟨g, 0, none⟩)) := hD 14 33 (by kernel_rfl) rfl; rw [if_pos (wanted_none rfl)]; clear hF hD; exact gives_val (by simp only [execOp, evF, h33]; first | rfl | go_simp) ⟨Gr.refl _, rfl⟩
    · intro f w' g_ hF hD; have h34 : f 34 = (.pointer (some ⟨g, 0, none⟩)) := hD 15 34 (by kernel_rfl) rfl; rw [if_pos (wanted_none rfl)]; clear hF hD; exact gives_val (by simp only [execOp, evF, h34]; first | rfl | go_simp) ⟨Gr.refl _, rfl⟩
    · intro f w' g_ hF hD; have h35 : f 35 = (.pointer (some ⟨g, 0, none⟩)) := hD 16 35 (by kernel_rfl) rfl; rw [if_pos (wanted_none rfl)]; clear hF hD; exact gives_val (by simp only [execOp, evF, h35]; first | rfl | go_simp) ⟨Gr.refl _, rfl⟩
    · intro f w' g_ hF hD; have h36 : f 36 = (.pointer (some ⟨g, 1, none⟩)) := hD 17 36 (by kernel_rfl) rfl; rw [if_pos (wanted_none rfl)]; clear hF hD
      have kt := HT4.out.below (show Below w4.heap.size w4 w' from (below_drewN (Below.refl _ _) 1).trans g_)
      have cl := kt.cells.2.1
      exact gives_val (by simp only [execOp, evF, h36]; go_simp) ⟨Gr.refl _, rfl⟩
    · intro f w' g_ hF hD; have h0 : f 0 = .pointer (some ⟨g, 0, none⟩) := hF 0 (by kernel_rfl); rw [if_pos (wanted_none rfl)]; clear hF hD; exact gives_val (by simp only [execOp, evF, h0]; first | rfl | go_simp) ⟨Gr.refl _, rfl⟩
    · intro f w' g_ hF hD; have h38 : f 38 = (.pointer (some ⟨g, 0, none⟩)) := hD 19 38 (by kernel_rfl) rfl; rw [if_pos (wanted_none rfl)]; clear hF hD; exact gives_val (by simp only [execOp, evF, h38]; first | rfl | go_simp) ⟨Gr.refl _, rfl⟩
    · intro f w' g_ hF hD; have h39 : f 39 = (.pointer (some ⟨g, 0, none⟩)) := hD 20 39 (by kernel_rfl) rfl; rw [if_pos (wanted_none rfl)]; clear hF hD; exact gives_val (by simp only [execOp, evF, h39]; first | rfl | go_simp) ⟨Gr.refl _, rfl⟩
    · intro f w' g_ hF hD; have h40 : f 40 = (.pointer (some ⟨g, 21, none⟩)) := hD 21 40 (by kernel_rfl) rfl; rw [if_pos (wanted_none rfl)]; clear hF hD
      have kt := HT4.out.below (show Below w4.heap.size w4 w' from (below_drewN (Below.refl _ _) 1).trans g_)
      have cl := kt.cells.2.2.2.2.2.2.2.2.1
      exact gives_val (by simp only [execOp, evF, h40]; go_simp) ⟨Gr.refl _, rfl⟩
    · intro f w' g_ hF hD; have h0 : f 0 = .pointer (some ⟨g, 0, none⟩) := hF 0 (by kernel_rfl); rw [if_pos (wanted_none rfl)]; clear hF hD; exact gives_val (by simp only [execOp, evF, h0]; first | rfl | go_simp) ⟨Gr.refl _, rfl⟩
    · intro f w' g_ hF hD; have h42 : f 42 = (.pointer (some ⟨g, 0, none⟩)) := hD 23 42 (by kernel_rfl) rfl; rw [if_pos (wanted_none rfl)]; clear hF hD; exact gives_val (by simp only [execOp, evF, h42]; first | rfl | go_simp) ⟨Gr.refl _, rfl⟩
    · intro f w' g_ hF hD; have h43 : f 43 = (.pointer (some ⟨g, 0, none⟩)) := hD 24 43 (by kernel_rfl) rfl; rw [if_pos (wanted_none rfl)]; clear hF hD; exact gives_val (by simp only [execOp, evF, h43]; first | rfl | go_simp) ⟨Gr.refl _, rfl⟩
    · intro f w' g_ hF hD; have h44 : f 44 = (.pointer (some ⟨g, 22, none⟩)) := hD 25 44 (by kernel_rfl) rfl; rw [if_pos (wanted_none rfl)]; clear hF hD
      have kt := HT4.out.below (show Below w4.heap.size w4 w' from (below_drewN (Below.refl _ _) 1).trans g_)
      have cl := kt.cells.2.2.2.2.2.2.2.2.2.1
      exact gives_val (by simp only [execOp, evF, h44]; go_simp) ⟨Gr.refl _, rfl⟩
    · intro f w' g_ hF hD; have h0 : f 0 = .pointer (some ⟨g, 0, none⟩) := hF 0 (by kernel_rfl); rw [if_pos (wanted_none rfl)]; clear hF hD; exact gives_val (by simp only [execOp, evF, h0]; first | rfl | go_simp) ⟨Gr.refl _, rfl⟩
    · intro f w' g_ hF hD; have h46 : f 46 = (.pointer (some ⟨g, 0, none⟩)) := hD 27 46 (by kernel_rfl) rfl; rw [if_pos (wanted_none rfl)]; clear hF hD; exact gives_val (by simp only [execOp, evF, h46]; first | rfl | go_simp) ⟨Gr.refl _, rfl⟩
    · intro f w' g_ hF hD; have h47 : f 47 = (.pointer (some ⟨g, 0, none⟩)) := hD 28 47 (by kernel_rfl) rfl; rw [if_pos (wanted_none rfl)]; clear hF hD; exact gives_val (by simp only [execOp, evF, h47]; first | rfl | go_simp) ⟨Gr.refl _, rfl⟩
    · intro f w' g_ hF hD; have h48 : f 48 = (.pointer (some ⟨g, 110, none⟩)) := hD 29 48 (by kernel_rfl) rfl; rw [if_pos (wanted_none rfl)]; clear hF hD
      have kt := HT4.out.below (show Below w4.heap.size w4 w' from (below_drewN (Below.refl _ _) 1).trans g_)
      have cl := kt.cells.2.2.2.2.2.2.2.2.2.2.1
      exact gives_val (by simp only [execOp, evF, h48]; go_simp) ⟨Gr.refl _, rfl⟩
    · intro f w' g_ hF hD; have h4 : f 4 = .slice none 0 0 := hF 4 (by kernel_rfl); rw [if_pos (wanted_none rfl)]; clear hF hD; exact gives_val (by simp only [execOp, evF, h4]; first | rfl | go_simp) ⟨Gr.refl _, rfl⟩
    · intro f w' g_ hF hD; have h22 : f 22 = (.int .i64 C) := hD 3 22 (by kernel_rfl) rfl; have h26 : f 26 = (.int .i64 R) := hD 7 26 (by kernel_rfl) rfl; have h27 : f 27 = (.slice A3 N c3) := hD 8 27 (by kernel_rfl) rfl; have h32 : f 32 = (.int .i64 0) := hD 13 32 (by kernel_rfl) rfl; have h37 : f 37 = (.int .i64 0) := hD 18 37 (by kernel_rfl) rfl; have h41 : f 41 = (.bool false) := hD 22 41 (by kernel_rfl) rfl; have h45 : f 45 = (.int .u8 0) := hD 26 45 (by kernel_rfl) rfl; have h49 : f 49 = (.string ⟨#[]⟩) := hD 30 49 (by kernel_rfl) rfl; have h50 : f 50 = (.slice none 0 0) := hD 31 50 (by kernel_rfl) rfl; rw [if_pos (wanted_none rfl)]; clear hF hD; exact gives_build 25 _ rfl #[.int .i64 C, .int .i64 R, .slice A3 N c3, .int .i64 0, .int .i64 0, .bool false, .int .u8 0, .string ⟨#[]⟩, .slice none 0 0] (by simp only [List.map_toArray, List.map_cons, List.map_nil, evF, h22, h26, h27, h32, h37, h41, h45, h49, h50]; kernel_rfl) ⟨Gr.refl _, rfl⟩
  intro f w5 gg hD; have h51 : f 51 = .agg (scC (blankS C R) A3 N c3 none 0 0) := hD 32 51 (by decide) rfl
  have kg : Below w4.heap.size w4 w5 := (below_drewN (Below.refl _ _) 1).trans gg
  simp only [List.drop_succ_cons, List.drop_zero, putAll, List.setIfInBounds_toArray, List.set_cons_zero, List.set_cons_succ, h51]
  have HQ5 := Lib.hid (HQ4.out.below kg)
  have HB5 := Lib.hid (HB4.out.trans (kg.mono HB4.out.size))
  have HO5 := Lib.hid (OwnC.below HO4.out kg)
  clear hD gg kg h51
  go_wp2_with (first
    | (refine wpList_store_row rfl 25 (.tmp 2) (.tmp 51) rfl q (scC (blankS C R) A3 N c3 none 0 0) rfl rfl 25 _ HQ5.out (info_sc.trans rfl) rfl (sc_one _ _ _ _ _ _ _) ?_))
  refine bodyPost_ret (v := .agg (scC (blankS C R) A3 N c3 none 0 0)) (results_cell_row (p := 2) (ty := 25) rfl _ _ q 25 _ (0, 0) _ rfl (setRow_heap w5 q _ _ _ _ HQ5.out) Tryz.underlying25 rfl (info_sc.trans rfl)) rfl ?_; exact ⟨A3, c3, rfl, OwnC.low (OwnC.keep HO5.out (fun j e => setRow_other _ _ _ _ (by have h1 := (OwnC.lt HO5.out j e).1; have h2 := HQL.out; omega))) HB0.out.size, below_setRow HB5.out HQW.out _⟩
set_option maxRecDepth 100000 in
set_option maxHeartbeats 16000000 in
theorem projBlank_c (C R N : Nat) (w : World) (hf : fitsI (C : Int) (R : Int) = true) (hN : N = C * R) :
    Calls Tryz.prog 37 #[.int .i64 (C : Int), .int .i64 (R : Int)] w fun e w' => ∃ A' c', e = .returned (.tuple #[.agg (scC (blankS C R) A' N c' none 0 0), .int .i64 0]) ∧ OwnC w' w.heap.size (.slice A' N c') (List.replicate N blankD) ∧ Below w.heap.size w w' := by
  have hN2 : N ≤ 1920 := by
    simp only [fitsI, Bool.and_eq_true, decide_eq_true_eq] at hf
    have := Nat.mul_le_mul (show C ≤ 80 by omega) (show R ≤ 24 by omega)
    omega
  have HF := Lib.hid hf
  have HN := Lib.hid hN
  have HN2 := Lib.hid hN2
  obtain ⟨W0, eW0⟩ : ∃ W0, W0 = w.alloc (.cells (scC scZ none 0 0 none 0 0) 25) := ⟨_, rfl⟩; obtain ⟨q, eq⟩ : ∃ q, q = w.heap.size := ⟨_, rfl⟩
  have hb0 : Below w.heap.size w W0 := by rw [eW0]; exact (Below.refl _ _).alloc (Nat.le_refl _) _
  have HB0 := Lib.hid hb0
  have HQ0 : Hid (ScB W0 q scZ none 0 0 none 0 0) := Lib.hid (by rw [eW0, eq]; exact heap_alloc_new _ _)
  have EW0 : Hid (w.alloc (.cells #[.int .i64 0, .int .i64 0, .slice none 0 0, .int .i64 0, .int .i64 0, .bool false, .int .u8 0, .string { data := #[] }, .slice none 0 0] 25) = W0) := Lib.hid (by rw [eW0]; rfl)
  have EQ := Lib.hid eq
  have HQW : Hid (w.heap.size ≤ q) := Lib.hid (Nat.le_of_eq eq.symm)
  clear hb0 eW0 eq hf hN hN2
  go_enter Tryz.func37, Tryz.ntmps37
  go_upto_region 1 with (fail)
  rw [EW0.out, ← EQ.out]
  go_wp2_with (first
    | (go_at_call 58; (with_reducible refine (emulNew_c C R N W0 HF.out HN.out).mono ?_); rintro _ w1 ⟨b, g, rfl, ho1, ht1, hb1⟩; have HO1 := Lib.hid ho1; have HT1 := Lib.hid ht1; have HQ1 := Lib.hid (HQ0.out.below hb1); have HB1 := Lib.hid (HB0.out.trans (hb1.mono HB0.out.size)); have HR1 : Hid (RdC w1 (some ⟨b, 0, none⟩) (List.replicate N blankD)) := Lib.hid (by obtain ⟨A2, c2, e2, _, _, h, _⟩ := ho1.form; injection e2 with e2; rw [e2]; exact h); clear ho1 ht1 hb1)
    | (go_at_call 59; (with_reducible refine (termScreen_c g (C : Int) (R : Int) b N w1 HT1.out HR1.out HN2.out).mono ?_); rintro _ w2 ⟨A2, c2, rfl, ho2, hb2⟩; have HO2 := Lib.hid ho2; have HQ2 := Lib.hid (HQ1.out.below hb2); have HB2 := Lib.hid (HB1.out.trans (hb2.mono HB1.out.size)); have HLQ : Hid (q < w1.heap.size) := Lib.hid (heap_lt HQ1.out); clear ho2 hb2)
    | (refine wpList_store_row rfl 25 (.tmp 4) (.tmp 19) rfl q (scC (blankS C R) A2 N c2 none 0 0) rfl rfl 25 _ HQ2.out (info_sc.trans rfl) rfl (sc_one _ _ _ _ _ _ _) ?_))
  refine bodyPost_ret (v := .tuple #[.agg (scC (blankS C R) A2 N c2 none 0 0), .int .i64 0]) (results_row_tmp (p := 4) (u := 5) (ty := 25) rfl _ _ q 25 _ (0, 0) _ _ rfl rfl (setRow_heap w2 q _ _ _ _ HQ2.out) Tryz.underlying25 rfl (info_sc.trans rfl)) rfl ?_; exact ⟨A2, c2, rfl, OwnC.low (OwnC.keep HO2.out (fun j e => setRow_other _ _ _ _ (by have h1 := (OwnC.lt HO2.out j e).1; have h2 := HLQ.out; omega))) HB1.out.size, below_setRow HB2.out HQW.out _⟩
end Go.Proofs.YtndjggabdajbfaaGreatDoor



/- What the reference's Blanks, Of, New (of a grid) and Blank (of a screen) answer. Conditions: sizes that fit. -/
namespace Go.Proofs.YtndjggabdajbfaaGreatDoor
open Go Go.RowKit Go.Lib

theorem step_appC {ops : Array Oper} {o : Oper} {a : Act} {w : World} {K : Act → World → Prop} {Q : Exit → Act → World → Prop} {E : Prop} (hgd : o.guard = none) (s x : Operand)
    (ho : o.op = .call { callee := .builtin .append, args := #[s, x], argTypes := #[22, 22] })
    (B : Nat) (v : Value) (ds : List CeD) (hs : a.eval s = v) (hown : OwnC w B v ds)
    (A : Option Addr) (m c : Nat) (ns : List CeD) (hx : a.eval x = .slice A m c) (hm : ns.length = m) (hr : RdC w A ns)
    (hlen : ds.length + m ≤ 6000000000000) (hB : B ≤ w.heap.size)
    (h : ∀ v' w', Hid (OwnC w' B v' (ds ++ ns)) → w.grownBy w' v.ownBlock → K (a.put o.dst v') w') :
    if Region.wanted o (yielded ops a.tmps) = true then Oper.wp Tryz.prog o a w K Q else E := by
  rw [if_pos (wanted_none hgd)]
  obtain ⟨i0, hi, hz0, hz1, hz2⟩ := info_parts info_ce
  obtain ⟨v', w', hrun, h2, h3, h4⟩ := run_appC (P := Tryz.prog) w B 22 o.type 43 i0 _ 6 20 Tryz.underlying22 hi hz0 hz1 hz2 rfl (by decide) v ds.length (cellsC ds) hown A m c (cellsC ns) (by rw [cellsC_length, hm]) hr (cellsC_one _) (by unfold maxLen; omega) (by omega) hB
  unfold Oper.wp execOp
  simp only [ho, resolve, invoke, builtin, Sem.run_bind, Sem.run_pure, Result.andThen_ok, List.map_toArray, List.map_cons, List.map_nil, hs, hx, hrun]
  refine h v' w' (Lib.hid ?_) h3
  unfold OwnC
  rw [cellsC_append, List.length_append, hm]
  exact h2
theorem info_penB : (Tryz.prog.info? 41).map (·.size) = some 4 := by kernel_rfl
set_option maxRecDepth 100000 in
set_option maxHeartbeats 16000000 in
theorem refBlanks09_c (N : Nat) (w : World) (hN : N ≤ 80) :
    Calls Tryz.prog 47 #[.int .i64 (N : Int), penZ] w fun e w' => ∃ b, e = .returned (.slice (some ⟨b, 0, none⟩) N N) ∧ OwnC w' w.heap.size (.slice (some ⟨b, 0, none⟩) N N) (List.replicate N blankD) ∧ Below w.heap.size w w' := by
  obtain ⟨W0, eW0⟩ : ∃ W0, W0 = w.alloc (.cells #[.int .u32 0, .int .u32 0, .int .u8 0, .int .u16 0] 41) := ⟨_, rfl⟩
  obtain ⟨p, ep⟩ : ∃ p, p = w.heap.size := ⟨_, rfl⟩
  have HB0 : Hid (Below w.heap.size w W0) := Lib.hid (by rw [eW0]; exact (Below.refl _ _).alloc (Nat.le_refl _) _)
  have HP0 : Hid (W0.heap[p]? = some (.cells #[.int .u32 0, .int .u32 0, .int .u8 0, .int .u16 0] 41 (0, 0))) := Lib.hid (by rw [eW0, ep]; exact heap_alloc_new _ _)
  have EW0 := Lib.hid eW0
  have EP := Lib.hid ep
  clear eW0 ep
  show Calls _ _ #[.int .i64 (N : Int), .agg #[.int .u32 0, .int .u32 0, .int .u8 0, .int .u16 0]] w _
  go_enter Tryz.func47, Tryz.ntmps47
  go_upto_region 1 with (fail)
  rw [← EW0.out, ← EP.out]
  go_upto_region 2 with (at_make; refine wpList_makeC _ rfl (.tmp 7) (.tmp 7) rfl _ _ _ _ N rfl rfl rfl rfl (by omega) ?_; intro w1 h1 h2 _; have H1 := Lib.hid h1; have HB1 := Lib.hid h2; clear h1 h2)
  obtain ⟨b, eb⟩ : ∃ b, b = W0.heap.size := ⟨_, rfl⟩
  rw [← eb] at H1 ⊢
  have HO1 : Hid (OwnC w1 b (.slice (some ⟨b, 0, none⟩) N N) (halfB N 0)) := Lib.hid (by simpa [halfB] using H1.out)
  have HP1 := Lib.hid ((HB1.out.block p (heap_lt HP0.out)).trans HP0.out)
  have HW1 := Lib.hid (HB0.out.trans (HB1.out.mono HB0.out.size))
  have HS : Hid (p < b ∧ w.heap.size ≤ b) := Lib.hid ⟨by rw [eb]; exact heap_lt HP0.out, by rw [eb]; exact HB0.out.size⟩
  clear eb H1 HB1
  go_wp2_with (fail)
  go_loopw [11] (fun i wr => ∃ k : Nat, k ≤ N ∧ i = .int .i64 k ∧ Hid (OwnC wr b (.slice (some ⟨b, 0, none⟩) N N) (halfB N k)) ∧ Hid (wr.heap[p]? = some (.cells #[.int .u32 0, .int .u32 0, .int .u8 0, .int .u16 0] 41 (0, 0))) ∧ Hid (Below w.heap.size w wr)) (fun i _ => N - (intOf i).toNat)
  case atStart => exact ⟨0, Nat.zero_le _, rfl, HO1, HP1, HW1⟩
  case round =>
    obtain ⟨k, hk, rfl, HO, HP, HBW⟩ := hrel
    rcases Nat.lt_or_ge k N with hlt | hge
    · have hlt' : (k : Int) < (N : Int) := by omega
      obtain ⟨M, eM⟩ : ∃ M, M = halfB N k := ⟨_, rfl⟩
      have HML : Hid (M.length = N) := Lib.hid (by rw [eM]; exact halfB_len hk)
      have HM2 : Hid (M.set k blankD = halfB N (k + 1)) := Lib.hid (by rw [eM]; exact halfB_set hlt)
      have HOM : Hid (OwnC wr b (.slice (some ⟨b, 0, none⟩) N N) M) := Lib.hid (by rw [eM]; exact HO.out)
      clear eM HO
      go_upto_region 6 with (first
        | (refine wpList_load_row rfl 41 (.tmp 3) rfl p rfl 41 _ (0, 0) _ HP.out Tryz.underlying41 rfl (info_penB.trans rfl) ?_)
        | (go_at_call 69; (refine (refBlank08_c wr).mono ?_); rintro _ w4 ⟨rfl, hb4⟩; obtain ⟨yo, -, z0, z1, z2, z3, z4, z5⟩ := (OwnC.below HOM.out hb4).cellsAt k (by rw [HML.out]; exact hlt); have f0 := (OwnC.below HOM.out hb4).free (k * 6); have f1 := (OwnC.below HOM.out hb4).free (k * 6 + 1); have f2 := (OwnC.below HOM.out hb4).free (k * 6 + 2); have f3 := (OwnC.below HOM.out hb4).free (k * 6 + 3); have f4 := (OwnC.below HOM.out hb4).free (k * 6 + 4); have f5 := (OwnC.below HOM.out hb4).free (k * 6 + 5); have HO4 := Lib.hid (OwnC.below HOM.out hb4); have HK4 := Lib.hid hb4; clear hb4; rw [show blankD.val = .agg #[.int .i32 32, .int .u8 0, .int .u32 0, .int .u32 0, .int .u8 0, .int .u16 0] from rfl]))
      obtain ⟨W5, eW5⟩ : ∃ W5, W5 = (((((w4.setCell ⟨b, k * 6, none⟩ (.int .i32 blankD.r)).setCell ⟨b, k * 6 + 1, none⟩ (.int .u8 blankD.w)).setCell ⟨b, k * 6 + 2, none⟩ (.int .u32 blankD.fg)).setCell ⟨b, k * 6 + 3, none⟩ (.int .u32 blankD.bg)).setCell ⟨b, k * 6 + 4, none⟩ (.int .u8 blankD.at_)).setCell ⟨b, k * 6 + 5, none⟩ (.int .u16 blankD.ln) := ⟨_, rfl⟩
      have eW5' : (((((w4.setCell ⟨b, k * 6, none⟩ (.int .i32 32)).setCell ⟨b, k * 6 + 1, none⟩ (.int .u8 0)).setCell ⟨b, k * 6 + 2, none⟩ (.int .u32 0)).setCell ⟨b, k * 6 + 3, none⟩ (.int .u32 0)).setCell ⟨b, k * 6 + 4, none⟩ (.int .u8 0)).setCell ⟨b, k * 6 + 5, none⟩ (.int .u16 0) = W5 := by rw [eW5]; rfl
      rw [eW5']
      have hpb : p ≠ b := by have := HS.out.1; omega
      have HO5 : Hid (OwnC W5 b (.slice (some ⟨b, 0, none⟩) N N) (halfB N (k + 1))) := Lib.hid (by
        have h := HO4.out.setAll k (by rw [HML.out]; exact hlt) blankD
        rw [HM2.out] at h
        rw [eW5]; exact h)
      have HP5 := Lib.hid ((show W5.heap[p]? = wr.heap[p]? by rw [eW5]; exact (six_far _ _ _ _ _ _ _ _ _ _ _ _ _ _ _ hpb).trans (HK4.out.block p (heap_lt HP.out))).trans HP.out)
      have HB5 : Hid (Below w.heap.size w W5) := Lib.hid (by
        rw [eW5]; exact six_below (HBW.out.trans (HK4.out.mono HBW.out.size)) _ _ _ _ _ _ _ _ _ _ _ _ _ HS.out.2)
      clear z0 z1 z2 z3 z4 z5 f0 f1 f2 f3 f4 f5 eW5 eW5' hpb HO4 HK4
      go_wp2_with (fail)
      go_roundw
      case rel => exact ⟨k + 1, by omega, by go_num, HO5, HP5, HB5⟩
      case measure => simp [intOf]; omega
    · obtain rfl : N = k := by omega
      have hge' : ¬ ((N : Int) < (N : Int)) := by omega
      have HO9 : Hid (OwnC wr b (.slice (some ⟨b, 0, none⟩) N N) (List.replicate N blankD)) := Lib.hid (by have h := HO.out; rw [halfB_end] at h; exact h)
      clear hge hk HO
      go_wp2_with (fail)
      go_ret
      exact ⟨b, rfl, OwnC.low HO9.out HS.out.2, HBW.out⟩
/-- Rows of blanks, so wide. -/
def RowsB (w : World) (C : Nat) (vs : List Value) : Prop := ∀ v ∈ vs, ∃ A, v = .slice A C C ∧ RdC w A (List.replicate C blankD)
set_option maxRecDepth 100000 in
set_option maxHeartbeats 16000000 in
theorem Of_c (C R c : Nat) (A : Option Addr) (vs : List Value) (w : World) (hn : vs.length = R) (hr : Rd w A vs) (hv : RowsB w C vs) (hC : C ≤ 80) (hR : R ≤ 24) (hR1 : 1 ≤ R) :
    Calls Tryz.prog 48 #[.slice A R c] w fun e w' => ∃ A' c', e = .returned (.agg (gridA C R (.slice A' (R * C) c'))) ∧ OwnC w' w.heap.size (.slice A' (R * C) c') (List.replicate (R * C) blankD) ∧ Below w.heap.size w w' := by
  obtain ⟨W0, eW0⟩ : ∃ W0, W0 = w.alloc (.cells (gridA 0 0 (.slice none 0 0)) 72) := ⟨_, rfl⟩
  obtain ⟨q, eq⟩ : ∃ q, q = w.heap.size := ⟨_, rfl⟩
  have hb0 : Below w.heap.size w W0 := by rw [eW0]; exact (Below.refl _ _).alloc (Nat.le_refl _) _
  have HB0 := Lib.hid hb0
  have HQ0 : Hid (W0.heap[q]? = some (.cells (gridA 0 0 (.slice none 0 0)) 72 (0, 0))) := Lib.hid (by rw [eW0, eq]; exact heap_alloc_new _ _)
  have EW0 : Hid (w.alloc (.cells #[.int .i64 0, .int .i64 0, .slice none 0 0] 72) = W0) := Lib.hid (by rw [eW0]; rfl)
  have EQ := Lib.hid eq
  have HQW : Hid (w.heap.size ≤ q) := Lib.hid (Nat.le_of_eq eq.symm)
  have HR0 := Lib.hid hr
  have HV0 := Lib.hid hv
  have HNN := Lib.hid hn
  clear hb0 eW0 eq hr hv hn
  go_enter Tryz.func48, Tryz.ntmps48
  go_upto_region 1 with (fail)
  rw [EW0.out, ← EQ.out]
  go_upto_region 2 with (first
    | (refine wpList_store_rowTo rfl 72 (.tmp 3) (.tmp 7) rfl rfl W0.heap.size (gridA 0 (R : Int) (.slice none 0 0)) rfl rfl 72 _ (heap_alloc_new W0 _) (info_grid.trans rfl) rfl (gridA_one _ _ _ _ _) ?_))
  generalize eX : World.alloc W0 _ = X
  have hx : Below W0.heap.size W0 X := by rw [← eX]; exact (Below.refl _ _).alloc (Nat.le_refl _) _
  obtain ⟨old, hq2⟩ : ∃ old, X.heap[W0.heap.size]? = some (.cells old 72 (0, 0)) := ⟨_, by rw [← eX]; exact heap_alloc_new _ _⟩
  obtain ⟨g, eg⟩ : ∃ g, g = W0.heap.size := ⟨_, rfl⟩
  obtain ⟨W2, eW2⟩ : ∃ W2, W2 = X.setRow W0.heap.size (gridA 0 (R : Int) (.slice none 0 0)) := ⟨_, rfl⟩
  rw [← eW2, ← eg]
  have HG2 : Hid (W2.heap[g]? = some (.cells (gridA 0 (R : Int) (.slice none 0 0)) 72 (0, 0))) := Lib.hid (by rw [eW2, eg]; exact setRow_heap _ _ _ _ _ _ hq2)
  have hb2 : Below W0.heap.size W0 W2 := by rw [eW2]; exact below_setRow hx (Nat.le_refl _) _
  have HQ2 := Lib.hid ((hb2.block q (heap_lt HQ0.out)).trans HQ0.out)
  have HB2 := Lib.hid (HB0.out.trans (hb2.mono HB0.out.size))
  have HS : Hid (q < g ∧ w.heap.size ≤ g) := Lib.hid ⟨by rw [eg]; exact heap_lt HQ0.out, by rw [eg]; exact HB0.out.size⟩
  obtain ⟨base, ebase⟩ : ∃ base, base = W2.heap.size := ⟨_, rfl⟩
  have HBA : Hid (g < base ∧ w.heap.size ≤ base) := Lib.hid ⟨by rw [ebase]; exact heap_lt HG2.out, by rw [ebase]; exact HB2.out.size⟩
  have HBZ : Hid (base ≤ W2.heap.size) := Lib.hid (Nat.le_of_eq ebase)
  clear eX hx hq2 eg eW2 hb2 ebase
  go_wp2_with (fail)
  go_loopw [10] (fun i wr => ∃ (y : Nat) (A' : Option Addr) (c' : Nat), y ≤ R ∧ i = .int .i64 y ∧ Hid (OwnC wr base (.slice A' (y * C) c') (List.replicate (y * C) blankD)) ∧ Hid (wr.heap[g]? = some (.cells (gridA (if y = 0 then 0 else (C : Int)) (R : Int) (.slice A' (y * C) c')) 72 (0, 0))) ∧ Hid (wr.heap[q]? = some (.cells (gridA 0 0 (.slice none 0 0)) 72 (0, 0))) ∧ Hid (Below w.heap.size w wr) ∧ Hid (base ≤ wr.heap.size)) (fun i _ => R - (intOf i).toNat)
  case atStart => exact ⟨0, none, 0, Nat.zero_le _, rfl, Lib.hid (by rw [Nat.zero_mul]; exact OwnC.nil_ _ _), Lib.hid (by rw [Nat.zero_mul]; exact HG2.out), HQ2, HB2, HBZ⟩
  case round =>
    obtain ⟨y, A', c', hy, rfl, HO, HG, HQ, HBW, HZ⟩ := hrel
    rcases Nat.lt_or_ge y R with hlt | hge
    · have hlt' : (y : Int) < (R : Int) := by omega
      have hyl : y < vs.length := by rw [HNN.out]; exact hlt
      obtain ⟨Ay, ey, hry⟩ := HV0.out vs[y] (List.getElem_mem _)
      have HRY := Lib.hid hry
      obtain ⟨b, off, hA, hbl, hcell⟩ := Rd.addr (Rd.below HR0.out HBW.out) (by omega)
      subst hA
      have cy : wr.cell? ⟨b, off + y, none⟩ = some (.slice Ay C C) := by rw [← ey]; exact hcell y hyl
      have k0 : wr.cell? ⟨g, 0, none⟩ = some (.int .i64 (if y = 0 then 0 else (C : Int))) := heap_cell HG.out 0
      have fr0 := heap_free HG.out 0
      have HBL : Hid (b < wr.heap.size) := Lib.hid hbl
      have HCY := Lib.hid cy
      have HBN : Hid (b < w.heap.size) := Lib.hid (by
        rcases HR0.out with h | ⟨b2, o2, e2, h2, _⟩
        · rw [h] at hyl; simp at hyl
        · injection e2 with e2; injection e2 with e2; omega)
      clear hry hbl hcell hyl ey
      go_upto_region 6 with (fail)
      obtain ⟨W5, eW5⟩ : ∃ W5, W5 = wr.setCell ⟨g, 0, none⟩ (.int .i64 (C : Int)) := ⟨_, rfl⟩
      rw [← eW5]
      have hfar : ∀ j, j ≠ g → W5.heap[j]? = wr.heap[j]? := fun j hj => by rw [eW5]; exact heap_far _ hj
      have HG5 : Hid (W5.heap[g]? = some (.cells (gridA (C : Int) (R : Int) (.slice A' (y * C) c')) 72 (0, 0))) := Lib.hid (by rw [eW5]; exact heap_set HG.out 0 _)
      have HQ5 : Hid (W5.heap[q]? = some (.cells (gridA 0 0 (.slice none 0 0)) 72 (0, 0))) := Lib.hid ((hfar q (by have := HS.out.1; omega)).trans HQ.out)
      have HO5 : Hid (OwnC W5 base (.slice A' (y * C) c') (List.replicate (y * C) blankD)) := Lib.hid (OwnC.keep HO.out (fun j e => hfar j (by have h1 := (OwnC.lt HO.out j e).1; have h2 := HBA.out.1; omega)))
      have HB5 : Hid (Below w.heap.size w W5) := Lib.hid (by rw [eW5]; exact below_set HBW.out g _ _ HS.out.2)
      have hz5 : W5.heap.size = wr.heap.size := by rw [eW5]; simp [World.setCell]
      have HZ5 : Hid (base ≤ W5.heap.size) := Lib.hid (by rw [hz5]; exact HZ.out)
      have HRY5 : Hid (RdC W5 Ay (List.replicate C blankD)) := Lib.hid (RdC.below HRY.out HB5.out)
      have cy5 : W5.cell? ⟨b, off + y, none⟩ = some (.slice Ay C C) := (World.cell?_of_block (w := wr) (w' := W5) (a := ⟨b, off + y, none⟩) (hfar b (by have h1 := HBN.out; have h2 := HS.out.2; show b ≠ g; omega))).trans HCY.out
      have k2 : W5.cell? ⟨g, 2, none⟩ = some (.slice A' (y * C) c') := heap_cell HG5.out 2
      have fr2 := heap_free HG5.out 2
      have hmul : (y + 1) * C = y * C + C := Nat.succ_mul y C
      have hbd : y * C ≤ 1920 := by have := Nat.mul_le_mul (show y ≤ 24 by omega) hC; omega
      have HMU : Hid (List.replicate (y * C) blankD ++ List.replicate C blankD = List.replicate ((y + 1) * C) blankD) := Lib.hid (by rw [hmul, List.replicate_append_replicate])
      have HMN := Lib.hid hmul
      clear eW5 hfar hz5 cy k0 fr0 hmul
      go_region_law (first
        | (refine step_appC rfl (.tmp 20) (.tmp 24) rfl base _ (List.replicate (y * C) blankD) rfl HO5.out Ay C C (List.replicate C blankD) rfl (by simp) HRY5.out (by rw [List.length_replicate]; omega) HZ5.out ?_; intro v7 w7 HO7 hg7; have q7 := HO7.out; rw [HMU.out] at q7; obtain ⟨A7, c8, e7, -⟩ := q7.form; rw [List.length_replicate] at e7; subst e7; have HO8 := Lib.hid q7; clear q7 HO7; have c7 : w7.heap[g]? = W5.heap[g]? := hg7.block g (heap_lt HG5.out) (fun e => by have h1 := (OwnC.lt HO5.out g e.symm).1; have h2 := HBA.out.1; omega); have d7 : w7.heap[q]? = W5.heap[q]? := hg7.block q (heap_lt HQ5.out) (fun e => by have h1 := (OwnC.lt HO5.out q e.symm).1; have h2 := HBA.out.1; have h3 := HS.out.1; omega); have fr7 : w7.frozen? ⟨g, 2, none⟩ = false := heap_free (c7.trans HG5.out) 2; have k7 : w7.cell? ⟨g, 2, none⟩ = some (.slice A' (y * C) c') := heap_cell (c7.trans HG5.out) 2; have C7 := Lib.hid (c7.trans HG5.out); have D7 := Lib.hid (d7.trans HQ5.out); have G7 : Hid (W5.drew.grownBy w7 (Value.slice A' (y * C) c').ownBlock) := Lib.hid hg7; clear c7 d7 hg7))
      all_goals
        obtain ⟨W9, eW9⟩ : ∃ W9, W9 = w7.setCell ⟨g, 2, none⟩ (.slice A7 ((y + 1) * C) c8) := ⟨_, rfl⟩
        rw [← eW9]
        have hfar : ∀ j, j ≠ g → W9.heap[j]? = w7.heap[j]? := fun j hj => by rw [eW9]; exact heap_far _ hj
        have HG9 : Hid (W9.heap[g]? = some (.cells (gridA (if y + 1 = 0 then 0 else (C : Int)) (R : Int) (.slice A7 ((y + 1) * C) c8)) 72 (0, 0))) := Lib.hid (by rw [eW9, if_neg (Nat.succ_ne_zero y)]; exact heap_set C7.out 2 _)
        have HQ9 : Hid (W9.heap[q]? = some (.cells (gridA 0 0 (.slice none 0 0)) 72 (0, 0))) := Lib.hid ((hfar q (by have := HS.out.1; omega)).trans D7.out)
        have HO9 : Hid (OwnC W9 base (.slice A7 ((y + 1) * C) c8) (List.replicate ((y + 1) * C) blankD)) := Lib.hid (OwnC.keep HO8.out (fun j e => hfar j (by have h1 := (OwnC.lt HO8.out j e).1; have h2 := HBA.out.1; omega)))
        have HB9 : Hid (Below w.heap.size w W9) := Lib.hid (by rw [eW9]; exact below_set ((below_drewN HB5.out 1).grown G7.out HB5.out.size (fun j e => Nat.le_trans HBA.out.2 (OwnC.lt HO5.out j e).1)) g _ _ HS.out.2)
        have hz9 : W9.heap.size = w7.heap.size := by rw [eW9]; simp [World.setCell]
        have HZ9 : Hid (base ≤ W9.heap.size) := Lib.hid (by rw [hz9]; exact Nat.le_trans HZ5.out G7.out.size)
        clear eW9 hfar hz9 fr7 k7
        go_wp2_with (fail)
        go_roundw
        case rel => exact ⟨y + 1, A7, c8, by omega, by go_num, HO9, HG9, HQ9, HB9, HZ9⟩
        case measure => simp [intOf]; omega
    · obtain rfl : R = y := by omega
      have hge' : ¬ ((R : Int) < (R : Int)) := by omega
      have HG9 : Hid (wr.heap[g]? = some (.cells (gridA (C : Int) (R : Int) (.slice A' (R * C) c')) 72 (0, 0))) := Lib.hid (by have h := HG.out; rw [if_neg (by omega)] at h; exact h)
      clear hge hy HG
      go_wp2_with (first
        | (refine wpList_load_row rfl 72 (.tmp 3) rfl g rfl 72 _ (0, 0) _ HG9.out Tryz.underlying72 rfl (info_grid.trans rfl) ?_)
        | (refine wpList_store_rowTo rfl 72 (.tmp 2) (.tmp 28) rfl rfl q (gridA (C : Int) (R : Int) (.slice A' (R * C) c')) rfl rfl 72 _ HQ.out (info_grid.trans rfl) rfl (gridA_one _ _ _ _ _) ?_))
      refine bodyPost_ret (v := .agg (gridA (C : Int) (R : Int) (.slice A' (R * C) c'))) (results_cell_row (p := 2) (ty := 72) rfl _ _ q 72 _ (0, 0) _ rfl (setRow_heap wr q _ _ _ _ HQ.out) Tryz.underlying72 rfl (info_grid.trans rfl)) rfl ?_
      exact ⟨A', c', rfl, OwnC.low (OwnC.keep HO.out (fun j e => setRow_other _ _ _ _ (by have h1 := (OwnC.lt HO.out j e).1; have h2 := HBA.out.1; have h3 := HS.out.1; omega))) HBA.out.2, below_setRow HBW.out HQW.out _⟩
end Go.Proofs.YtndjggabdajbfaaGreatDoor



/- What the reference's New (of a grid) and Blank (of a screen) answer. Conditions: none. -/
namespace Go.Proofs.YtndjggabdajbfaaGreatDoor
open Go Go.RowKit Go.Lib

/-- Rows of blanks, each in a block of its own. -/
def RowsO (w : World) (B C : Nat) (vs : List Value) : Prop := ∀ v ∈ vs, ∃ b, v = .slice (some ⟨b, 0, none⟩) C C ∧ OwnC w B v (List.replicate C blankD)
theorem RowsO.below {w w' : World} {B C : Nat} {vs : List Value} (h : RowsO w B C vs) (hb : Below w.heap.size w w') : RowsO w' B C vs := fun v hv => by
  obtain ⟨b, e, r⟩ := h v hv
  exact ⟨b, e, OwnC.below r hb⟩
theorem RowsO.reads {w : World} {B C : Nat} {vs : List Value} (h : RowsO w B C vs) : RowsB w C vs := fun v hv => by
  obtain ⟨b, rfl, r⟩ := h v hv
  refine ⟨_, rfl, ?_⟩
  obtain ⟨A2, c2, e2, _, _, g, _⟩ := r.form
  injection e2 with e2
  rw [e2]; exact g
theorem row_apart {w : World} {B B' : Nat} {u v : Value} {ds : List CeD} {xs : List Value} (h1 : OwnC w B u ds) (h2 : Own w B' 22 v xs) : ∀ g, u.ownBlock = some g → v.ownBlock ≠ some g := by
  intro g hu hv
  rcases h1.2 with ⟨rfl, _⟩ | ⟨g1, cap, cur, rfl, _, hg, _⟩
  · cases hu
  · rcases h2.2 with ⟨rfl, _⟩ | ⟨g2, cap2, cur2, rfl, _, hg2, _⟩
    · cases hv
    · have e1 : g1 = g := by injection hu
      have e2 : g2 = g := by injection hv
      rw [e1] at hg
      rw [e2, hg] at hg2
      injection hg2 with hg2
      injection hg2 with _ h3 _
      exact absurd h3 (by decide)
theorem RowsO.app {w w1 w3 : World} {B B' C : Nat} {vs xs : List Value} {u : Value} (h : RowsO w B C vs) (hu : Own w B' 22 u xs) (h1 : Below w.heap.size w w1) (hg : w1.grownBy w3 u.ownBlock) : RowsO w3 B C vs := fun v hv => by
  obtain ⟨b, e, r⟩ := h v hv
  refine ⟨b, e, OwnC.keep r (fun j ej => ?_)⟩
  have hj := (OwnC.lt r j ej).2
  exact (hg.block j (Nat.lt_of_lt_of_le hj h1.size) (fun e2 => row_apart r hu j ej e2.symm)).trans (h1.block j hj)
theorem RowsO.add {w : World} {B C b : Nat} {vs : List Value} (h : RowsO w B C vs) (hr : OwnC w B (.slice (some ⟨b, 0, none⟩) C C) (List.replicate C blankD)) : RowsO w B C (vs ++ [.slice (some ⟨b, 0, none⟩) C C]) := fun v hv => by
  rcases List.mem_append.1 hv with hv | hv
  · exact h v hv
  · rw [List.mem_singleton] at hv; subst hv; exact ⟨b, rfl, hr⟩
set_option maxRecDepth 100000 in
set_option maxHeartbeats 16000000 in
theorem refNew09_c (C R N : Nat) (w : World) (hf : fitsI (C : Int) (R : Int) = true) (hN : N = C * R) :
    Calls Tryz.prog 29 #[.int .i64 (C : Int), .int .i64 (R : Int)] w fun e w' => ∃ A' c', e = .returned (.tuple #[.agg (gridA C R (.slice A' N c')), .int .i64 0]) ∧ OwnC w' w.heap.size (.slice A' N c') (List.replicate N blankD) ∧ Below w.heap.size w w' := by
  have hB : 1 ≤ C ∧ C ≤ 80 ∧ 1 ≤ R ∧ R ≤ 24 := by simp only [fitsI, Bool.and_eq_true, decide_eq_true_eq] at hf; omega
  have HBD := Lib.hid hB
  have HN := Lib.hid hN
  have f1 : decide ((C : Int) < 1) = false := decide_eq_false (by omega)
  have f2 : decide (80 < (C : Int)) = false := decide_eq_false (by omega)
  have f3 : decide ((R : Int) < 1) = false := decide_eq_false (by omega)
  have f4 : decide (24 < (R : Int)) = false := decide_eq_false (by omega)
  obtain ⟨W0, eW0⟩ : ∃ W0, W0 = w.alloc (.cells (gridA 0 0 (.slice none 0 0)) 72) := ⟨_, rfl⟩
  obtain ⟨q, eq⟩ : ∃ q, q = w.heap.size := ⟨_, rfl⟩
  have HB0 : Hid (Below w.heap.size w W0) := Lib.hid (by rw [eW0]; exact (Below.refl _ _).alloc (Nat.le_refl _) _)
  have HQ0 : Hid (W0.heap[q]? = some (.cells (gridA 0 0 (.slice none 0 0)) 72 (0, 0))) := Lib.hid (by rw [eW0, eq]; exact heap_alloc_new _ _)
  have EW0 : Hid (w.alloc (.cells #[.int .i64 0, .int .i64 0, .slice none 0 0] 72) = W0) := Lib.hid (by rw [eW0]; rfl)
  have EQ := Lib.hid eq
  have HQW : Hid (w.heap.size ≤ q) := Lib.hid (Nat.le_of_eq eq.symm)
  have HZ0 : Hid (W0.heap.size = q + 1) := Lib.hid (by rw [eW0, eq]; simp)
  clear hf hN eW0 eq hB
  go_enter Tryz.func29, Tryz.ntmps29
  go_upto_region 1 with (fail)
  rw [EW0.out, ← EQ.out]
  go_wp2_with (fail)
  clear f1 f2 f3 f4
  go_loopw [6, 7] (fun v i wr => ∃ (y : Nat) (vs : List Value), y ≤ R ∧ i = .int .i64 y ∧ Hid (Below w.heap.size w wr) ∧ Hid (wr.heap[q]? = some (.cells (gridA 0 0 (.slice none 0 0)) 72 (0, 0))) ∧ Hid (Own wr (q + 1) 22 v vs) ∧ Hid (vs.length = y) ∧ Hid (RowsO wr (q + 1) C vs)) (fun _ i _ => R - (intOf i).toNat)
  case atStart =>
    refine ⟨0, [], Nat.zero_le _, rfl, Lib.hid (HB0.out.alloc HB0.out.size _), Lib.hid ((Below.heap_alloc _ _ _ (heap_lt HQ0.out)).trans HQ0.out), Lib.hid ?_, Lib.hid rfl, Lib.hid (fun v hv => by cases hv)⟩
    have hz : W0.heap.size = q + 1 := HZ0.out
    have := World.ownsRow_made W0 (e := 22) (base := q + 1) (size := 1) #[] 0 (by rw [hz]; exact Nat.le_refl _) (Nat.zero_le _) rfl
    simpa [Own] using this
  case round =>
    obtain ⟨y, vs, hy, rfl, HB, HQ, HO, HL, HV⟩ := hrel
    rcases Nat.lt_or_ge y R with hlt | hge
    · have hlt' : (y : Int) < (R : Int) := by omega
      have hr24 : R ≤ 24 := HBD.out.2.2.2
      have HSZ : Hid (q < wr.heap.size) := Lib.hid (heap_lt HQ.out)
      go_wp2_with (first
        | (go_at_call 47; (refine (refBlanks09_c C wr HBD.out.2.1).mono ?_); rintro _ w1 ⟨b, rfl, ho1, hb1⟩; have HR1 : Hid (RdC w1 (some ⟨b, 0, none⟩) (List.replicate C blankD)) := Lib.hid (by obtain ⟨A2, c2, e2, _, _, h, _⟩ := ho1.form; injection e2 with e2; rw [e2]; exact h); have HB1 := Lib.hid (HB.out.trans (hb1.mono HB.out.size)); have HQ1 := Lib.hid ((hb1.block q HSZ.out).trans HQ.out); have HO1 := Lib.hid (Own.below HO.out hb1); have HV1 : Hid (RowsO w1 (q + 1) C (vs ++ [.slice (some ⟨b, 0, none⟩) C C])) := Lib.hid ((HV.out.below hb1).add (OwnC.low ho1 (by have := HSZ.out; omega))); have HS1 := Lib.hid (Nat.lt_of_lt_of_le HSZ.out hb1.size); clear ho1 hb1)
        | (at_builtin; go_must (refine wpList_appRw1 w1 rfl (.tmp 29) (.tmp 33) rfl (q + 1) u6 vs rfl HO1.out (.slice (some ⟨b, 0, none⟩) C C) rfl rfl (by have := HL.out; have := HBD.out; omega) (by have := HS1.out; omega) ?_); intro v3 w3 h3 hg3; have hA : Below (q + 1) w1 (w1.alloc (.cells #[.slice (some ⟨b, 0, none⟩) C C] 22)) := (Below.refl _ _).alloc (by have := HS1.out; omega) _; have HB3 := Lib.hid (hA.grown hg3 (by have := HS1.out; simp; omega) (fun k hk => (Own.lt HO1.out k hk).1)); have HO3 := Lib.hid h3; have HG3 := Lib.hid hg3; clear h3 hg3 hA))
      go_roundw
      case rel => exact ⟨y + 1, _, by omega, by go_num, Lib.hid (HB1.out.trans (HB3.out.mono (Nat.le_trans HQW.out (Nat.le_succ q)))), Lib.hid ((HB3.out.block q (Nat.lt_succ_self q)).trans HQ1.out), HO3, Lib.hid (by rw [List.length_append, HL.out]; rfl), Lib.hid (HV1.out.app HO1.out ((Below.refl _ _).alloc (Nat.le_refl _) _) HG3.out)⟩
      case measure => simp [intOf]; omega
    · obtain rfl : R = y := by omega
      have hge' : ¬ ((R : Int) < (R : Int)) := by omega
      obtain ⟨A6, c6, rfl, _, _, hr6, _⟩ := Own.form HO.out
      have HR6 := Lib.hid hr6
      rw [HL.out]
      have HBE : Hid (w.heap.size ≤ wr.heap.size) := Lib.hid HB.out.size
      clear hr6
      go_wp2_with (first
        | (go_at_call 48; (refine (Of_c C R c6 A6 vs wr HL.out HR6.out HV.out.reads HBD.out.2.1 HBD.out.2.2.2 HBD.out.2.2.1).mono ?_); rintro _ w2 ⟨A2, c2, rfl, ho2, hb2⟩; rw [show R * C = N by rw [HN.out, Nat.mul_comm]] at ho2 ⊢; have HO2 := Lib.hid ho2; have HQ2 := Lib.hid ((hb2.block q (heap_lt HQ.out)).trans HQ.out); have HB2 := Lib.hid (HB.out.trans (hb2.mono HB.out.size)); have HQL : Hid (q < wr.heap.size) := Lib.hid (heap_lt HQ.out); clear ho2 hb2)
        | (refine wpList_store_rowTo rfl 72 (.tmp 4) (.tmp 36) rfl rfl q (gridA (C : Int) (R : Int) (.slice A2 N c2)) rfl rfl 72 _ HQ2.out (info_grid.trans rfl) rfl (gridA_one _ _ _ _ _) ?_))
      refine bodyPost_ret (v := .tuple #[.agg (gridA (C : Int) (R : Int) (.slice A2 N c2)), .int .i64 0]) (results_row_tmp (p := 4) (u := 5) (ty := 72) rfl _ _ q 72 _ (0, 0) _ _ rfl rfl (setRow_heap w2 q _ _ _ _ HQ2.out) Tryz.underlying72 rfl (info_grid.trans rfl)) rfl ?_
      exact ⟨A2, c2, rfl, OwnC.low (OwnC.keep HO2.out (fun j e => setRow_other _ _ _ _ (by have h1 := (OwnC.lt HO2.out j e).1; have h2 := HQL.out; omega))) HBE.out, below_setRow HB2.out HQW.out _⟩
set_option maxRecDepth 100000 in
set_option maxHeartbeats 8000000 in
theorem refBlank15_c (C R N : Nat) (w : World) (hf : fitsI (C : Int) (R : Int) = true) (hN : N = C * R) :
    Calls Tryz.prog 12 #[.int .i64 (C : Int), .int .i64 (R : Int)] w fun e w' => ∃ A' c', e = .returned (.tuple #[.agg (scC (blankS C R) A' N c' none 0 0), .int .i64 0]) ∧ OwnC w' w.heap.size (.slice A' N c') (List.replicate N blankD) ∧ Below w.heap.size w w' := by
  have HF := Lib.hid hf
  have HN := Lib.hid hN
  obtain ⟨W0, eW0⟩ : ∃ W0, W0 = w.alloc (.cells (scC scZ none 0 0 none 0 0) 25) := ⟨_, rfl⟩
  obtain ⟨q, eq⟩ : ∃ q, q = w.heap.size := ⟨_, rfl⟩
  have hb0 : Below w.heap.size w W0 := by rw [eW0]; exact (Below.refl _ _).alloc (Nat.le_refl _) _
  have HB0 := Lib.hid hb0
  have HQ0 : Hid (ScB W0 q scZ none 0 0 none 0 0) := Lib.hid (by rw [eW0, eq]; exact heap_alloc_new _ _)
  have EW0 : Hid (w.alloc (.cells #[.int .i64 0, .int .i64 0, .slice none 0 0, .int .i64 0, .int .i64 0, .bool false, .int .u8 0, .string { data := #[] }, .slice none 0 0] 25) = W0) := Lib.hid (by rw [eW0]; rfl)
  have EQ := Lib.hid eq
  have HQW : Hid (w.heap.size ≤ q) := Lib.hid (Nat.le_of_eq eq.symm)
  clear hb0 eW0 eq hf hN
  go_enter Tryz.func12, Tryz.ntmps12
  go_upto_region 1 with (fail)
  rw [EW0.out, ← EQ.out]
  go_upto_region 2 with (first
    | (go_at_call 29; (with_reducible refine (refNew09_c C R N W0 HF.out HN.out).mono ?_); rintro _ w1 ⟨A1, c1, rfl, ho1, hb1⟩; have HO1 := Lib.hid ho1; have HQ1 := Lib.hid (HQ0.out.below hb1); have HB1 := Lib.hid (HB0.out.trans (hb1.mono HB0.out.size)); clear ho1 hb1)
    | (refine wpList_store_rowTo rfl 72 (.tmp 6) (.tmp 12) rfl rfl w1.heap.size (gridA (C : Int) (R : Int) (.slice A1 N c1)) rfl rfl 72 _ (heap_alloc_new w1 _) (info_grid.trans rfl) rfl (gridA_one _ _ _ _ _) ?_))
  generalize eX : World.alloc w1 _ = X
  have hx : Below w1.heap.size w1 X := by rw [← eX]; exact (Below.refl _ _).alloc (Nat.le_refl _) _
  obtain ⟨old, hq2⟩ : ∃ old, X.heap[w1.heap.size]? = some (.cells old 72 (0, 0)) := ⟨_, by rw [← eX]; exact heap_alloc_new _ _⟩
  obtain ⟨g, eg⟩ : ∃ g, g = w1.heap.size := ⟨_, rfl⟩
  obtain ⟨W2, eW2⟩ : ∃ W2, W2 = X.setRow w1.heap.size (gridA (C : Int) (R : Int) (.slice A1 N c1)) := ⟨_, rfl⟩
  rw [← eW2, ← eg]
  have hg2 : W2.heap[g]? = some (.cells (gridA (C : Int) (R : Int) (.slice A1 N c1)) 72 (0, 0)) := by rw [eW2, eg]; exact setRow_heap _ _ _ _ _ _ hq2
  have hb2 : Below w1.heap.size w1 W2 := by rw [eW2]; exact below_setRow hx (Nat.le_refl _) _
  have y2 : W2.cell? ⟨g, 2, none⟩ = some (.slice A1 N c1) := heap_cell hg2 2
  have HQ2 := Lib.hid (HQ1.out.below hb2)
  have HB2 := Lib.hid (HB1.out.trans (hb2.mono HB1.out.size))
  have HO2 := Lib.hid (OwnC.below HO1.out hb2)
  have HQL : Hid (q < W0.heap.size) := Lib.hid (heap_lt HQ0.out)
  clear eX hx hq2 eg eW2 hg2 hb2
  go_wp2_with (first
    | (refine wpList_store_row rfl 25 (.tmp 4) (.tmp 22) rfl q (scC (blankS C R) A1 N c1 none 0 0) rfl rfl 25 _ HQ2.out (info_sc.trans rfl) rfl (sc_one _ _ _ _ _ _ _) ?_))
  refine bodyPost_ret (v := .tuple #[.agg (scC (blankS C R) A1 N c1 none 0 0), .int .i64 0]) (results_row_tmp (p := 4) (u := 5) (ty := 25) rfl _ _ q 25 _ (0, 0) _ _ rfl rfl (setRow_heap W2 q _ _ _ _ HQ2.out) Tryz.underlying25 rfl (info_sc.trans rfl)) rfl ?_
  exact ⟨A1, c1, rfl, OwnC.low (OwnC.keep HO2.out (fun j e => setRow_other _ _ _ _ (by have h1 := (OwnC.lt HO2.out j e).1; have h2 := HQL.out; omega))) HB0.out.size, below_setRow HB2.out HQW.out _⟩
end Go.Proofs.YtndjggabdajbfaaGreatDoor


