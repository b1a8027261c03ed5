/- Parts one behind the other: What emul.New, links.Canon (cells without links), Term.Screen of a new terminal and project.Blank answer; What links.Canon (cells without links), Term.Screen of a new terminal and project.Blank answer. Conditions: as told at each. -/
import Derived.Test.YtipofokinjkclaaDoorPC17

set_option linter.unusedVariables false
set_option linter.unusedSimpArgs false
/- What emul.New, links.Canon (cells without links), Term.Screen of a new terminal and project.Blank answer. Conditions: none. -/
namespace Go.Proofs.YtipofokinjkclaaDoor
open Go Go.RowKit Go.Lib

def termA (C R : Int) (b d N : Nat) (a : Option Addr) : Array Value := #[.int .i64 0, .int .i64 0, .int .u32 0, .int .u32 0, .int .u8 0, .int .u16 0, .bool false, .int .i64 C, .int .i64 R, .int .i64 C, .int .i64 R, .slice (some ⟨b, 0, none⟩) N N, .int .i64 C, .int .i64 R, .slice (some ⟨d, 0, none⟩) N N, .int .i64 0, .bool false, .int .i64 0, .int .i64 0, .bool true, .bool false, .bool false, .int .u8 0, .bool false, .bool false, .bool false, .bool false, .bool false, .bool false, .bool false, .bool false, .bool false, .bool false, .bool false, .bool false, .bool false, .bool false, .bool false, .bool false, .bool false, .bool false, .bool false, .bool false, .bool false, .bool false, .bool false, .bool false, .bool false, .bool false, .bool false, .bool false, .bool false, .bool false, .bool false, .bool false, .bool false, .bool false, .bool false, .bool false, .bool false, .bool false, .bool false, .bool false, .bool false, .bool false, .bool false, .bool false, .bool false, .bool false, .bool false, .bool false, .bool false, .bool false, .bool false, .bool false, .bool false, .bool false, .bool false, .bool false, .bool false, .bool false, .bool false, .bool false, .bool false, .bool false, .bool false, .bool false, .bool false, .bool false, .bool false, .bool false, .bool false, .bool false, .bool false, .bool false, .bool false, .bool false, .bool false, .bool false, .bool false, .bool false, .bool false, .bool false, .int .i64 0, .int .i64 0, .int .u32 0, .int .u32 0, .int .u8 0, .int .u16 0, .bool false, .string ⟨#[]⟩, .slice none 0 0, .int .i32 0, .pointer a]
theorem termA_C (C R : Int) (b d N : Nat) (a : Option Addr) : TermC (termA C R b d N a) C R (.slice (some ⟨b, 0, none⟩) N N) := by
  unfold termA
  exact ⟨rfl, rfl, rfl, rfl, rfl, rfl, rfl, rfl, rfl, rfl, rfl, rfl, rfl⟩
def Rl.ptr : Rl := ⟨fun _ v => ∃ a, v = .pointer a, fun h _ => h⟩
def Rl.term (C R : Int) (b N : Nat) (v : Value) : Rl := ⟨fun _ u => ∃ d a, u = .agg (termA C R b d N a), fun h _ => h⟩
def Rl.termB (B : Nat) (C R : Int) (v : Value) : Rl := ⟨fun w u => ∃ g, u = .pointer (some ⟨g, 0, none⟩) ∧ B ≤ g ∧ TermB w g C R v, fun ⟨g, h, hB, r⟩ hb => ⟨g, h, hB, r.below hb⟩⟩
set_option maxRecDepth 100000 in
set_option maxHeartbeats 16000000 in
theorem emulNew_c (C R N : Nat) (w : World) (hf : fitsI (C : Int) (R : Int) = true) (hN : N = C * R) :
    Calls Tryd.prog 68 #[.int .i64 (C : Int), .int .i64 (R : Int)] w fun e w' => ∃ b g, e = .returned (.tuple #[.pointer (some ⟨g, 0, none⟩), .int .i64 0]) ∧ OwnC w' w.heap.size (.slice (some ⟨b, 0, none⟩) N N) (List.replicate N blankD) ∧ TermB w' g (C : Int) (R : Int) (.slice (some ⟨b, 0, none⟩) N N) ∧ Below w.heap.size w w' := by
  have HR : Hid (1 ≤ R ∧ R ≤ 24) := Lib.hid (by simp only [fitsI, Bool.and_eq_true, decide_eq_true_eq] at hf; omega)
  have HF := Lib.hid hf
  have HN := Lib.hid hN
  clear hf hN
  go_enter Tryd.func68, Tryd.ntmps68
  go_upto_region 2 with (first
    | (go_at_call 108; (with_reducible refine (gridNew_c C R N w HF.out HN.out).mono ?_); rintro _ w1 ⟨b, rfl, ho1, hb1⟩; have HO1 := Lib.hid ho1; have HB1 := Lib.hid hb1; clear ho1 hb1)
    | (refine wpList_store_rowTo rfl 67 (.tmp 6) (.tmp 15) rfl rfl w1.heap.size (gridA (C : Int) (R : Int) (.slice (some ⟨b, 0, none⟩) N N)) rfl rfl 67 _ (heap_alloc_new w1 _) (info_grid.trans rfl) rfl (gridA_one _ _ _ _ _) ?_))
  generalize eX : World.alloc w1 _ = X
  have hx : Below w1.heap.size w1 X := by rw [← eX]; exact (Below.refl _ _).alloc (Nat.le_refl _) _
  obtain ⟨old, hq2⟩ : ∃ old, X.heap[w1.heap.size]? = some (.cells old 67 (0, 0)) := ⟨_, by rw [← eX]; exact heap_alloc_new _ _⟩
  obtain ⟨g1, eg⟩ : ∃ g, g = w1.heap.size := ⟨_, rfl⟩
  obtain ⟨W2, eW2⟩ : ∃ W2, W2 = X.setRow w1.heap.size (gridA (C : Int) (R : Int) (.slice (some ⟨b, 0, none⟩) N N)) := ⟨_, rfl⟩
  rw [← eW2, ← eg]
  have HG2 : Hid (W2.heap[g1]? = some (.cells (gridA (C : Int) (R : Int) (.slice (some ⟨b, 0, none⟩) N N)) 67 (0, 0))) := Lib.hid (by rw [eW2, eg]; exact setRow_heap _ _ _ _ _ _ hq2)
  have hb2 : Below w1.heap.size w1 W2 := by rw [eW2]; exact below_setRow hx (Nat.le_refl _) _
  have HO2 : Hid (OwnC W2 w.heap.size (.slice (some ⟨b, 0, none⟩) N N) (List.replicate N blankD)) := Lib.hid (OwnC.below HO1.out hb2)
  have HB2 : Hid (Below w.heap.size w W2) := Lib.hid (HB1.out.trans (hb2.mono HB1.out.size))
  clear eX hx hq2 eg eW2 hb2 HO1 HB1
  go_upto_region 5 with (first
    | (go_at_call 108; (with_reducible refine (gridNew_c C R N W2 HF.out HN.out).mono ?_); rintro _ w3 ⟨d, rfl, ho3, hb3⟩; have HB3 := Lib.hid hb3; clear ho3 hb3)
    | (refine wpList_store_rowTo rfl 67 (.tmp 8) (.tmp 24) rfl rfl w3.heap.size (gridA (C : Int) (R : Int) (.slice (some ⟨d, 0, none⟩) N N)) rfl rfl 67 _ (heap_alloc_new w3 _) (info_grid.trans rfl) rfl (gridA_one _ _ _ _ _) ?_))
  generalize eX : World.alloc w3 _ = X3
  have hx : Below w3.heap.size w3 X3 := by rw [← eX]; exact (Below.refl _ _).alloc (Nat.le_refl _) _
  obtain ⟨old3, hq4⟩ : ∃ old, X3.heap[w3.heap.size]? = some (.cells old 67 (0, 0)) := ⟨_, by rw [← eX]; exact heap_alloc_new _ _⟩
  obtain ⟨g2, eg⟩ : ∃ g, g = w3.heap.size := ⟨_, rfl⟩
  obtain ⟨W4, eW4⟩ : ∃ W4, W4 = X3.setRow w3.heap.size (gridA (C : Int) (R : Int) (.slice (some ⟨d, 0, none⟩) N N)) := ⟨_, rfl⟩
  rw [← eW4, ← eg]
  have HH4 : Hid (W4.heap[g2]? = some (.cells (gridA (C : Int) (R : Int) (.slice (some ⟨d, 0, none⟩) N N)) 67 (0, 0))) := Lib.hid (by rw [eW4, eg]; exact setRow_heap _ _ _ _ _ _ hq4)
  have hb4 : Below W2.heap.size W2 W4 := by rw [eW4]; exact below_setRow (HB3.out.trans (hx.mono HB3.out.size)) HB3.out.size _
  have HG4 := Lib.hid ((hb4.block g1 (heap_lt HG2.out)).trans HG2.out)
  have HO4 : Hid (OwnC W4 w.heap.size (.slice (some ⟨b, 0, none⟩) N N) (List.replicate N blankD)) := Lib.hid (OwnC.below HO2.out hb4)
  have HB4 : Hid (Below w.heap.size w W4) := Lib.hid (HB2.out.trans (hb4.mono HB2.out.size))
  clear eX hx hq4 eg eW4 hb4 HO2 HB2 HG2 HB3
  refine wp_region_rw 37 [Rl.eq (.int .i64 (C : Int)), Rl.eq (.int .i64 (R : Int)), Rl.eq (.agg (gridA (C : Int) (R : Int) (.slice (some ⟨b, 0, none⟩) N N))), Rl.eq (.agg (gridA (C : Int) (R : Int) (.slice (some ⟨d, 0, none⟩) N N))), Rl.eq (.agg #[.int .i64 (C : Int), .int .i64 (R : Int), .slice (some ⟨b, 0, none⟩) N N, .int .i64 (C : Int), .int .i64 (R : Int), .slice (some ⟨d, 0, none⟩) N N]), Rl.ptr, Rl.term (C : Int) (R : Int) b N (.slice (some ⟨b, 0, none⟩) N N), Rl.termB W4.heap.size (C : Int) (R : Int) (.slice (some ⟨b, 0, none⟩) N N), Rl.termB W4.heap.size (C : Int) (R : Int) (.slice (some ⟨b, 0, none⟩) N N)] [26, 27, 28, 29, 30, 31, 32, 33, 10] (by kernel_rfl) rfl (by kernel_rfl) (by kernel_rfl) ?_ ?_
  · repeat (first | exact AllFrom.nil_ | (refine AllFrom.cons_ (by rfl) ?_ ?_; rotate_left))
    · intro f w' g_ hF hD
      have h0 : f 0 = .int .i64 (C : Int) := hF 0 (by kernel_rfl)
      rw [if_pos (wanted_none rfl)]
      clear hF hD
      exact gives_val (by simp only [execOp, evF, h0]; first | rfl | go_simp) ⟨Gr.refl _, rfl⟩
    · intro f w' g_ hF hD
      have h1 : f 1 = .int .i64 (R : Int) := hF 1 (by kernel_rfl)
      rw [if_pos (wanted_none rfl)]
      clear hF hD
      exact gives_val (by simp only [execOp, evF, h1]; first | rfl | go_simp) ⟨Gr.refl _, rfl⟩
    · intro f w' g_ hF hD
      have h6 : f 6 = .pointer (some ⟨g1, 0, none⟩) := hF 6 (by kernel_rfl)
      rw [if_pos (wanted_none rfl)]
      clear hF hD
      have kg : Below W4.heap.size W4 w' := (below_drewN (Below.refl _ _) 1).trans g_
      exact gives_load_row 67 (.tmp 6) rfl g1 (by simp only [evF, h6]) 67 (gridA (C : Int) (R : Int) (.slice (some ⟨b, 0, none⟩) N N)) (0, 0) _ ((kg.block g1 (heap_lt HG4.out)).trans HG4.out) Tryd.underlying67 rfl (info_grid.trans rfl) ⟨Gr.refl _, rfl⟩
    · intro f w' g_ hF hD
      have h8 : f 8 = .pointer (some ⟨g2, 0, none⟩) := hF 8 (by kernel_rfl)
      rw [if_pos (wanted_none rfl)]
      clear hF hD
      have kg : Below W4.heap.size W4 w' := (below_drewN (Below.refl _ _) 1).trans g_
      exact gives_load_row 67 (.tmp 8) rfl g2 (by simp only [evF, h8]) 67 (gridA (C : Int) (R : Int) (.slice (some ⟨d, 0, none⟩) N N)) (0, 0) _ ((kg.block g2 (heap_lt HH4.out)).trans HH4.out) Tryd.underlying67 rfl (info_grid.trans rfl) ⟨Gr.refl _, rfl⟩
    · intro f w' g_ hF hD
      have h28 : f 28 = (.agg (gridA (C : Int) (R : Int) (.slice (some ⟨b, 0, none⟩) N N))) := hD 2 28 (by kernel_rfl) rfl
      have h29 : f 29 = (.agg (gridA (C : Int) (R : Int) (.slice (some ⟨d, 0, none⟩) N N))) := hD 3 29 (by kernel_rfl) rfl
      rw [if_pos (wanted_none rfl)]
      clear hF hD
      exact gives_build 132 _ rfl #[.int .i64 (C : Int), .int .i64 (R : Int), .slice (some ⟨b, 0, none⟩) N N, .int .i64 (C : Int), .int .i64 (R : Int), .slice (some ⟨d, 0, none⟩) N N] (by simp only [List.map_toArray, List.map_cons, List.map_nil, evF, h28, h29]; kernel_rfl) ⟨Gr.refl _, rfl⟩
    · intro f w' g_ hF hD
      rw [if_pos (wanted_none rfl)]
      clear hF hD
      refine gives_func rfl Tryd.func109 (by kernel_rfl) rfl (args := #[]) (by simp) ((parseNew_c w').mono ?_)
      rintro e w'' ⟨a, rfl, hb⟩
      exact ⟨_, rfl, hb, a, rfl⟩
    · intro f w' g_ hF hD
      have h26 : f 26 = (.int .i64 (C : Int)) := hD 0 26 (by kernel_rfl) rfl
      have h27 : f 27 = (.int .i64 (R : Int)) := hD 1 27 (by kernel_rfl) rfl
      have h30 : f 30 = (.agg #[.int .i64 (C : Int), .int .i64 (R : Int), .slice (some ⟨b, 0, none⟩) N N, .int .i64 (C : Int), .int .i64 (R : Int), .slice (some ⟨d, 0, none⟩) N N]) := hD 4 30 (by kernel_rfl) rfl
      have q31 := hD 5 31 (by kernel_rfl) rfl
      rw [if_pos (wanted_none rfl)]
      clear hF hD
      obtain ⟨a, ha⟩ := q31
      exact gives_build 139 _ rfl (termA (C : Int) (R : Int) b d N a) (by simp only [List.map_toArray, List.map_cons, List.map_nil, evF, h26, h27, h30, ha]; kernel_rfl) ⟨Gr.refl _, d, a, rfl⟩
    · intro f w' g_ hF hD
      have q32 := hD 6 32 (by kernel_rfl) rfl
      rw [if_pos (wanted_none rfl)]
      clear hF hD
      have kg : Below W4.heap.size W4 w' := (below_drewN (Below.refl _ _) 1).trans g_
      obtain ⟨d', a', ht⟩ := q32
      exact gives_val (by simp only [execOp, evF, ht]; first | rfl | go_simp) ⟨(Below.refl _ _).alloc (Nat.le_refl _) _, w'.heap.size, rfl, kg.size, _, heap_alloc_new _ _, termA_C _ _ _ _ _ _⟩
    · intro f w' g_ hF hD
      have q33 := hD 7 33 (by kernel_rfl) rfl
      rw [if_pos (wanted_none rfl)]
      clear hF hD
      exact gives_val (by simp only [execOp, evF]; first | rfl | go_simp) ⟨Gr.refl _, q33⟩
  intro f w5 gg hD
  obtain ⟨g, h10, hgB, ht5⟩ : ∃ g, f 10 = .pointer (some ⟨g, 0, none⟩) ∧ W4.heap.size ≤ g ∧ TermB w5 g (C : Int) (R : Int) (.slice (some ⟨b, 0, none⟩) N N) := hD 8 10 rfl
  have kg : Below W4.heap.size W4 w5 := (below_drewN (Below.refl _ _) 1).trans gg
  obtain ⟨g', h33, _, _⟩ : ∃ g, f 33 = .pointer (some ⟨g, 0, none⟩) ∧ W4.heap.size ≤ g ∧ TermB w5 g (C : Int) (R : Int) (.slice (some ⟨b, 0, none⟩) N N) := hD 7 33 rfl
  simp only [putAll, List.setIfInBounds_toArray, List.set_cons_zero, List.set_cons_succ, h10, h33]
  have HO5 := Lib.hid (OwnC.below HO4.out kg)
  have HB5 := Lib.hid (HB4.out.trans (kg.mono HB4.out.size))
  have HT5 := Lib.hid ht5
  have HGW : Hid (w.heap.size ≤ g ∧ b < g) := Lib.hid ⟨Nat.le_trans HB4.out.size hgB, Nat.lt_of_lt_of_le (OwnC.lt HO4.out b rfl).2 hgB⟩
  clear hD gg kg h10 h33 ht5 hgB
  go_wp2_with (go_at_call 110; (with_reducible refine (frame_c g (C : Int) R (.slice (some ⟨b, 0, none⟩) N N) w5 HT5.out HR.out.1 HR.out.2).mono ?_); rintro _ w6 ⟨rfl, ht6, hy6⟩; have HT6 := Lib.hid ht6; have HY6 := Lib.hid hy6; clear ht6 hy6)
  go_ret2
  exact ⟨b, g, rfl, OwnC.keep HO5.out (fun j e => HY6.out.blk j (by have e2 : some b = some j := e; injection e2 with e2; have := HGW.out.2; omega)), HT6.out, HY6.out.low HGW.out.1 HB5.out⟩
set_option maxRecDepth 100000 in
set_option maxHeartbeats 4000000 in
theorem emulNew_bad (cols rows : Int) (w : World) (hf : fitsI cols rows = false) :
    Calls Tryd.prog 68 #[.int .i64 cols, .int .i64 rows] w fun e w' => e = .returned (.tuple #[.pointer none, .int .i64 1]) ∧ Below w.heap.size w w' := by
  have HF := Lib.hid hf
  clear hf
  go_enter Tryd.func68, Tryd.ntmps68
  go_upto_region 2 with (first
    | (go_at_call 108; (with_reducible refine (gridNew_bad cols rows w HF.out).mono ?_); rintro _ w1 ⟨rfl, hb1⟩; have HB1 := Lib.hid hb1; clear hb1)
    | (refine wpList_store_rowTo rfl 67 (.tmp 6) (.tmp 15) rfl rfl w1.heap.size (gridA 0 0 (.slice none 0 0)) rfl rfl 67 _ (heap_alloc_new w1 _) (info_grid.trans rfl) rfl (gridA_one _ _ _ _ _) ?_))
  generalize eX : World.alloc w1 _ = X
  have hx : Below w1.heap.size w1 X := by rw [← eX]; exact (Below.refl _ _).alloc (Nat.le_refl _) _
  obtain ⟨W2, eW2⟩ : ∃ W2, W2 = X.setRow w1.heap.size (gridA 0 0 (.slice none 0 0)) := ⟨_, rfl⟩
  rw [← eW2]
  have HB2 : Hid (Below w.heap.size w W2) := Lib.hid (by rw [eW2]; exact below_setRow (HB1.out.trans (hx.mono HB1.out.size)) HB1.out.size _)
  clear eX hx eW2
  go_wp2_with (fail)
  go_ret2
  exact ⟨rfl, HB2.out⟩
end Go.Proofs.YtipofokinjkclaaDoor

/- What links.Canon (cells without links), Term.Screen of a new terminal and project.Blank answer. Conditions: none. -/
namespace Go.Proofs.YtipofokinjkclaaDoor
open Go Go.RowKit Go.Lib

theorem set_same {α : Type} {l : List α} {j : Nat} {u : α} (h : l[j]? = some u) : l.set j u = l := by
  apply List.ext_getElem?
  intro i
  rw [List.getElem?_set]
  by_cases e : j = i
  · subst e
    rw [if_pos rfl, h]
    obtain ⟨hj, _⟩ := List.getElem?_eq_some_iff.1 h
    rw [if_pos hj]
  · rw [if_neg e]
theorem OwnC.again {w : World} {B g n c : Nat} {ds : List CeD} (h : OwnC w B (.slice (some ⟨g, 0, none⟩) n c) ds) (i : Nat) (hi : i < ds.length) (h0 : ds[i].ln = 0) : OwnC (w.setCell ⟨g, i * 6 + 5, none⟩ (.int .u16 0)) B (.slice (some ⟨g, 0, none⟩) n c) ds := by
  have hl := h.len.1
  have h2 := (h.to_n.stored (i * 6 + 5) (.int .u16 0)).1
  rw [set_same (by rw [cellsC_get ds i hi 5 (by decide)]; show some (Value.int .u16 ds[i].ln) = _; rw [h0])] at h2
  unfold OwnC
  rw [← hl]
  exact h2
set_option maxRecDepth 100000 in
set_option maxHeartbeats 16000000 in
theorem Canon0_c (A : Option Addr) (n c : Nat) (ds : List CeD) (w : World) (hn : ds.length = n) (hr : RdC w A ds) (hl : n ≤ 60000) (h0 : ∀ d ∈ ds, d.ln = 0) :
    Calls Tryd.prog 111 #[.slice A n c, .slice none 0 0] w fun e w' => ∃ A' c', e = .returned (.tuple #[.slice A' n c', .slice none 0 0]) ∧ OwnC w' w.heap.size (.slice A' n c') ds ∧ Below w.heap.size w w' := by
  have HN := Lib.hid hn
  have HR := Lib.hid hr
  have HZ := Lib.hid h0
  clear hn hr h0
  go_enter Tryd.func111, Tryd.ntmps111
  go_upto_region 3 with (go_at_call 54; (with_reducible refine (CloneC_c A n c ds w HN.out HR.out (by omega)).mono ?_); rintro _ w1 ⟨v1, rfl, ho1, hb1⟩; obtain ⟨A1, c1, rfl, hnc1, _, _, ha1, hz1⟩ := ho1.form; have HO1 := Lib.hid ho1; have HB1 := Lib.hid hb1; have HA1 := Lib.hid ha1; have HZ1 := Lib.hid hz1; have HNC := Lib.hid hnc1; clear ho1 hb1 ha1 hz1 hnc1)
  rw [HN.out] at HO1 HNC ⊢
  go_wp2_with (fail)
  go_loopw [7, 15] (fun l i wr => ∃ k : Nat, k ≤ n ∧ l = .slice none 0 0 ∧ i = .int .i64 k ∧ Hid (OwnC wr w.heap.size (.slice A1 n c1) ds) ∧ Hid (Below w.heap.size w wr)) (fun _ i _ => n - (intOf i).toNat)
  case atStart => exact ⟨0, Nat.zero_le _, rfl, rfl, HO1, HB1⟩
  case round =>
    obtain ⟨k, hk, rfl, rfl, HO, HB⟩ := hrel
    rcases Nat.lt_or_ge k n with hlt | hge
    · have hlt' : (k : Int) < (n : Int) := by omega
      obtain ⟨b, hA⟩ : ∃ b, A1 = some ⟨b, 0, none⟩ := by
        cases hA : A1 with
        | none => have h1 := HZ1.out hA; have h2 := HNC.out; omega
        | some a => obtain ⟨_, _, h1, h2⟩ := HA1.out a hA; obtain ⟨bb, oo, ss⟩ := a; cases h1; cases h2; exact ⟨bb, rfl⟩
      subst hA
      have hkl : k < ds.length := by rw [HN.out]; exact hlt
      have h00 : ds[k].ln = 0 := HZ.out _ (List.getElem_mem _)
      have z5 : wr.cell? ⟨b, k * 6 + 5, none⟩ = some (.int .u16 0) := by rw [← h00]; exact (HO.out.six k hkl).2.2.2.2.2
      have f5 := HO.out.free (k * 6 + 5)
      have HBB : Hid (w.heap.size ≤ b) := Lib.hid (OwnC.lt HO.out b rfl).1
      have HH : Hid (k < ds.length ∧ ∀ h : k < ds.length, ds[k].ln = 0) := Lib.hid ⟨hkl, fun _ => h00⟩
      clear hkl h00
      go_upto_region 8 with (fail)
      obtain ⟨W5, eW5⟩ : ∃ W5, W5 = wr.setCell ⟨b, k * 6 + 5, none⟩ (.int .u16 0) := ⟨_, rfl⟩
      rw [← eW5]
      have HO5 : Hid (OwnC W5 w.heap.size (.slice (some ⟨b, 0, none⟩) n c1) ds) := Lib.hid (by rw [eW5]; exact HO.out.again k HH.out.1 (HH.out.2 _))
      have HB5 : Hid (Below w.heap.size w W5) := Lib.hid (by rw [eW5]; exact below_set HB.out b _ _ HBB.out)
      clear eW5 z5 f5
      go_wp2_with (fail)
      go_roundw
      case rel => exact ⟨k + 1, by omega, rfl, by go_num, HO5, HB5⟩
      case measure => simp [intOf]; omega
    · obtain rfl : n = k := by omega
      have hge' : ¬ ((n : Int) < (n : Int)) := by omega
      go_wp2_with (fail)
      go_ret2
      exact ⟨_, _, rfl, HO.out, HB.out⟩
/-- What Canon answers, as a value that stays. -/
def Rl.can (B N : Nat) (ds : List CeD) : Rl := ⟨fun w v => ∃ A' c', v = .tuple #[.slice A' N c', .slice none 0 0] ∧ OwnC w B (.slice A' N c') ds, fun ⟨A', c', h, r⟩ g => ⟨A', c', h, OwnC.below r g⟩⟩
def Rl.canS (B N : Nat) (ds : List CeD) : Rl := ⟨fun w v => ∃ A' c', v = .slice A' N c' ∧ OwnC w B (.slice A' N c') ds, fun ⟨A', c', h, r⟩ g => ⟨A', c', h, OwnC.below r g⟩⟩
set_option maxRecDepth 100000 in
set_option maxHeartbeats 16000000 in
theorem termScreen_c (g : Nat) (C R : Int) (b N : Nat) (w : World) (h : TermB w g C R (.slice (some ⟨b, 0, none⟩) N N)) (hr : RdC w (some ⟨b, 0, none⟩) (List.replicate N blankD)) (hN : N ≤ 1920) :
    Calls Tryd.prog 69 #[.pointer (some ⟨g, 0, none⟩)] w fun e w' => ∃ A' c', e = .returned (.agg (scC (blankS C R) A' N c' none 0 0)) ∧ OwnC w' w.heap.size (.slice A' N c') (List.replicate N blankD) ∧ Below w.heap.size w w' := by
  obtain ⟨W0, eW0⟩ : ∃ W0, W0 = w.alloc (.cells (scC scZ none 0 0 none 0 0) 25) := ⟨_, rfl⟩
  obtain ⟨q, eq⟩ : ∃ q, q = w.heap.size := ⟨_, rfl⟩
  have hb0 : Below w.heap.size w W0 := by rw [eW0]; exact (Below.refl _ _).alloc (Nat.le_refl _) _
  have HB0 := Lib.hid hb0
  have HQ0 : Hid (ScB W0 q scZ none 0 0 none 0 0) := Lib.hid (by rw [eW0, eq]; exact heap_alloc_new _ _)
  have EW0 : Hid (w.alloc (.cells #[.int .i64 0, .int .i64 0, .slice none 0 0, .int .i64 0, .int .i64 0, .bool false, .int .u8 0, .string { data := #[] }, .slice none 0 0] 25) = W0) := Lib.hid (by rw [eW0]; rfl)
  have EQ := Lib.hid eq
  have HQW : Hid (w.heap.size ≤ q) := Lib.hid (Nat.le_of_eq eq.symm)
  have HT := Lib.hid (h.below hb0)
  have HR := Lib.hid (hr.below hb0)
  obtain ⟨L, eL⟩ : ∃ L, L = List.replicate N blankD := ⟨_, rfl⟩
  rw [← eL] at HR
  rw [← eL]
  have HL : Hid (L.length = N ∧ ∀ d ∈ L, d.ln = 0) := Lib.hid ⟨by rw [eL]; simp, fun d hd => by rw [eL] at hd; have := List.eq_of_mem_replicate hd; subst this; rfl⟩
  clear hb0 eW0 eq h hr eL
  go_enter Tryd.func69, Tryd.ntmps69
  go_upto_region 3 with (fail)
  rw [EW0.out, ← EQ.out]
  refine wp_region_rw 52 [Rl.eq (.pointer (some ⟨g, 0, none⟩)), Rl.eq (.agg (gridA C R (.slice (some ⟨b, 0, none⟩) N N))), Rl.eq (.slice (some ⟨b, 0, none⟩) N N), Rl.eq (.pointer (some ⟨g, 0, none⟩)), Rl.eq (.pointer (some ⟨g, 0, none⟩)), Rl.eq (.pointer (some ⟨g, 111, none⟩)), Rl.eq (.slice none 0 0), Rl.can W0.heap.size N L, Rl.can W0.heap.size N L, Rl.canS W0.heap.size N L, Rl.eq (.slice none 0 0), Rl.canS W0.heap.size N L, Rl.eq (.slice none 0 0)] [9, 10, 11, 12, 13, 14, 15, 16, 8, 17, 18, 3, 4] (by kernel_rfl) rfl (by kernel_rfl) (by kernel_rfl) ?_ ?_
  · repeat (first | exact AllFrom.nil_ | (refine AllFrom.cons_ (by rfl) ?_ ?_; rotate_left))
    · intro f w' g_ hF hD
      have h0 : f 0 = .pointer (some ⟨g, 0, none⟩) := hF 0 (by kernel_rfl)
      rw [if_pos (wanted_none rfl)]
      clear hF hD
      exact gives_val (by simp only [execOp, evF, h0]; first | rfl | go_simp) ⟨Gr.refl _, rfl⟩
    · intro f w' g_ hF hD
      have h9 : f 9 = (.pointer (some ⟨g, 0, none⟩)) := hD 0 9 (by kernel_rfl) rfl
      rw [if_pos (wanted_none rfl)]
      clear hF hD
      have kg : Below W0.heap.size W0 w' := (below_drewN (Below.refl _ _) 1).trans g_
      have kt := HT.out.below kg
      refine gives_func rfl Tryd.func112 (by kernel_rfl) rfl (by simp only [List.map_toArray, List.map_cons, List.map_nil, evF, h9]) ((here_c g C R (some ⟨b, 0, none⟩) N N w' kt).mono ?_)
      rintro e w'' ⟨rfl, hb⟩
      exact ⟨_, rfl, hb, rfl⟩
    · intro f w' g_ hF hD
      have h10 : f 10 = (.agg (gridA C R (.slice (some ⟨b, 0, none⟩) N N))) := hD 1 10 (by kernel_rfl) rfl
      rw [if_pos (wanted_none rfl)]
      clear hF hD
      exact gives_val (by simp only [execOp, evF, h10]; first | rfl | go_simp) ⟨Gr.refl _, rfl⟩
    · intro f w' g_ hF hD
      have h0 : f 0 = .pointer (some ⟨g, 0, none⟩) := hF 0 (by kernel_rfl)
      rw [if_pos (wanted_none rfl)]
      clear hF hD
      exact gives_val (by simp only [execOp, evF, h0]; first | rfl | go_simp) ⟨Gr.refl _, rfl⟩
    · intro f w' g_ hF hD
      have h12 : f 12 = (.pointer (some ⟨g, 0, none⟩)) := hD 3 12 (by kernel_rfl) rfl
      rw [if_pos (wanted_none rfl)]
      clear hF hD
      exact gives_val (by simp only [execOp, evF, h12]; first | rfl | go_simp) ⟨Gr.refl _, rfl⟩
    · intro f w' g_ hF hD
      have h13 : f 13 = (.pointer (some ⟨g, 0, none⟩)) := hD 4 13 (by kernel_rfl) rfl
      rw [if_pos (wanted_none rfl)]
      clear hF hD
      exact gives_val (by simp only [execOp, evF, h13]; first | rfl | go_simp) ⟨Gr.refl _, rfl⟩
    · intro f w' g_ hF hD
      have h14 : f 14 = (.pointer (some ⟨g, 111, none⟩)) := hD 5 14 (by kernel_rfl) rfl
      rw [if_pos (wanted_none rfl)]
      clear hF hD
      have kg : Below W0.heap.size W0 w' := (below_drewN (Below.refl _ _) 1).trans g_
      have kt := HT.out.below kg
      have cl := kt.cells.2.2.2.2.2.2.2.2.2.2.2
      exact gives_val (by simp only [execOp, evF, h14]; go_simp) ⟨Gr.refl _, rfl⟩
    · intro f w' g_ hF hD
      have h11 : f 11 = (.slice (some ⟨b, 0, none⟩) N N) := hD 2 11 (by kernel_rfl) rfl
      have h15 : f 15 = (.slice none 0 0) := hD 6 15 (by kernel_rfl) rfl
      rw [if_pos (wanted_none rfl)]
      clear hF hD
      have kg : Below W0.heap.size W0 w' := (below_drewN (Below.refl _ _) 1).trans g_
      refine gives_func rfl Tryd.func111 (by kernel_rfl) rfl (by simp only [List.map_toArray, List.map_cons, List.map_nil, evF, h11, h15]) ((Canon0_c (some ⟨b, 0, none⟩) N N L w' HL.out.1 (HR.out.below kg) (by omega) HL.out.2).mono ?_)
      rintro e w'' ⟨A', c', rfl, ho, hb⟩
      exact ⟨_, rfl, hb, A', c', rfl, OwnC.low ho kg.size⟩
    · intro f w' g_ hF hD
      have q16 := hD 7 16 (by kernel_rfl) rfl
      rw [if_pos (wanted_none rfl)]
      clear hF hD
      obtain ⟨A', c', e, ho⟩ := q16
      exact gives_val (by simp only [execOp, evF, e]; first | rfl | go_simp) ⟨Gr.refl _, A', c', rfl, ho⟩
    · intro f w' g_ hF hD
      have q8 := hD 8 8 (by kernel_rfl) rfl
      rw [if_pos (wanted_none rfl)]
      clear hF hD
      obtain ⟨A', c', e, ho⟩ := q8
      exact gives_val (by simp only [execOp, evF, e]; first | rfl | go_simp) ⟨Gr.refl _, A', c', rfl, ho⟩
    · intro f w' g_ hF hD
      have q8 := hD 8 8 (by kernel_rfl) rfl
      rw [if_pos (wanted_none rfl)]
      clear hF hD
      obtain ⟨A', c', e, ho⟩ := q8
      exact gives_val (by simp only [execOp, evF, e]; first | rfl | go_simp) ⟨Gr.refl _, rfl⟩
    · intro f w' g_ hF hD
      have q17 := hD 9 17 (by kernel_rfl) rfl
      rw [if_pos (wanted_none rfl)]
      clear hF hD
      obtain ⟨A', c', e, ho⟩ := q17
      exact gives_val (by simp only [execOp, evF, e]; first | rfl | go_simp) ⟨Gr.refl _, A', c', rfl, ho⟩
    · intro f w' g_ hF hD
      have h18 : f 18 = (.slice none 0 0) := hD 10 18 (by kernel_rfl) rfl
      rw [if_pos (wanted_none rfl)]
      clear hF hD
      exact gives_val (by simp only [execOp, evF, h18]; first | rfl | go_simp) ⟨Gr.refl _, rfl⟩
  intro f w4 gg hD
  obtain ⟨A3, c3, h3, ho3⟩ : ∃ A' c', f 3 = .slice A' N c' ∧ OwnC w4 W0.heap.size (.slice A' N c') L := hD 11 3 rfl
  have h4 : f 4 = .slice none 0 0 := hD 12 4 rfl
  have kg : Below W0.heap.size W0 w4 := (below_drewN (Below.refl _ _) 1).trans gg
  simp only [putAll, List.setIfInBounds_toArray, List.set_cons_zero, List.set_cons_succ, h3, h4]
  have HQ4 := Lib.hid (HQ0.out.below kg)
  have HB4 := Lib.hid (HB0.out.trans (kg.mono HB0.out.size))
  have HO4 := Lib.hid ho3
  have HT4 := Lib.hid (HT.out.below kg)
  have HQL : Hid (q < W0.heap.size) := Lib.hid (heap_lt HQ0.out)
  generalize f 8 = d8
  generalize f 9 = d9
  generalize f 10 = d10
  generalize f 11 = d11
  generalize f 12 = d12
  generalize f 13 = d13
  generalize f 14 = d14
  generalize f 15 = d15
  generalize f 16 = d16
  generalize f 17 = d17
  generalize f 18 = d18
  clear hD gg kg h3 h4 ho3
  go_upto_region 4 with (fail)
  refine wp_region_rt 52 33 [Rl.eq (.pointer (some ⟨g, 0, none⟩)), Rl.eq (.pointer (some ⟨g, 0, none⟩)), Rl.eq (.pointer (some ⟨g, 7, none⟩)), Rl.eq (.int .i64 C), Rl.eq (.pointer (some ⟨g, 0, none⟩)), Rl.eq (.pointer (some ⟨g, 0, none⟩)), Rl.eq (.pointer (some ⟨g, 8, none⟩)), Rl.eq (.int .i64 R), Rl.eq (.slice A3 N c3), Rl.eq (.pointer (some ⟨g, 0, none⟩)), Rl.eq (.pointer (some ⟨g, 0, none⟩)), Rl.eq (.pointer (some ⟨g, 0, none⟩)), Rl.eq (.pointer (some ⟨g, 0, none⟩)), Rl.eq (.int .i64 0), Rl.eq (.pointer (some ⟨g, 0, none⟩)), Rl.eq (.pointer (some ⟨g, 0, none⟩)), Rl.eq (.pointer (some ⟨g, 0, none⟩)), Rl.eq (.pointer (some ⟨g, 1, none⟩)), Rl.eq (.int .i64 0), Rl.eq (.pointer (some ⟨g, 0, none⟩)), Rl.eq (.pointer (some ⟨g, 0, none⟩)), Rl.eq (.pointer (some ⟨g, 21, none⟩)), Rl.eq (.bool false), Rl.eq (.pointer (some ⟨g, 0, none⟩)), Rl.eq (.pointer (some ⟨g, 0, none⟩)), Rl.eq (.pointer (some ⟨g, 22, none⟩)), Rl.eq (.int .u8 0), Rl.eq (.pointer (some ⟨g, 0, none⟩)), Rl.eq (.pointer (some ⟨g, 0, none⟩)), Rl.eq (.pointer (some ⟨g, 110, none⟩)), Rl.eq (.string ⟨#[]⟩), Rl.eq (.slice none 0 0), Rl.eq (.agg #[.int .i64 C, .int .i64 R, .slice A3 N c3, .int .i64 0, .int .i64 0, .bool false, .int .u8 0, .string ⟨#[]⟩, .slice none 0 0])] [19, 20, 21, 22, 23, 24, 25, 26, 27, 28, 29, 30, 31, 32, 33, 34, 35, 36, 37, 38, 39, 40, 41, 42, 43, 44, 45, 46, 47, 48, 49, 50, 51] (by kernel_rfl) rfl (by kernel_rfl) (by kernel_rfl) (by decide) (by kernel_rfl) (by kernel_rfl) ?_ ?_
  · simp only [List.take_succ_cons, List.take_zero]
    repeat (first | exact AllFrom.nil_ | (refine AllFrom.cons_ (by rfl) ?_ ?_; rotate_left))
    · intro f w' g_ hF hD
      have h0 : f 0 = .pointer (some ⟨g, 0, none⟩) := hF 0 (by kernel_rfl)
      rw [if_pos (wanted_none rfl)]
      clear hF hD
      exact gives_val (by simp only [execOp, evF, h0]; first | rfl | go_simp) ⟨Gr.refl _, rfl⟩
    · intro f w' g_ hF hD
      have h19 : f 19 = (.pointer (some ⟨g, 0, none⟩)) := hD 0 19 (by kernel_rfl) rfl
      rw [if_pos (wanted_none rfl)]
      clear hF hD
      exact gives_val (by simp only [execOp, evF, h19]; first | rfl | go_simp) ⟨Gr.refl _, rfl⟩
    · intro f w' g_ hF hD
      have h20 : f 20 = (.pointer (some ⟨g, 0, none⟩)) := hD 1 20 (by kernel_rfl) rfl
      rw [if_pos (wanted_none rfl)]
      clear hF hD
      exact gives_val (by simp only [execOp, evF, h20]; first | rfl | go_simp) ⟨Gr.refl _, rfl⟩
    · intro f w' g_ hF hD
      have h21 : f 21 = (.pointer (some ⟨g, 7, none⟩)) := hD 2 21 (by kernel_rfl) rfl
      rw [if_pos (wanted_none rfl)]
      clear hF hD
      have kt := HT4.out.below (show Below w4.heap.size w4 w' from (below_drewN (Below.refl _ _) 1).trans g_)
      have cl := kt.cells.2.2.1
      exact gives_val (by simp only [execOp, evF, h21]; go_simp) ⟨Gr.refl _, rfl⟩
    · intro f w' g_ hF hD
      have h0 : f 0 = .pointer (some ⟨g, 0, none⟩) := hF 0 (by kernel_rfl)
      rw [if_pos (wanted_none rfl)]
      clear hF hD
      exact gives_val (by simp only [execOp, evF, h0]; first | rfl | go_simp) ⟨Gr.refl _, rfl⟩
    · intro f w' g_ hF hD
      have h23 : f 23 = (.pointer (some ⟨g, 0, none⟩)) := hD 4 23 (by kernel_rfl) rfl
      rw [if_pos (wanted_none rfl)]
      clear hF hD
      exact gives_val (by simp only [execOp, evF, h23]; first | rfl | go_simp) ⟨Gr.refl _, rfl⟩
    · intro f w' g_ hF hD
      have h24 : f 24 = (.pointer (some ⟨g, 0, none⟩)) := hD 5 24 (by kernel_rfl) rfl
      rw [if_pos (wanted_none rfl)]
      clear hF hD
      exact gives_val (by simp only [execOp, evF, h24]; first | rfl | go_simp) ⟨Gr.refl _, rfl⟩
    · intro f w' g_ hF hD
      have h25 : f 25 = (.pointer (some ⟨g, 8, none⟩)) := hD 6 25 (by kernel_rfl) rfl
      rw [if_pos (wanted_none rfl)]
      clear hF hD
      have kt := HT4.out.below (show Below w4.heap.size w4 w' from (below_drewN (Below.refl _ _) 1).trans g_)
      have cl := kt.cells.2.2.2.1
      exact gives_val (by simp only [execOp, evF, h25]; go_simp) ⟨Gr.refl _, rfl⟩
    · intro f w' g_ hF hD
      have h3 : f 3 = .slice A3 N c3 := hF 3 (by kernel_rfl)
      rw [if_pos (wanted_none rfl)]
      clear hF hD
      exact gives_val (by simp only [execOp, evF, h3]; first | rfl | go_simp) ⟨Gr.refl _, rfl⟩
    · intro f w' g_ hF hD
      have h0 : f 0 = .pointer (some ⟨g, 0, none⟩) := hF 0 (by kernel_rfl)
      rw [if_pos (wanted_none rfl)]
      clear hF hD
      exact gives_val (by simp only [execOp, evF, h0]; first | rfl | go_simp) ⟨Gr.refl _, rfl⟩
    · intro f w' g_ hF hD
      have h28 : f 28 = (.pointer (some ⟨g, 0, none⟩)) := hD 9 28 (by kernel_rfl) rfl
      rw [if_pos (wanted_none rfl)]
      clear hF hD
      exact gives_val (by simp only [execOp, evF, h28]; first | rfl | go_simp) ⟨Gr.refl _, rfl⟩
    · intro f w' g_ hF hD
      have h29 : f 29 = (.pointer (some ⟨g, 0, none⟩)) := hD 10 29 (by kernel_rfl) rfl
      rw [if_pos (wanted_none rfl)]
      clear hF hD
      exact gives_val (by simp only [execOp, evF, h29]; first | rfl | go_simp) ⟨Gr.refl _, rfl⟩
    · intro f w' g_ hF hD
      have h30 : f 30 = (.pointer (some ⟨g, 0, none⟩)) := hD 11 30 (by kernel_rfl) rfl
      rw [if_pos (wanted_none rfl)]
      clear hF hD
      exact gives_val (by simp only [execOp, evF, h30]; first | rfl | go_simp) ⟨Gr.refl _, rfl⟩
    · intro f w' g_ hF hD
      have h31 : f 31 = (.pointer (some ⟨g, 0, none⟩)) := hD 12 31 (by kernel_rfl) rfl
      rw [if_pos (wanted_none rfl)]
      clear hF hD
      have kt := HT4.out.below (show Below w4.heap.size w4 w' from (below_drewN (Below.refl _ _) 1).trans g_)
      have cl := kt.cells.1
      exact gives_val (by simp only [execOp, evF, h31]; go_simp) ⟨Gr.refl _, rfl⟩
    · intro f w' g_ hF hD
      have h0 : f 0 = .pointer (some ⟨g, 0, none⟩) := hF 0 (by kernel_rfl)
      rw [if_pos (wanted_none rfl)]
      clear hF hD
      exact gives_val (by simp only [execOp, evF, h0]; first | rfl | go_simp) ⟨Gr.refl _, rfl⟩
    · intro f w' g_ hF hD
      have h33 : f 33 = (.pointer (some ⟨g, 0, none⟩)) := hD 14 33 (by kernel_rfl) rfl
      rw [if_pos (wanted_none rfl)]
      clear hF hD
      exact gives_val (by simp only [execOp, evF, h33]; first | rfl | go_simp) ⟨Gr.refl _, rfl⟩
    · intro f w' g_ hF hD
      have h34 : f 34 = (.pointer (some ⟨g, 0, none⟩)) := hD 15 34 (by kernel_rfl) rfl
      rw [if_pos (wanted_none rfl)]
      clear hF hD
      exact gives_val (by simp only [execOp, evF, h34]; first | rfl | go_simp) ⟨Gr.refl _, rfl⟩
    · intro f w' g_ hF hD
      have h35 : f 35 = (.pointer (some ⟨g, 0, none⟩)) := hD 16 35 (by kernel_rfl) rfl
      rw [if_pos (wanted_none rfl)]
      clear hF hD
      exact gives_val (by simp only [execOp, evF, h35]; first | rfl | go_simp) ⟨Gr.refl _, rfl⟩
    · intro f w' g_ hF hD
      have h36 : f 36 = (.pointer (some ⟨g, 1, none⟩)) := hD 17 36 (by kernel_rfl) rfl
      rw [if_pos (wanted_none rfl)]
      clear hF hD
      have kt := HT4.out.below (show Below w4.heap.size w4 w' from (below_drewN (Below.refl _ _) 1).trans g_)
      have cl := kt.cells.2.1
      exact gives_val (by simp only [execOp, evF, h36]; go_simp) ⟨Gr.refl _, rfl⟩
    · intro f w' g_ hF hD
      have h0 : f 0 = .pointer (some ⟨g, 0, none⟩) := hF 0 (by kernel_rfl)
      rw [if_pos (wanted_none rfl)]
      clear hF hD
      exact gives_val (by simp only [execOp, evF, h0]; first | rfl | go_simp) ⟨Gr.refl _, rfl⟩
    · intro f w' g_ hF hD
      have h38 : f 38 = (.pointer (some ⟨g, 0, none⟩)) := hD 19 38 (by kernel_rfl) rfl
      rw [if_pos (wanted_none rfl)]
      clear hF hD
      exact gives_val (by simp only [execOp, evF, h38]; first | rfl | go_simp) ⟨Gr.refl _, rfl⟩
    · intro f w' g_ hF hD
      have h39 : f 39 = (.pointer (some ⟨g, 0, none⟩)) := hD 20 39 (by kernel_rfl) rfl
      rw [if_pos (wanted_none rfl)]
      clear hF hD
      exact gives_val (by simp only [execOp, evF, h39]; first | rfl | go_simp) ⟨Gr.refl _, rfl⟩
    · intro f w' g_ hF hD
      have h40 : f 40 = (.pointer (some ⟨g, 21, none⟩)) := hD 21 40 (by kernel_rfl) rfl
      rw [if_pos (wanted_none rfl)]
      clear hF hD
      have kt := HT4.out.below (show Below w4.heap.size w4 w' from (below_drewN (Below.refl _ _) 1).trans g_)
      have cl := kt.cells.2.2.2.2.2.2.2.2.1
      exact gives_val (by simp only [execOp, evF, h40]; go_simp) ⟨Gr.refl _, rfl⟩
    · intro f w' g_ hF hD
      have h0 : f 0 = .pointer (some ⟨g, 0, none⟩) := hF 0 (by kernel_rfl)
      rw [if_pos (wanted_none rfl)]
      clear hF hD
      exact gives_val (by simp only [execOp, evF, h0]; first | rfl | go_simp) ⟨Gr.refl _, rfl⟩
    · intro f w' g_ hF hD
      have h42 : f 42 = (.pointer (some ⟨g, 0, none⟩)) := hD 23 42 (by kernel_rfl) rfl
      rw [if_pos (wanted_none rfl)]
      clear hF hD
      exact gives_val (by simp only [execOp, evF, h42]; first | rfl | go_simp) ⟨Gr.refl _, rfl⟩
    · intro f w' g_ hF hD
      have h43 : f 43 = (.pointer (some ⟨g, 0, none⟩)) := hD 24 43 (by kernel_rfl) rfl
      rw [if_pos (wanted_none rfl)]
      clear hF hD
      exact gives_val (by simp only [execOp, evF, h43]; first | rfl | go_simp) ⟨Gr.refl _, rfl⟩
    · intro f w' g_ hF hD
      have h44 : f 44 = (.pointer (some ⟨g, 22, none⟩)) := hD 25 44 (by kernel_rfl) rfl
      rw [if_pos (wanted_none rfl)]
      clear hF hD
      have kt := HT4.out.below (show Below w4.heap.size w4 w' from (below_drewN (Below.refl _ _) 1).trans g_)
      have cl := kt.cells.2.2.2.2.2.2.2.2.2.1
      exact gives_val (by simp only [execOp, evF, h44]; go_simp) ⟨Gr.refl _, rfl⟩
    · intro f w' g_ hF hD
      have h0 : f 0 = .pointer (some ⟨g, 0, none⟩) := hF 0 (by kernel_rfl)
      rw [if_pos (wanted_none rfl)]
      clear hF hD
      exact gives_val (by simp only [execOp, evF, h0]; first | rfl | go_simp) ⟨Gr.refl _, rfl⟩
    · intro f w' g_ hF hD
      have h46 : f 46 = (.pointer (some ⟨g, 0, none⟩)) := hD 27 46 (by kernel_rfl) rfl
      rw [if_pos (wanted_none rfl)]
      clear hF hD
      exact gives_val (by simp only [execOp, evF, h46]; first | rfl | go_simp) ⟨Gr.refl _, rfl⟩
    · intro f w' g_ hF hD
      have h47 : f 47 = (.pointer (some ⟨g, 0, none⟩)) := hD 28 47 (by kernel_rfl) rfl
      rw [if_pos (wanted_none rfl)]
      clear hF hD
      exact gives_val (by simp only [execOp, evF, h47]; first | rfl | go_simp) ⟨Gr.refl _, rfl⟩
    · intro f w' g_ hF hD
      have h48 : f 48 = (.pointer (some ⟨g, 110, none⟩)) := hD 29 48 (by kernel_rfl) rfl
      rw [if_pos (wanted_none rfl)]
      clear hF hD
      have kt := HT4.out.below (show Below w4.heap.size w4 w' from (below_drewN (Below.refl _ _) 1).trans g_)
      have cl := kt.cells.2.2.2.2.2.2.2.2.2.2.1
      exact gives_val (by simp only [execOp, evF, h48]; go_simp) ⟨Gr.refl _, rfl⟩
    · intro f w' g_ hF hD
      have h4 : f 4 = .slice none 0 0 := hF 4 (by kernel_rfl)
      rw [if_pos (wanted_none rfl)]
      clear hF hD
      exact gives_val (by simp only [execOp, evF, h4]; first | rfl | go_simp) ⟨Gr.refl _, rfl⟩
    · intro f w' g_ hF hD
      have h22 : f 22 = (.int .i64 C) := hD 3 22 (by kernel_rfl) rfl
      have h26 : f 26 = (.int .i64 R) := hD 7 26 (by kernel_rfl) rfl
      have h27 : f 27 = (.slice A3 N c3) := hD 8 27 (by kernel_rfl) rfl
      have h32 : f 32 = (.int .i64 0) := hD 13 32 (by kernel_rfl) rfl
      have h37 : f 37 = (.int .i64 0) := hD 18 37 (by kernel_rfl) rfl
      have h41 : f 41 = (.bool false) := hD 22 41 (by kernel_rfl) rfl
      have h45 : f 45 = (.int .u8 0) := hD 26 45 (by kernel_rfl) rfl
      have h49 : f 49 = (.string ⟨#[]⟩) := hD 30 49 (by kernel_rfl) rfl
      have h50 : f 50 = (.slice none 0 0) := hD 31 50 (by kernel_rfl) rfl
      rw [if_pos (wanted_none rfl)]
      clear hF hD
      exact gives_build 25 _ rfl #[.int .i64 C, .int .i64 R, .slice A3 N c3, .int .i64 0, .int .i64 0, .bool false, .int .u8 0, .string ⟨#[]⟩, .slice none 0 0] (by simp only [List.map_toArray, List.map_cons, List.map_nil, evF, h22, h26, h27, h32, h37, h41, h45, h49, h50]; kernel_rfl) ⟨Gr.refl _, rfl⟩
  intro f w5 gg hD
  have h51 : f 51 = .agg (scC (blankS C R) A3 N c3 none 0 0) := hD 32 51 (by decide) rfl
  have kg : Below w4.heap.size w4 w5 := (below_drewN (Below.refl _ _) 1).trans gg
  simp only [List.drop_succ_cons, List.drop_zero, putAll, List.setIfInBounds_toArray, List.set_cons_zero, List.set_cons_succ, h51]
  have HQ5 := Lib.hid (HQ4.out.below kg)
  have HB5 := Lib.hid (HB4.out.trans (kg.mono HB4.out.size))
  have HO5 := Lib.hid (OwnC.below HO4.out kg)
  clear hD gg kg h51
  go_wp2_with (first
    | (refine wpList_store_row rfl 25 (.tmp 2) (.tmp 51) rfl q (scC (blankS C R) A3 N c3 none 0 0) rfl rfl 25 _ HQ5.out (info_sc.trans rfl) rfl (sc_one _ _ _ _ _ _ _) ?_))
  refine bodyPost_ret (v := .agg (scC (blankS C R) A3 N c3 none 0 0)) (results_cell_row (p := 2) (ty := 25) rfl _ _ q 25 _ (0, 0) _ rfl (setRow_heap w5 q _ _ _ _ HQ5.out) Tryd.underlying25 rfl (info_sc.trans rfl)) rfl ?_
  exact ⟨A3, c3, rfl, OwnC.low (OwnC.keep HO5.out (fun j e => setRow_other _ _ _ _ (by have h1 := (OwnC.lt HO5.out j e).1; have h2 := HQL.out; omega))) HB0.out.size, below_setRow HB5.out HQW.out _⟩
set_option maxRecDepth 100000 in
set_option maxHeartbeats 16000000 in
theorem projBlank_c (C R N : Nat) (w : World) (hf : fitsI (C : Int) (R : Int) = true) (hN : N = C * R) :
    Calls Tryd.prog 34 #[.int .i64 (C : Int), .int .i64 (R : Int)] w fun e w' => ∃ A' c', e = .returned (.tuple #[.agg (scC (blankS C R) A' N c' none 0 0), .int .i64 0]) ∧ OwnC w' w.heap.size (.slice A' N c') (List.replicate N blankD) ∧ Below w.heap.size w w' := by
  have hN2 : N ≤ 1920 := by
    simp only [fitsI, Bool.and_eq_true, decide_eq_true_eq] at hf
    have := Nat.mul_le_mul (show C ≤ 80 by omega) (show R ≤ 24 by omega)
    omega
  have HF := Lib.hid hf
  have HN := Lib.hid hN
  have HN2 := Lib.hid hN2
  obtain ⟨W0, eW0⟩ : ∃ W0, W0 = w.alloc (.cells (scC scZ none 0 0 none 0 0) 25) := ⟨_, rfl⟩
  obtain ⟨q, eq⟩ : ∃ q, q = w.heap.size := ⟨_, rfl⟩
  have hb0 : Below w.heap.size w W0 := by rw [eW0]; exact (Below.refl _ _).alloc (Nat.le_refl _) _
  have HB0 := Lib.hid hb0
  have HQ0 : Hid (ScB W0 q scZ none 0 0 none 0 0) := Lib.hid (by rw [eW0, eq]; exact heap_alloc_new _ _)
  have EW0 : Hid (w.alloc (.cells #[.int .i64 0, .int .i64 0, .slice none 0 0, .int .i64 0, .int .i64 0, .bool false, .int .u8 0, .string { data := #[] }, .slice none 0 0] 25) = W0) := Lib.hid (by rw [eW0]; rfl)
  have EQ := Lib.hid eq
  have HQW : Hid (w.heap.size ≤ q) := Lib.hid (Nat.le_of_eq eq.symm)
  clear hb0 eW0 eq hf hN hN2
  go_enter Tryd.func34, Tryd.ntmps34
  go_upto_region 1 with (fail)
  rw [EW0.out, ← EQ.out]
  go_wp2_with (first
    | (go_at_call 68; (with_reducible refine (emulNew_c C R N W0 HF.out HN.out).mono ?_); rintro _ w1 ⟨b, g, rfl, ho1, ht1, hb1⟩; have HO1 := Lib.hid ho1; have HT1 := Lib.hid ht1; have HQ1 := Lib.hid (HQ0.out.below hb1); have HB1 := Lib.hid (HB0.out.trans (hb1.mono HB0.out.size)); have HR1 : Hid (RdC w1 (some ⟨b, 0, none⟩) (List.replicate N blankD)) := Lib.hid (by obtain ⟨A2, c2, e2, _, _, h, _⟩ := ho1.form; injection e2 with e2; rw [e2]; exact h); clear ho1 ht1 hb1)
    | (go_at_call 69; (with_reducible refine (termScreen_c g (C : Int) (R : Int) b N w1 HT1.out HR1.out HN2.out).mono ?_); rintro _ w2 ⟨A2, c2, rfl, ho2, hb2⟩; have HO2 := Lib.hid ho2; have HQ2 := Lib.hid (HQ1.out.below hb2); have HB2 := Lib.hid (HB1.out.trans (hb2.mono HB1.out.size)); have HLQ : Hid (q < w1.heap.size) := Lib.hid (heap_lt HQ1.out); clear ho2 hb2)
    | (refine wpList_store_row rfl 25 (.tmp 4) (.tmp 19) rfl q (scC (blankS C R) A2 N c2 none 0 0) rfl rfl 25 _ HQ2.out (info_sc.trans rfl) rfl (sc_one _ _ _ _ _ _ _) ?_))
  refine bodyPost_ret (v := .tuple #[.agg (scC (blankS C R) A2 N c2 none 0 0), .int .i64 0]) (results_row_tmp (p := 4) (u := 5) (ty := 25) rfl _ _ q 25 _ (0, 0) _ _ rfl rfl (setRow_heap w2 q _ _ _ _ HQ2.out) Tryd.underlying25 rfl (info_sc.trans rfl)) rfl ?_
  exact ⟨A2, c2, rfl, OwnC.low (OwnC.keep HO2.out (fun j e => setRow_other _ _ _ _ (by have h1 := (OwnC.lt HO2.out j e).1; have h2 := HLQ.out; omega))) HB1.out.size, below_setRow HB2.out HQW.out _⟩
set_option maxRecDepth 100000 in
set_option maxHeartbeats 4000000 in
theorem projBlank_bad (cols rows : Int) (w : World) (hf : fitsI cols rows = false) :
    Calls Tryd.prog 34 #[.int .i64 cols, .int .i64 rows] w fun e w' => e = .returned (.tuple #[.agg (scC scZ none 0 0 none 0 0), .int .i64 1]) ∧ Below w.heap.size w w' := by
  have HF := Lib.hid hf
  obtain ⟨W0, eW0⟩ : ∃ W0, W0 = w.alloc (.cells (scC scZ none 0 0 none 0 0) 25) := ⟨_, rfl⟩
  obtain ⟨q, eq⟩ : ∃ q, q = w.heap.size := ⟨_, rfl⟩
  have hb0 : Below w.heap.size w W0 := by rw [eW0]; exact (Below.refl _ _).alloc (Nat.le_refl _) _
  have HB0 := Lib.hid hb0
  have HQ0 : Hid (ScB W0 q scZ none 0 0 none 0 0) := Lib.hid (by rw [eW0, eq]; exact heap_alloc_new _ _)
  have EW0 : Hid (w.alloc (.cells #[.int .i64 0, .int .i64 0, .slice none 0 0, .int .i64 0, .int .i64 0, .bool false, .int .u8 0, .string { data := #[] }, .slice none 0 0] 25) = W0) := Lib.hid (by rw [eW0]; rfl)
  have EQ := Lib.hid eq
  have HQW : Hid (w.heap.size ≤ q) := Lib.hid (Nat.le_of_eq eq.symm)
  clear hb0 eW0 eq hf
  go_enter Tryd.func34, Tryd.ntmps34
  go_upto_region 1 with (fail)
  rw [EW0.out, ← EQ.out]
  go_wp2_with (first
    | (go_at_call 68; (with_reducible refine (emulNew_bad cols rows W0 HF.out).mono ?_); rintro _ w1 ⟨rfl, hb1⟩; have HQ1 := Lib.hid (HQ0.out.below hb1); have HB1 := Lib.hid (HB0.out.trans (hb1.mono HB0.out.size)); clear hb1)
    | (refine wpList_store_row rfl 25 (.tmp 4) (.tmp 16) rfl q (scC scZ none 0 0 none 0 0) rfl rfl 25 _ HQ1.out (info_sc.trans rfl) rfl (sc_one _ _ _ _ _ _ _) ?_))
  refine bodyPost_ret (v := .tuple #[.agg (scC scZ none 0 0 none 0 0), .int .i64 1]) (results_row_tmp (p := 4) (u := 5) (ty := 25) rfl _ _ q 25 _ (0, 0) _ _ rfl rfl (setRow_heap w1 q _ _ _ _ HQ1.out) Tryd.underlying25 rfl (info_sc.trans rfl)) rfl ?_
  exact ⟨rfl, below_setRow HB1.out HQW.out _⟩
end Go.Proofs.YtipofokinjkclaaDoor
