/- Parts one behind the other: What the reference's Screen (project) answers of any screen. Conditions: as told at each. -/
import Derived.Test.YtipofokinjkclaaDoorPB17
import Derived.Test.YtipofokinjkclaaDoorPB16

set_option linter.unusedVariables false
set_option linter.unusedSimpArgs false
/- What the reference's Screen (project) answers of any screen. Conditions: its parts can be read. -/
namespace Go.Proofs.YtipofokinjkclaaDoor
open Go Go.RowKit Go.Lib

theorem info_pen : (Tryd.prog.info? 45).map (·.size) = some 4 := by kernel_rfl
/-- A pen's block, new. -/
def Rl.pen (B : Nat) : Rl := ⟨fun w v => ∃ g, v = .pointer (some ⟨g, 0, none⟩) ∧ B ≤ g ∧ w.heap[g]? = some (.cells #[.int .u32 0, .int .u32 0, .int .u8 0, .int .u16 0] 45 (0, 0)), fun ⟨g, h, hB, r⟩ hb => ⟨g, h, hB, (hb.block g (heap_lt r)).trans r⟩⟩
set_option maxRecDepth 100000 in
set_option maxHeartbeats 16000000 in
theorem rpScreen_c (s : ScD) (A : Option Addr) (n c : Nat) (L : Option Addr) (m cm : Nat) (ft : Nat) (w : World) (hs : ScR w s A n c L m cm) (hf : ft < 4294967296)
    (hcl : ∀ d ∈ s.cells, 0 ≤ d.fg ∧ 0 ≤ d.bg) (hU : TabU w) :
    Calls Tryd.prog 31 #[.agg (scC s A n c L m cm), .int .u32 (ft : Int)] w fun e w' => ∃ A' n' c' L' m' cm', e = .returned (.agg (scC (projS (ft.testBit 0) (ft.testBit 1) (ft.testBit 2) (ft.testBit 3) (ft.testBit 4) (ft.testBit 5) s) A' n' c' L' m' cm')) ∧ OwnC w' w.heap.size (.slice A' n' c') (projS (ft.testBit 0) (ft.testBit 1) (ft.testBit 2) (ft.testBit 3) (ft.testBit 4) (ft.testBit 5) s).cells ∧ OwnT w' w.heap.size (.slice L' m' cm') (projS (ft.testBit 0) (ft.testBit 1) (ft.testBit 2) (ft.testBit 3) (ft.testBit 4) (ft.testBit 5) s).links ∧ (∀ a b, A' = some a → L' = some b → a.block ≠ b.block) ∧ Below w.heap.size w w' := by
  obtain ⟨X, eX⟩ : ∃ X, X = scC s A n c L m cm := ⟨_, rfl⟩
  rw [← eX]
  obtain ⟨N, eN⟩ : ∃ N, projS (ft.testBit 0) (ft.testBit 1) (ft.testBit 2) (ft.testBit 3) (ft.testBit 4) (ft.testBit 5) s = N := ⟨_, rfl⟩
  rw [eN]
  have EN := Lib.hid eN
  have HF := Lib.hid hf
  have HCL : Hid (rightS s = true → ∀ d ∈ s.cells, 0 ≤ d.fg ∧ 0 ≤ d.bg ∧ (d.w = 0 ∨ d.w = 1 ∨ d.w = 2)) := Lib.hid (fun h d hd => ⟨(hcl d hd).1, (hcl d hd).2, rightS_w h d hd⟩)
  obtain ⟨W0, eW0⟩ : ∃ W0, W0 = (w.alloc (.cells X 25)).alloc (.cells (scC scZ none 0 0 none 0 0) 25) := ⟨_, rfl⟩
  obtain ⟨p, ep⟩ : ∃ p, p = w.heap.size := ⟨_, rfl⟩
  obtain ⟨q, eq⟩ : ∃ q, q = w.heap.size + 1 := ⟨_, rfl⟩
  have hb0 : Below w.heap.size w W0 := by rw [eW0]; exact ((Below.refl _ _).alloc (Nat.le_refl _) _).alloc (by simp) _
  have hp0 : ScB W0 p s A n c L m cm := by
    rw [eW0, ep, eX]
    exact (Below.heap_alloc _ _ _ (by simp)).trans (heap_alloc_new _ _)
  have hq0 : ScB W0 q scZ none 0 0 none 0 0 := by rw [eW0, eq]; exact heap_alloc2_new _ _ _
  have eW0' : (w.alloc (.cells X 25)).alloc (.cells #[.int .i64 0, .int .i64 0, .slice none 0 0, .int .i64 0, .int .i64 0, .bool false, .int .u8 0, .string { data := #[] }, .slice none 0 0] 25) = W0 := by rw [eW0]; rfl
  have EW0 := Lib.hid eW0'
  have EQ := Lib.hid eq
  have EP := Lib.hid ep
  have HB0 := Lib.hid hb0
  have HP0 := Lib.hid hp0
  have HQ0 := Lib.hid hq0
  have HR0 := Lib.hid (hs.below hb0)
  have HU0 := Lib.hid (hU.next hb0)
  have HFT := Lib.hid hf
  have HPQ : Hid (w.heap.size ≤ p ∧ w.heap.size ≤ q ∧ p ≠ q) := Lib.hid ⟨by omega, by omega, by omega⟩
  have HS := Lib.hid hs
  clear eW0 ep eq hb0 hp0 hq0 eW0' hs hU eX hf hcl eN
  go_enter Tryd.func31, Tryd.ntmps31
  go_upto_region 1 with (fail)
  rw [EW0.out, ← EQ.out, ← EP.out]
  clear EW0 EQ
  obtain ⟨RG, eRG⟩ : ∃ b, rightS s = b := ⟨_, rfl⟩
  have HRG := Lib.hid eRG
  clear eRG
  cases RG
  · have HN : Hid (N = scZ) := Lib.hid (by rw [← EN.out, projS, HRG.out]; rfl)
    go_wp2_with (first
      | (refine wpList_load_row rfl 25 (.tmp 2) rfl p rfl 25 _ (0, 0) _ HP0.out Tryd.underlying25 rfl (info_sc.trans rfl) ?_)
      | (go_at_call 32; (refine (refRight_c s A n c L m cm W0 HR0.out HU0.out).mono ?_); rintro _ w1 ⟨rfl, hb1⟩; rw [HRG.out]; have HB1 := Lib.hid (HB0.out.trans (hb1.mono HB0.out.size)); have HQ1 := Lib.hid (HQ0.out.below hb1); clear hb1)
      | (refine wpList_store_row rfl 25 (.tmp 4) (.tmp 13) rfl q (scC scZ none 0 0 none 0 0) rfl rfl 25 _ HQ1.out (info_sc.trans rfl) rfl (sc_one _ _ _ _ _ _ _) ?_))
    refine bodyPost_ret (v := .agg (scC scZ none 0 0 none 0 0)) (results_cell_row (p := 4) (ty := 25) rfl _ _ q 25 _ (0, 0) _ rfl (setRow_heap w1 q _ _ _ _ HQ1.out) Tryd.underlying25 rfl (info_sc.trans rfl)) rfl ?_
    rw [HN.out]
    exact ⟨none, 0, 0, none, 0, 0, rfl, OwnC.nil_ _ _, World.ownsRow_nil _ _ _ _, (fun a b h _ => by cases h), below_setRow HB1.out HPQ.out.2.1 _⟩
  · have HN : Hid (N = ⟨s.cols, s.rows, s.cells.map (fitD (ft.testBit 0) (ft.testBit 1) (ft.testBit 2) (ft.testBit 3)), s.x, s.y, s.hid, if ft.testBit 5 then s.mouse else 0, if ft.testBit 4 then s.title else ⟨#[]⟩, if ft.testBit 3 then s.links else []⟩) := Lib.hid (by rw [← EN.out, projS, HRG.out]; rfl)
    go_upto_region 3 with (first
      | (refine wpList_load_row rfl 25 (.tmp 2) rfl p rfl 25 _ (0, 0) _ HP0.out Tryd.underlying25 rfl (info_sc.trans rfl) ?_)
      | (go_at_call 32; (refine (refRight_c s A n c L m cm W0 HR0.out HU0.out).mono ?_); rintro _ w1 ⟨rfl, hb1⟩; rw [HRG.out]; have HB1 := Lib.hid (HB0.out.trans (hb1.mono HB0.out.size)); have HQ1 := Lib.hid (HQ0.out.below hb1); have HP1 := Lib.hid (HP0.out.below hb1); have HR1 := Lib.hid (HR0.out.below hb1); clear hb1))
    obtain ⟨x0, x1, x2, x3, x4, x5, x6, x7, x8⟩ := HP1.out.nine
    obtain ⟨sO, eO⟩ : ∃ sO : ScD, sO = ⟨s.cols, s.rows, [], s.x, s.y, s.hid, 0, ⟨#[]⟩, []⟩ := ⟨_, rfl⟩
    have EO := Lib.hid eO
    clear eO
    go_upto_region 4 with (first
      | (refine wpList_store_row rfl 25 (.tmp 5) (.tmp 24) rfl w1.heap.size (scC ⟨s.cols, s.rows, [], s.x, s.y, s.hid, 0, ⟨#[]⟩, []⟩ none 0 0 none 0 0) rfl rfl 25 _ (heap_alloc_new w1 _) (info_sc.trans rfl) rfl (sc_one _ _ _ _ _ _ _) ?_))
    generalize eX1 : World.alloc w1 _ = X1
    have hx1 : Below w1.heap.size w1 X1 := by rw [← eX1]; exact (Below.refl _ _).alloc (Nat.le_refl _) _
    obtain ⟨old, hq1⟩ : ∃ old, X1.heap[w1.heap.size]? = some (.cells old 25 (0, 0)) := ⟨_, by rw [← eX1]; exact heap_alloc_new _ _⟩
    obtain ⟨g, eg⟩ : ∃ g, g = w1.heap.size := ⟨_, rfl⟩
    obtain ⟨W3, eW3⟩ : ∃ W3, W3 = X1.setRow w1.heap.size (scC ⟨s.cols, s.rows, [], s.x, s.y, s.hid, 0, ⟨#[]⟩, []⟩ none 0 0 none 0 0) := ⟨_, rfl⟩
    rw [← eW3, ← eg]
    have hg3 : ScB W3 g sO none 0 0 none 0 0 := by rw [eW3, eg, EO.out]; exact setRow_heap _ _ _ _ _ _ hq1
    have hpg : p < g := by rw [eg]; exact heap_lt HP1.out
    have hqg : q < g := by rw [eg]; exact heap_lt HQ1.out
    have hb13 : ∀ j, j < g → W3.heap[j]? = w1.heap[j]? := fun j hj => by rw [eW3]; exact (setRow_other _ _ _ _ (by rw [← eg]; exact Nat.ne_of_lt hj)).trans (hx1.block j (by rw [← eg]; exact hj))
    have HP3 : Hid (ScB W3 p s A n c L m cm) := Lib.hid ((hb13 p hpg).trans HP1.out)
    have HQ3 : Hid (ScB W3 q scZ none 0 0 none 0 0) := Lib.hid ((hb13 q hqg).trans HQ1.out)
    have hb3 : Below w.heap.size w W3 := by rw [eW3]; exact below_setRow (HB1.out.trans (hx1.mono HB1.out.size)) HB1.out.size _
    have HG3 := Lib.hid hg3
    have HB3 := Lib.hid hb3
    have HGS : Hid (p < g ∧ q < g ∧ w.heap.size ≤ g ∧ g < W3.heap.size) := Lib.hid ⟨hpg, hqg, by rw [eg]; exact HB1.out.size, heap_lt hg3⟩
    have HR3 := Lib.hid (HS.out.below hb3)
    have y2 : W3.cell? ⟨p, 2, none⟩ = some (.slice A n c) := HP3.out.nine.2.2.1
    have HN1 : Hid (s.cells.length = n ∧ n ≤ 60000) := Lib.hid ⟨HS.out.hn, HS.out.nl⟩
    clear eX1 hx1 hq1 eg eW3 hg3 hpg hqg hb13 hb3 x0 x1 x2 x3 x4 x5 x6 x7 x8 HP0 HQ0 HB0 HR0 HP1 HQ1 HB1 HR1
    go_wp2_with (fail)
    clear y2
    obtain ⟨F, eF⟩ : ∃ F, F = fitD (ft.testBit 0) (ft.testBit 1) (ft.testBit 2) (ft.testBit 3) := ⟨_, rfl⟩
    rw [← eF] at HN
    have EF := Lib.hid eF
    have HLE3 := Lib.hid (Nat.le_refl W3.heap.size)
    obtain ⟨base, ebase⟩ : ∃ base, base = W3.heap.size := ⟨_, rfl⟩
    have HBE : Hid (base ≤ W3.heap.size) := Lib.hid (Nat.le_of_eq ebase)
    have HBS : Hid (g < base ∧ w.heap.size ≤ base) := Lib.hid ⟨by rw [ebase]; exact HGS.out.2.2.2, by rw [ebase]; exact HB3.out.size⟩
    clear eF ebase HLE3
    go_loopw [28] (fun i wr => ∃ (k : Nat) (A' : Option Addr) (c' : Nat), k ≤ n ∧ i = .int .i64 k ∧ Hid (OwnC wr base (.slice A' k c') ((s.cells.take k).map F)) ∧ Hid (ScB wr g sO A' k c' none 0 0) ∧ Hid (ScB wr p s A n c L m cm) ∧ Hid (ScB wr q scZ none 0 0 none 0 0) ∧ Hid (Below w.heap.size w wr) ∧ Hid (base ≤ wr.heap.size)) (fun i _ => n - (intOf i).toNat)
    case atStart => exact ⟨0, none, 0, Nat.zero_le _, rfl, Lib.hid (OwnC.nil_ _ _), HG3, HP3, HQ3, HB3, HBE⟩
    case round =>
      obtain ⟨k, A', c', hk, rfl, HO, HG, HP, HQ, HBW, HBZ⟩ := hrel
      have hn6 : n ≤ 60000 := HN1.out.2
      rcases Nat.lt_or_ge k n with hlt | hge
      · have hlt' : (k : Int) < (n : Int) := by omega
        have hkl : k < s.cells.length := by rw [HN1.out.1]; exact hlt
        have hrw := Rd.below HS.out.rd HBW.out
        obtain ⟨b, off, rfl, hbl, hcd⟩ := RdC.cellsAt hrw k hkl
        obtain ⟨d, ed⟩ : ∃ d, d = s.cells[k] := ⟨_, rfl⟩
        rw [← ed] at hcd
        have hdg := HCL.out HRG.out d (by rw [ed]; exact List.getElem_mem _)
        have hM2 : Hid ((s.cells.take k).map F ++ [F d] = (s.cells.take (k + 1)).map F) := Lib.hid (by rw [ed, List.take_succ_eq_append_getElem hkl, List.map_append]; rfl)
        have HCD := Lib.hid hcd
        have HDG := Lib.hid hdg
        have y2 : wr.cell? ⟨p, 2, none⟩ = some (.slice (some ⟨b, off, none⟩) n c) := HP.out.nine.2.2.1
        clear hrw hcd ed hdg hkl
        go_upto_region 8 with (first
          | (refine wpList_load_cells rfl 47 (.tmp 34) rfl ⟨b, off + k * 6, none⟩ rfl d.cells (.agg d.arr) rfl _ (cells_load HCD.out) Tryd.underlying47 rfl (info_cell.trans rfl) ?_)
          | (refine wpList_store_rowTo rfl 47 (.tmp 7) (.tmp 35) rfl rfl wr.heap.size d.arr rfl rfl 47 _ (heap_alloc_new wr _) (info_cell.trans rfl) rfl (CeD.one _) ?_))
        generalize eX5 : World.alloc wr _ = X5
        have hx5 : Below wr.heap.size wr X5 := by rw [← eX5]; exact (Below.refl _ _).alloc (Nat.le_refl _) _
        obtain ⟨old, hq5⟩ : ∃ old, X5.heap[wr.heap.size]? = some (.cells old 47 (0, 0)) := ⟨_, by rw [← eX5]; exact heap_alloc_new _ _⟩
        obtain ⟨e, ee⟩ : ∃ e, e = wr.heap.size := ⟨_, rfl⟩
        obtain ⟨W5, eW5⟩ : ∃ W5, W5 = X5.setRow wr.heap.size d.arr := ⟨_, rfl⟩
        rw [← eW5, ← ee]
        have he5 : W5.heap[e]? = some (.cells d.arr 47 (0, 0)) := by rw [eW5, ee]; exact setRow_heap _ _ _ _ _ _ hq5
        have hb5 : Below wr.heap.size wr W5 := by rw [eW5]; exact below_setRow hx5 (Nat.le_refl _) _
        have HE5 := Lib.hid he5
        have HB5 := Lib.hid hb5
        have HEE := Lib.hid ee
        clear eX5 hx5 hq5 ee eW5 he5 hb5 y2
        obtain ⟨col, ecol⟩ : ∃ b, ft.testBit 0 = b := ⟨_, rfl⟩
        obtain ⟨tru, etru⟩ : ∃ b, ft.testBit 1 = b := ⟨_, rfl⟩
        have HCT : Hid (((ft : Int) % 2 == 1) = col ∧ ((ft : Int) / 2 % 2 == 1) = tru) := Lib.hid ⟨(ref_bits ft).1.trans ecol, (ref_bits ft).2.trans etru⟩
        have ECT : Hid (ft.testBit 0 = col ∧ ft.testBit 1 = tru) := Lib.hid ⟨ecol, etru⟩
        clear ecol etru
        refine wp_region_rt 107 15 [Rl.eq (.pointer (some ⟨e, 2, none⟩)), Rl.eq (.pointer (some ⟨e, 2, none⟩)), Rl.eq (.int .u32 d.fg), Rl.eq (.int .u32 (ft : Int)), Rl.eq (.int .u32 (fitC col tru d.fg)), Rl.eq (.pointer (some ⟨e, 2, none⟩)), Rl.eq (.pointer (some ⟨e, 3, none⟩)), Rl.eq (.int .u32 d.bg), Rl.eq (.int .u32 (ft : Int)), Rl.eq (.int .u32 (fitC col tru d.bg)), Rl.eq (.pointer (some ⟨e, 2, none⟩)), Rl.eq (.pointer (some ⟨e, 4, none⟩)), Rl.eq (.int .u8 d.at_), Rl.eq (.agg #[.int .u32 (fitC col tru d.fg), .int .u32 (fitC col tru d.bg), .int .u8 d.at_, .int .u16 0]), Rl.pen W5.heap.size] [36, 37, 38, 39, 40, 41, 42, 43, 44, 45, 46, 47, 48, 49, 8] (by kernel_rfl) rfl (by kernel_rfl) (by kernel_rfl) (by decide) (by kernel_rfl) (by kernel_rfl) ?_ ?_
        · simp only [List.take_succ_cons, List.take_zero]
          repeat (first | exact AllFrom.nil_ | (refine AllFrom.cons_ (by rfl) ?_ ?_; rotate_left))
          · intro f w' g hF hD
            have h7 : f 7 = .pointer (some ⟨e, 0, none⟩) := hF 7 (by kernel_rfl)
            rw [if_pos (wanted_none rfl)]
            clear hF hD
            exact gives_val (by simp only [execOp, evF, h7]; first | rfl | go_simp) ⟨Gr.refl _, rfl⟩
          · intro f w' g hF hD
            have h36 : f 36 = (.pointer (some ⟨e, 2, none⟩)) := hD 0 36 (by kernel_rfl) rfl
            rw [if_pos (wanted_none rfl)]
            clear hF hD
            exact gives_val (by simp only [execOp, evF, h36]; first | rfl | go_simp) ⟨Gr.refl _, rfl⟩
          · intro f w' g hF hD
            have h37 : f 37 = (.pointer (some ⟨e, 2, none⟩)) := hD 1 37 (by kernel_rfl) rfl
            rw [if_pos (wanted_none rfl)]
            clear hF hD
            have cl : w'.cell? ⟨e, 2, none⟩ = some (.int .u32 d.fg) := (heap_cell (((show Below W5.heap.size W5 w' from (below_drewN (Below.refl _ _) 1).trans g).block e (heap_lt HE5.out)).trans HE5.out) 2)
            exact gives_val (by simp only [execOp, evF, h37]; go_simp) ⟨Gr.refl _, rfl⟩
          · intro f w' g hF hD
            have h1 : f 1 = .int .u32 (ft : Int) := hF 1 (by kernel_rfl)
            rw [if_pos (wanted_none rfl)]
            clear hF hD
            exact gives_val (by simp only [execOp, evF, h1]; first | rfl | go_simp) ⟨Gr.refl _, rfl⟩
          · intro f w' g hF hD
            have h38 : f 38 = (.int .u32 d.fg) := hD 2 38 (by kernel_rfl) rfl
            have h39 : f 39 = (.int .u32 (ft : Int)) := hD 3 39 (by kernel_rfl) rfl
            rw [if_pos (wanted_none rfl)]
            clear hF hD
            refine gives_func rfl Tryd.func57 (by kernel_rfl) rfl (by simp only [List.map_toArray, List.map_cons, List.map_nil, evF, h38, h39]) ((refFit_c d.fg (ft : Int) col tru w' HDG.out.1 (by omega) (by have := HFT.out; omega) HCT.out.1 HCT.out.2).mono ?_)
            rintro e w'' ⟨rfl, hb⟩
            exact ⟨_, rfl, hb, rfl⟩
          · intro f w' g hF hD
            have h7 : f 7 = .pointer (some ⟨e, 0, none⟩) := hF 7 (by kernel_rfl)
            rw [if_pos (wanted_none rfl)]
            clear hF hD
            exact gives_val (by simp only [execOp, evF, h7]; first | rfl | go_simp) ⟨Gr.refl _, rfl⟩
          · intro f w' g hF hD
            have h41 : f 41 = (.pointer (some ⟨e, 2, none⟩)) := hD 5 41 (by kernel_rfl) rfl
            rw [if_pos (wanted_none rfl)]
            clear hF hD
            exact gives_val (by simp only [execOp, evF, h41]; first | rfl | go_simp) ⟨Gr.refl _, rfl⟩
          · intro f w' g hF hD
            have h42 : f 42 = (.pointer (some ⟨e, 3, none⟩)) := hD 6 42 (by kernel_rfl) rfl
            rw [if_pos (wanted_none rfl)]
            clear hF hD
            have cl : w'.cell? ⟨e, 3, none⟩ = some (.int .u32 d.bg) := (heap_cell (((show Below W5.heap.size W5 w' from (below_drewN (Below.refl _ _) 1).trans g).block e (heap_lt HE5.out)).trans HE5.out) 3)
            exact gives_val (by simp only [execOp, evF, h42]; go_simp) ⟨Gr.refl _, rfl⟩
          · intro f w' g hF hD
            have h1 : f 1 = .int .u32 (ft : Int) := hF 1 (by kernel_rfl)
            rw [if_pos (wanted_none rfl)]
            clear hF hD
            exact gives_val (by simp only [execOp, evF, h1]; first | rfl | go_simp) ⟨Gr.refl _, rfl⟩
          · intro f w' g hF hD
            have h43 : f 43 = (.int .u32 d.bg) := hD 7 43 (by kernel_rfl) rfl
            have h44 : f 44 = (.int .u32 (ft : Int)) := hD 8 44 (by kernel_rfl) rfl
            rw [if_pos (wanted_none rfl)]
            clear hF hD
            refine gives_func rfl Tryd.func57 (by kernel_rfl) rfl (by simp only [List.map_toArray, List.map_cons, List.map_nil, evF, h43, h44]) ((refFit_c d.bg (ft : Int) col tru w' HDG.out.2.1 (by omega) (by have := HFT.out; omega) HCT.out.1 HCT.out.2).mono ?_)
            rintro e w'' ⟨rfl, hb⟩
            exact ⟨_, rfl, hb, rfl⟩
          · intro f w' g hF hD
            have h7 : f 7 = .pointer (some ⟨e, 0, none⟩) := hF 7 (by kernel_rfl)
            rw [if_pos (wanted_none rfl)]
            clear hF hD
            exact gives_val (by simp only [execOp, evF, h7]; first | rfl | go_simp) ⟨Gr.refl _, rfl⟩
          · intro f w' g hF hD
            have h46 : f 46 = (.pointer (some ⟨e, 2, none⟩)) := hD 10 46 (by kernel_rfl) rfl
            rw [if_pos (wanted_none rfl)]
            clear hF hD
            exact gives_val (by simp only [execOp, evF, h46]; first | rfl | go_simp) ⟨Gr.refl _, rfl⟩
          · intro f w' g hF hD
            have h47 : f 47 = (.pointer (some ⟨e, 4, none⟩)) := hD 11 47 (by kernel_rfl) rfl
            rw [if_pos (wanted_none rfl)]
            clear hF hD
            have cl : w'.cell? ⟨e, 4, none⟩ = some (.int .u8 d.at_) := (heap_cell (((show Below W5.heap.size W5 w' from (below_drewN (Below.refl _ _) 1).trans g).block e (heap_lt HE5.out)).trans HE5.out) 4)
            exact gives_val (by simp only [execOp, evF, h47]; go_simp) ⟨Gr.refl _, rfl⟩
          · intro f w' g hF hD
            have h40 : f 40 = (.int .u32 (fitC col tru d.fg)) := hD 4 40 (by kernel_rfl) rfl
            have h45 : f 45 = (.int .u32 (fitC col tru d.bg)) := hD 9 45 (by kernel_rfl) rfl
            have h48 : f 48 = (.int .u8 d.at_) := hD 12 48 (by kernel_rfl) rfl
            rw [if_pos (wanted_none rfl)]
            clear hF hD
            exact gives_build 45 _ rfl #[.int .u32 (fitC col tru d.fg), .int .u32 (fitC col tru d.bg), .int .u8 d.at_, .int .u16 0] (by simp only [List.map_toArray, List.map_cons, List.map_nil, evF, h40, h45, h48]; kernel_rfl) ⟨Gr.refl _, rfl⟩
          · intro f w' g hF hD
            rw [if_pos (wanted_none rfl)]
            clear hF hD
            have kg : Below W5.heap.size W5 w' := (below_drewN (Below.refl _ _) 1).trans g
            exact gives_val (by simp only [execOp, evF]; first | rfl | go_simp) ⟨(Below.refl _ _).alloc (Nat.le_refl _) _, w'.heap.size, rfl, kg.size, heap_alloc_new _ _⟩
        intro f w6 gg hD
        obtain ⟨g8, h8, hB8, hg8⟩ : ∃ g8, f 8 = .pointer (some ⟨g8, 0, none⟩) ∧ W5.heap.size ≤ g8 ∧ w6.heap[g8]? = some (.cells #[.int .u32 0, .int .u32 0, .int .u8 0, .int .u16 0] 45 (0, 0)) := hD 14 8 (by decide) rfl
        have h49 : f 49 = .agg #[.int .u32 (fitC col tru d.fg), .int .u32 (fitC col tru d.bg), .int .u8 d.at_, .int .u16 0] := hD 13 49 (by decide) rfl
        have kg : Below W5.heap.size W5 w6 := (below_drewN (Below.refl _ _) 1).trans gg
        have he6 := (kg.block e (heap_lt HE5.out)).trans HE5.out
        have he8 : e ≠ g8 := by have := heap_lt HE5.out; omega
        simp only [List.drop_succ_cons, List.drop_zero, putAll, List.setIfInBounds_toArray, List.set_cons_zero, List.set_cons_succ, h49, h8]
        have HB6 : Hid (Below wr.heap.size wr w6) := Lib.hid (HB5.out.trans (kg.mono HB5.out.size))
        have HG8 := Lib.hid hg8
        have HE6 := Lib.hid he6
        have HS8 : Hid (wr.heap.size ≤ g8 ∧ e ≠ g8) := Lib.hid ⟨Nat.le_trans HB5.out.size hB8, he8⟩
        clear hD gg kg h8 h49 hB8 hg8 he6 he8
        go_upto_region 9 with (first
          | (refine wpList_store_rowTo rfl 45 (.tmp 8) (.tmp 49) rfl rfl g8 #[.int .u32 (fitC col tru d.fg), .int .u32 (fitC col tru d.bg), .int .u8 d.at_, .int .u16 0] rfl rfl 45 _ HG8.out (info_pen.trans rfl) rfl (by simp [Value.oneCell']) ?_))
        obtain ⟨W7, eW7⟩ : ∃ W7, W7 = w6.setRow g8 #[.int .u32 (fitC col tru d.fg), .int .u32 (fitC col tru d.bg), .int .u8 d.at_, .int .u16 0] := ⟨_, rfl⟩
        rw [← eW7]
        have he7 : W7.heap[e]? = some (.cells d.arr 47 (0, 0)) := by rw [eW7]; exact (setRow_other _ _ _ _ HS8.out.2).trans HE6.out
        have hg7 : W7.heap[g8]? = some (.cells #[.int .u32 (fitC col tru d.fg), .int .u32 (fitC col tru d.bg), .int .u8 d.at_, .int .u16 0] 45 (0, 0)) := by rw [eW7]; exact setRow_heap _ _ _ _ _ _ HG8.out
        have HB7 : Hid (Below wr.heap.size wr W7) := Lib.hid (by rw [eW7]; exact below_setRow HB6.out HS8.out.1 _)
        have x3 : W7.cell? ⟨e, 5, none⟩ = some (.int .u16 d.ln) := heap_cell he7 5
        have y3 : W7.cell? ⟨g8, 3, none⟩ = some (.int .u16 0) := heap_cell hg7 3
        have z3 := heap_free hg7 3
        have HE7 := Lib.hid he7
        have HG7 := Lib.hid hg7
        clear eW7 he7 hg7 HG8 HE6 HB6 HE5 HB5
        obtain ⟨lnk, elnk⟩ : ∃ b, ft.testBit 3 = b := ⟨_, rfl⟩
        have HLK := Lib.hid elnk
        clear elnk
        cases lnk
        · skip
          go_upto_region 11 with (first
            | (go_at_call 58; (with_reducible refine (Has_bit ft 3 8 rfl HFT.out (by decide) W7).mono ?_); rintro _ wx ⟨rfl, hwx⟩; rw [hwx, HLK.out]; clear hwx))
          obtain ⟨W8, eW8⟩ : ∃ W8, W8 = W7 := ⟨_, rfl⟩
          rw [← eW8]
          obtain ⟨D1, eD1⟩ : ∃ D1 : CeD, D1 = ⟨d.r, d.w, fitC col tru d.fg, fitC col tru d.bg, d.at_, 0⟩ := ⟨_, rfl⟩
          have hg8 : W8.heap[g8]? = some (.cells #[.int .u32 (fitC col tru d.fg), .int .u32 (fitC col tru d.bg), .int .u8 d.at_, .int .u16 0] 45 (0, 0)) := by rw [eW8]; exact HG7.out
          have he8 : W8.heap[e]? = some (.cells d.arr 47 (0, 0)) := by rw [eW8]; exact HE7.out
          have hb8 : Below wr.heap.size wr W8 := by rw [eW8]; exact HB7.out
          have v0 : W8.cell? ⟨e, 0, none⟩ = some (.int .i32 d.r) := heap_cell he8 0
          have v1 : W8.cell? ⟨e, 1, none⟩ = some (.int .u8 d.w) := heap_cell he8 1
          have HG8 := Lib.hid hg8
          have HE8 := Lib.hid he8
          have HB8 := Lib.hid hb8
          have ED1 := Lib.hid eD1
          clear eW8 hg8 he8 hb8 x3 y3 z3 HB7 HE7 HG7 eD1
          go_upto_region 12 with (first
            | (refine wpList_load_row rfl 45 (.tmp 8) rfl g8 rfl 45 _ (0, 0) _ HG8.out Tryd.underlying45 rfl (info_pen.trans rfl) ?_)
            | (refine wpList_store_rowTo rfl 47 (.tmp 9) (.tmp 61) rfl rfl W8.heap.size (CeD.arr ⟨d.r, d.w, fitC col tru d.fg, fitC col tru d.bg, d.at_, 0⟩) rfl rfl 47 _ (heap_alloc_new W8 _) (info_cell.trans rfl) rfl (CeD.one _) ?_))
          rw [← ED1.out]
          generalize eX9 : World.alloc W8 _ = X9
          have hx9 : Below W8.heap.size W8 X9 := by rw [← eX9]; exact (Below.refl _ _).alloc (Nat.le_refl _) _
          obtain ⟨old, hq9⟩ : ∃ old, X9.heap[W8.heap.size]? = some (.cells old 47 (0, 0)) := ⟨_, by rw [← eX9]; exact heap_alloc_new _ _⟩
          obtain ⟨x, ex⟩ : ∃ x, x = W8.heap.size := ⟨_, rfl⟩
          obtain ⟨W9, eW9⟩ : ∃ W9, W9 = X9.setRow W8.heap.size D1.arr := ⟨_, rfl⟩
          rw [← eW9, ← ex]
          have hx10 : W9.heap[x]? = some (.cells D1.arr 47 (0, 0)) := by rw [eW9, ex]; exact setRow_heap _ _ _ _ _ _ hq9
          have hfar : ∀ j, j < W8.heap.size → W9.heap[j]? = W8.heap[j]? := fun j hj => by rw [eW9]; exact (setRow_other _ _ _ _ (Nat.ne_of_lt hj)).trans (hx9.block j hj)
          have hg9 := (hfar g8 (heap_lt HG8.out)).trans HG8.out
          have he9 := (hfar e (heap_lt HE8.out)).trans HE8.out
          have hb9 : Below wr.heap.size wr W9 := by rw [eW9]; exact below_setRow (HB8.out.trans (hx9.mono HB8.out.size)) HB8.out.size _
          have v2 : W9.cell? ⟨e, 1, none⟩ = some (.int .u8 d.w) := heap_cell he9 1
          have HXS : Hid (wr.heap.size ≤ x ∧ g8 ≠ x ∧ e ≠ x) := Lib.hid ⟨by rw [ex]; exact HB8.out.size, by have := heap_lt HG8.out; omega, by have := heap_lt HE8.out; omega⟩
          have HE9 := Lib.hid he9
          have HX9 := Lib.hid hx10
          have HG9 := Lib.hid hg9
          have HB9 := Lib.hid hb9
          clear eX9 hx9 hq9 ex eW9 hx10 hfar hg9 he9 hb9 v0 v1 HG8 HE8 HB8
          obtain ⟨wid, ewid⟩ : ∃ b, ft.testBit 2 = b := ⟨_, rfl⟩
          have HWD := Lib.hid ewid
          clear ewid
          cases wid
          · rcases HDG.out.2.2 with hw | hw | hw
            · have k1 : (d.w == 1) = false := by rw [hw]; rfl
              have k2 : (d.w == 2) = false := by rw [hw]; rfl
              have HWV := Lib.hid hw
              clear hw
              go_upto_region 16 with (first
                | (go_at_call 58; (with_reducible refine (Has_bit ft 2 4 rfl HFT.out (by decide) _).mono ?_); rintro _ wx ⟨rfl, hwx⟩; rw [hwx, HWD.out]; clear hwx))
              have HD9 : Hid (F d = D1) := Lib.hid (by rw [EF.out, fitD, ECT.out.1, ECT.out.2, HWD.out, HLK.out, HWV.out]; rw [ED1.out]; simp [HWV.out])
              obtain ⟨D9, eD9⟩ : ∃ D : CeD, D = D1 := ⟨_, rfl⟩
              rw [← eD9] at HD9
              have HXL : Hid (W9.heap[x]? = some (.cells #[.int .i32 D9.r, .int .u8 D9.w, .int .u32 D9.fg, .int .u32 D9.bg, .int .u8 D9.at_, .int .u16 D9.ln] 47 (0, 0))) := Lib.hid (by rw [eD9]; exact HX9.out)
              have hlen : ((s.cells.take k).map F ++ [D9]).length = k + 1 := by rw [List.length_append, List.length_map, List.length_take, HN1.out.1]; simp; omega
              have HLEN := Lib.hid hlen
              have hba : Below wr.heap.size wr (W9.alloc (.cells #[.int .i32 D9.r, .int .u8 D9.w, .int .u32 D9.fg, .int .u32 D9.bg, .int .u8 D9.at_, .int .u16 D9.ln] 47)) := (HB9.out).alloc HB9.out.size _
              have HBA := Lib.hid hba
              have HOA : Hid (OwnC (W9.alloc (.cells #[.int .i32 D9.r, .int .u8 D9.w, .int .u32 D9.fg, .int .u32 D9.bg, .int .u8 D9.at_, .int .u16 D9.ln] 47)) base (.slice A' k c') ((s.cells.take k).map F)) := Lib.hid (OwnC.below HO.out hba)
              have HRA : Hid (RdC (W9.alloc (.cells #[.int .i32 D9.r, .int .u8 D9.w, .int .u32 D9.fg, .int .u32 D9.bg, .int .u8 D9.at_, .int .u16 D9.ln] 47)) (some ⟨W9.heap.size, 0, none⟩) [D9]) := Lib.hid (Rd.lit W9 (cellsC [D9]) _)
              have HGA := Lib.hid (HG.out.below hba)
              have yg : W9.cell? ⟨g, 2, none⟩ = some (.slice A' k c') := (HG.out.below HB9.out).nine.2.2.1
              have HGL : Hid (g < wr.heap.size) := Lib.hid (heap_lt HG.out)
              have hll : ((s.cells.take k).map F).length + 1 ≤ 7000000000000 := by rw [List.length_map, List.length_take]; omega
              clear hlen hba eD9
              go_upto_region 17 with (first
                | (refine wpList_load_row rfl 47 (.tmp 9) rfl x rfl 47 _ (0, 0) _ HXL.out Tryd.underlying47 rfl (info_cell.trans rfl) ?_)
                | (at_builtin; go_must (refine wpList_appC _ rfl (.tmp 83) (.tmp 85) rfl base _ ((s.cells.take k).map F) rfl HOA.out (some ⟨W9.heap.size, 0, none⟩) 1 1 [D9] rfl rfl HRA.out hll (Nat.le_trans HBZ.out HBA.out.size) ?_); intro v2 w2 q2 hg2 hv2; obtain ⟨A2, c2, e2, _⟩ := q2.form; rw [HLEN.out] at e2; subst e2; have HQ2 := Lib.hid q2; have hgg := hg2.block g (Nat.lt_of_lt_of_le HGL.out HBA.out.size) (fun e => by have h1 := (OwnC.lt HOA.out g e.symm).1; have h2 := HBS.out.1; omega); have HB2 : Hid (Below w.heap.size w w2) := Lib.hid ((HBW.out.trans (HBA.out.mono HBW.out.size)).grown hg2 (Nat.le_trans HBW.out.size HBA.out.size) (fun j e => Nat.le_trans HBS.out.2 (OwnC.lt HOA.out j e).1)); have hpp : ∀ j, j < base → j < wr.heap.size → w2.heap[j]? = wr.heap[j]? := (fun j h1 h2 => (hg2.block j (Nat.lt_of_lt_of_le h2 HBA.out.size) (fun e => by have h3 := (OwnC.lt HOA.out j e.symm).1; omega)).trans (HBA.out.block j h2)); have HPP := Lib.hid hpp; have HZ2 : Hid (wr.heap.size ≤ w2.heap.size) := Lib.hid (Nat.le_trans HBA.out.size hg2.size); clear hpp; have hgb := hgg.trans HGA.out; have yg2 : w2.cell? ⟨g, 2, none⟩ = some (.slice A' k c') := (show ScB w2 g sO A' k c' none 0 0 from hgb).nine.2.2.1; have fg2 := heap_free hgb 2; have HGB := Lib.hid hgb; have HW2 := Lib.hid hg2; clear q2 hg2 hv2 hgg hgb))
              obtain ⟨WE, eWE⟩ : ∃ WE, WE = w2.setCell ⟨g, 2, none⟩ (.slice A2 (k + 1) c2) := ⟨_, rfl⟩
              rw [← eWE]
              have hsz : WE.heap.size = w2.heap.size := by rw [eWE]; simp [World.setCell]
              have HOE : Hid (OwnC WE base (.slice A2 (k + 1) c2) ((s.cells.take (k + 1)).map F)) := Lib.hid (by
                have h := HQ2.out
                rw [← HD9.out, hM2.out] at h
                refine OwnC.keep h (fun j e => ?_)
                rw [eWE]
                exact heap_far _ (by have h1 := (OwnC.lt h j e).1; have h2 := HBS.out.1; show j ≠ g; omega))
              have HGE : Hid (ScB WE g sO A2 (k + 1) c2 none 0 0) := Lib.hid (by rw [eWE]; exact (heap_set HGB.out 2 _).trans rfl)
              have HPE : Hid (ScB WE p s (some ⟨b, off, none⟩) n c L m cm) := Lib.hid (by
                rw [eWE]
                exact (heap_far _ (by have h2 := HGS.out.1; show p ≠ g; omega)).trans ((HPP.out p (by have h1 := HGS.out.1; have h2 := HBS.out.1; omega) (heap_lt HP.out)).trans HP.out))
              have HQE : Hid (ScB WE q scZ none 0 0 none 0 0) := Lib.hid (by
                rw [eWE]
                exact (heap_far _ (by have h2 := HGS.out.2.1; show q ≠ g; omega)).trans ((HPP.out q (by have h1 := HGS.out.2.1; have h2 := HBS.out.1; omega) (heap_lt HQ.out)).trans HQ.out))
              have HBE2 : Hid (Below w.heap.size w WE) := Lib.hid (by rw [eWE]; exact below_set HB2.out g _ _ HGS.out.2.2.1)
              have HZE : Hid (base ≤ WE.heap.size) := Lib.hid (by rw [hsz]; exact Nat.le_trans HBZ.out HZ2.out)
              clear eWE hsz yg2 fg2
              go_wp2_with (fail)
              go_roundw
              case rel => exact ⟨k + 1, A2, c2, by omega, by go_num, HOE, HGE, HPE, HQE, HBE2, HZE⟩
              case measure => simp [intOf]; omega
            · have k1 : (d.w == 1) = true := by rw [hw]; rfl
              have k2 : (d.w == 2) = false := by rw [hw]; rfl
              have HWV := Lib.hid hw
              clear hw
              go_upto_region 14 with (first
                | (go_at_call 58; (with_reducible refine (Has_bit ft 2 4 rfl HFT.out (by decide) _).mono ?_); rintro _ wx ⟨rfl, hwx⟩; rw [hwx, HWD.out]; clear hwx)
                | (refine wpList_load_row rfl 45 (.tmp 8) rfl g8 rfl 45 _ (0, 0) _ HG9.out Tryd.underlying45 rfl (info_pen.trans rfl) ?_)
                | (refine wpList_store_rowTo rfl 47 (.tmp 9) (.tmp 71) rfl rfl x (CeD.arr (⟨63, 0, fitC col tru d.fg, fitC col tru d.bg, d.at_, 0⟩ : CeD)) rfl rfl 47 _ HX9.out (info_cell.trans rfl) rfl (CeD.one _) ?_))
              obtain ⟨W10, eW10⟩ : ∃ W, W = W9.setRow x (CeD.arr (⟨63, 0, fitC col tru d.fg, fitC col tru d.bg, d.at_, 0⟩ : CeD)) := ⟨_, rfl⟩
              rw [← eW10]
              have HX10 : Hid (W10.heap[x]? = some (.cells (CeD.arr (⟨63, 0, fitC col tru d.fg, fitC col tru d.bg, d.at_, 0⟩ : CeD)) 47 (0, 0))) := Lib.hid (by rw [eW10]; exact setRow_heap _ _ _ _ _ _ HX9.out)
              have HG10 := Lib.hid ((show W10.heap[g8]? = W9.heap[g8]? by rw [eW10]; exact setRow_other _ _ _ _ HXS.out.2.1).trans HG9.out)
              have HE10 := Lib.hid ((show W10.heap[e]? = W9.heap[e]? by rw [eW10]; exact setRow_other _ _ _ _ HXS.out.2.2).trans HE9.out)
              have HB10 : Hid (Below wr.heap.size wr W10) := Lib.hid (by rw [eW10]; exact below_setRow HB9.out HXS.out.1 _)
              have v3 : W10.cell? ⟨e, 1, none⟩ = some (.int .u8 d.w) := heap_cell HE10.out 1
              clear eW10
              go_upto_region 16 with (first
                | (go_at_call 58; (with_reducible refine (Has_bit ft 2 4 rfl HFT.out (by decide) _).mono ?_); rintro _ wx ⟨rfl, hwx⟩; rw [hwx, HWD.out]; clear hwx))
              have HD9 : Hid (F d = (⟨63, 0, fitC col tru d.fg, fitC col tru d.bg, d.at_, 0⟩ : CeD)) := Lib.hid (by rw [EF.out, fitD, ECT.out.1, ECT.out.2, HWD.out, HLK.out, HWV.out]; simp)
              obtain ⟨D9, eD9⟩ : ∃ D : CeD, D = (⟨63, 0, fitC col tru d.fg, fitC col tru d.bg, d.at_, 0⟩ : CeD) := ⟨_, rfl⟩
              rw [← eD9] at HD9
              have HXL : Hid (W10.heap[x]? = some (.cells #[.int .i32 D9.r, .int .u8 D9.w, .int .u32 D9.fg, .int .u32 D9.bg, .int .u8 D9.at_, .int .u16 D9.ln] 47 (0, 0))) := Lib.hid (by rw [eD9]; exact HX10.out)
              have hlen : ((s.cells.take k).map F ++ [D9]).length = k + 1 := by rw [List.length_append, List.length_map, List.length_take, HN1.out.1]; simp; omega
              have HLEN := Lib.hid hlen
              have hba : Below wr.heap.size wr (W10.alloc (.cells #[.int .i32 D9.r, .int .u8 D9.w, .int .u32 D9.fg, .int .u32 D9.bg, .int .u8 D9.at_, .int .u16 D9.ln] 47)) := (HB10.out).alloc HB10.out.size _
              have HBA := Lib.hid hba
              have HOA : Hid (OwnC (W10.alloc (.cells #[.int .i32 D9.r, .int .u8 D9.w, .int .u32 D9.fg, .int .u32 D9.bg, .int .u8 D9.at_, .int .u16 D9.ln] 47)) base (.slice A' k c') ((s.cells.take k).map F)) := Lib.hid (OwnC.below HO.out hba)
              have HRA : Hid (RdC (W10.alloc (.cells #[.int .i32 D9.r, .int .u8 D9.w, .int .u32 D9.fg, .int .u32 D9.bg, .int .u8 D9.at_, .int .u16 D9.ln] 47)) (some ⟨W10.heap.size, 0, none⟩) [D9]) := Lib.hid (Rd.lit W10 (cellsC [D9]) _)
              have HGA := Lib.hid (HG.out.below hba)
              have yg : W10.cell? ⟨g, 2, none⟩ = some (.slice A' k c') := (HG.out.below HB10.out).nine.2.2.1
              have HGL : Hid (g < wr.heap.size) := Lib.hid (heap_lt HG.out)
              have hll : ((s.cells.take k).map F).length + 1 ≤ 7000000000000 := by rw [List.length_map, List.length_take]; omega
              clear hlen hba eD9
              go_upto_region 17 with (first
                | (refine wpList_load_row rfl 47 (.tmp 9) rfl x rfl 47 _ (0, 0) _ HXL.out Tryd.underlying47 rfl (info_cell.trans rfl) ?_)
                | (at_builtin; go_must (refine wpList_appC _ rfl (.tmp 83) (.tmp 85) rfl base _ ((s.cells.take k).map F) rfl HOA.out (some ⟨W10.heap.size, 0, none⟩) 1 1 [D9] rfl rfl HRA.out hll (Nat.le_trans HBZ.out HBA.out.size) ?_); intro v2 w2 q2 hg2 hv2; obtain ⟨A2, c2, e2, _⟩ := q2.form; rw [HLEN.out] at e2; subst e2; have HQ2 := Lib.hid q2; have hgg := hg2.block g (Nat.lt_of_lt_of_le HGL.out HBA.out.size) (fun e => by have h1 := (OwnC.lt HOA.out g e.symm).1; have h2 := HBS.out.1; omega); have HB2 : Hid (Below w.heap.size w w2) := Lib.hid ((HBW.out.trans (HBA.out.mono HBW.out.size)).grown hg2 (Nat.le_trans HBW.out.size HBA.out.size) (fun j e => Nat.le_trans HBS.out.2 (OwnC.lt HOA.out j e).1)); have hpp : ∀ j, j < base → j < wr.heap.size → w2.heap[j]? = wr.heap[j]? := (fun j h1 h2 => (hg2.block j (Nat.lt_of_lt_of_le h2 HBA.out.size) (fun e => by have h3 := (OwnC.lt HOA.out j e.symm).1; omega)).trans (HBA.out.block j h2)); have HPP := Lib.hid hpp; have HZ2 : Hid (wr.heap.size ≤ w2.heap.size) := Lib.hid (Nat.le_trans HBA.out.size hg2.size); clear hpp; have hgb := hgg.trans HGA.out; have yg2 : w2.cell? ⟨g, 2, none⟩ = some (.slice A' k c') := (show ScB w2 g sO A' k c' none 0 0 from hgb).nine.2.2.1; have fg2 := heap_free hgb 2; have HGB := Lib.hid hgb; have HW2 := Lib.hid hg2; clear q2 hg2 hv2 hgg hgb))
              obtain ⟨WE, eWE⟩ : ∃ WE, WE = w2.setCell ⟨g, 2, none⟩ (.slice A2 (k + 1) c2) := ⟨_, rfl⟩
              rw [← eWE]
              have hsz : WE.heap.size = w2.heap.size := by rw [eWE]; simp [World.setCell]
              have HOE : Hid (OwnC WE base (.slice A2 (k + 1) c2) ((s.cells.take (k + 1)).map F)) := Lib.hid (by
                have h := HQ2.out
                rw [← HD9.out, hM2.out] at h
                refine OwnC.keep h (fun j e => ?_)
                rw [eWE]
                exact heap_far _ (by have h1 := (OwnC.lt h j e).1; have h2 := HBS.out.1; show j ≠ g; omega))
              have HGE : Hid (ScB WE g sO A2 (k + 1) c2 none 0 0) := Lib.hid (by rw [eWE]; exact (heap_set HGB.out 2 _).trans rfl)
              have HPE : Hid (ScB WE p s (some ⟨b, off, none⟩) n c L m cm) := Lib.hid (by
                rw [eWE]
                exact (heap_far _ (by have h2 := HGS.out.1; show p ≠ g; omega)).trans ((HPP.out p (by have h1 := HGS.out.1; have h2 := HBS.out.1; omega) (heap_lt HP.out)).trans HP.out))
              have HQE : Hid (ScB WE q scZ none 0 0 none 0 0) := Lib.hid (by
                rw [eWE]
                exact (heap_far _ (by have h2 := HGS.out.2.1; show q ≠ g; omega)).trans ((HPP.out q (by have h1 := HGS.out.2.1; have h2 := HBS.out.1; omega) (heap_lt HQ.out)).trans HQ.out))
              have HBE2 : Hid (Below w.heap.size w WE) := Lib.hid (by rw [eWE]; exact below_set HB2.out g _ _ HGS.out.2.2.1)
              have HZE : Hid (base ≤ WE.heap.size) := Lib.hid (by rw [hsz]; exact Nat.le_trans HBZ.out HZ2.out)
              clear eWE hsz yg2 fg2
              go_wp2_with (fail)
              go_roundw
              case rel => exact ⟨k + 1, A2, c2, by omega, by go_num, HOE, HGE, HPE, HQE, HBE2, HZE⟩
              case measure => simp [intOf]; omega
            · have k1 : (d.w == 1) = false := by rw [hw]; rfl
              have k2 : (d.w == 2) = true := by rw [hw]; rfl
              have HWV := Lib.hid hw
              clear hw
              go_upto_region 14 with (first
                | (go_at_call 58; (with_reducible refine (Has_bit ft 2 4 rfl HFT.out (by decide) _).mono ?_); rintro _ wx ⟨rfl, hwx⟩; rw [hwx, HWD.out]; clear hwx))
              go_upto_region 16 with (first
                | (go_at_call 58; (with_reducible refine (Has_bit ft 2 4 rfl HFT.out (by decide) _).mono ?_); rintro _ wx ⟨rfl, hwx⟩; rw [hwx, HWD.out]; clear hwx)
                | (refine wpList_load_row rfl 45 (.tmp 8) rfl g8 rfl 45 _ (0, 0) _ HG9.out Tryd.underlying45 rfl (info_pen.trans rfl) ?_)
                | (refine wpList_store_rowTo rfl 47 (.tmp 9) (.tmp 81) rfl rfl x (CeD.arr (⟨32, 0, fitC col tru d.fg, fitC col tru d.bg, d.at_, 0⟩ : CeD)) rfl rfl 47 _ HX9.out (info_cell.trans rfl) rfl (CeD.one _) ?_))
              obtain ⟨W10, eW10⟩ : ∃ W, W = W9.setRow x (CeD.arr (⟨32, 0, fitC col tru d.fg, fitC col tru d.bg, d.at_, 0⟩ : CeD)) := ⟨_, rfl⟩
              rw [← eW10]
              have HX10 : Hid (W10.heap[x]? = some (.cells (CeD.arr (⟨32, 0, fitC col tru d.fg, fitC col tru d.bg, d.at_, 0⟩ : CeD)) 47 (0, 0))) := Lib.hid (by rw [eW10]; exact setRow_heap _ _ _ _ _ _ HX9.out)
              have HG10 := Lib.hid ((show W10.heap[g8]? = W9.heap[g8]? by rw [eW10]; exact setRow_other _ _ _ _ HXS.out.2.1).trans HG9.out)
              have HE10 := Lib.hid ((show W10.heap[e]? = W9.heap[e]? by rw [eW10]; exact setRow_other _ _ _ _ HXS.out.2.2).trans HE9.out)
              have HB10 : Hid (Below wr.heap.size wr W10) := Lib.hid (by rw [eW10]; exact below_setRow HB9.out HXS.out.1 _)
              have v3 : W10.cell? ⟨e, 1, none⟩ = some (.int .u8 d.w) := heap_cell HE10.out 1
              clear eW10
              have HD9 : Hid (F d = (⟨32, 0, fitC col tru d.fg, fitC col tru d.bg, d.at_, 0⟩ : CeD)) := Lib.hid (by rw [EF.out, fitD, ECT.out.1, ECT.out.2, HWD.out, HLK.out, HWV.out]; simp)
              obtain ⟨D9, eD9⟩ : ∃ D : CeD, D = (⟨32, 0, fitC col tru d.fg, fitC col tru d.bg, d.at_, 0⟩ : CeD) := ⟨_, rfl⟩
              rw [← eD9] at HD9
              have HXL : Hid (W10.heap[x]? = some (.cells #[.int .i32 D9.r, .int .u8 D9.w, .int .u32 D9.fg, .int .u32 D9.bg, .int .u8 D9.at_, .int .u16 D9.ln] 47 (0, 0))) := Lib.hid (by rw [eD9]; exact HX10.out)
              have hlen : ((s.cells.take k).map F ++ [D9]).length = k + 1 := by rw [List.length_append, List.length_map, List.length_take, HN1.out.1]; simp; omega
              have HLEN := Lib.hid hlen
              have hba : Below wr.heap.size wr (W10.alloc (.cells #[.int .i32 D9.r, .int .u8 D9.w, .int .u32 D9.fg, .int .u32 D9.bg, .int .u8 D9.at_, .int .u16 D9.ln] 47)) := (HB10.out).alloc HB10.out.size _
              have HBA := Lib.hid hba
              have HOA : Hid (OwnC (W10.alloc (.cells #[.int .i32 D9.r, .int .u8 D9.w, .int .u32 D9.fg, .int .u32 D9.bg, .int .u8 D9.at_, .int .u16 D9.ln] 47)) base (.slice A' k c') ((s.cells.take k).map F)) := Lib.hid (OwnC.below HO.out hba)
              have HRA : Hid (RdC (W10.alloc (.cells #[.int .i32 D9.r, .int .u8 D9.w, .int .u32 D9.fg, .int .u32 D9.bg, .int .u8 D9.at_, .int .u16 D9.ln] 47)) (some ⟨W10.heap.size, 0, none⟩) [D9]) := Lib.hid (Rd.lit W10 (cellsC [D9]) _)
              have HGA := Lib.hid (HG.out.below hba)
              have yg : W10.cell? ⟨g, 2, none⟩ = some (.slice A' k c') := (HG.out.below HB10.out).nine.2.2.1
              have HGL : Hid (g < wr.heap.size) := Lib.hid (heap_lt HG.out)
              have hll : ((s.cells.take k).map F).length + 1 ≤ 7000000000000 := by rw [List.length_map, List.length_take]; omega
              clear hlen hba eD9
              go_upto_region 17 with (first
                | (refine wpList_load_row rfl 47 (.tmp 9) rfl x rfl 47 _ (0, 0) _ HXL.out Tryd.underlying47 rfl (info_cell.trans rfl) ?_)
                | (at_builtin; go_must (refine wpList_appC _ rfl (.tmp 83) (.tmp 85) rfl base _ ((s.cells.take k).map F) rfl HOA.out (some ⟨W10.heap.size, 0, none⟩) 1 1 [D9] rfl rfl HRA.out hll (Nat.le_trans HBZ.out HBA.out.size) ?_); intro v2 w2 q2 hg2 hv2; obtain ⟨A2, c2, e2, _⟩ := q2.form; rw [HLEN.out] at e2; subst e2; have HQ2 := Lib.hid q2; have hgg := hg2.block g (Nat.lt_of_lt_of_le HGL.out HBA.out.size) (fun e => by have h1 := (OwnC.lt HOA.out g e.symm).1; have h2 := HBS.out.1; omega); have HB2 : Hid (Below w.heap.size w w2) := Lib.hid ((HBW.out.trans (HBA.out.mono HBW.out.size)).grown hg2 (Nat.le_trans HBW.out.size HBA.out.size) (fun j e => Nat.le_trans HBS.out.2 (OwnC.lt HOA.out j e).1)); have hpp : ∀ j, j < base → j < wr.heap.size → w2.heap[j]? = wr.heap[j]? := (fun j h1 h2 => (hg2.block j (Nat.lt_of_lt_of_le h2 HBA.out.size) (fun e => by have h3 := (OwnC.lt HOA.out j e.symm).1; omega)).trans (HBA.out.block j h2)); have HPP := Lib.hid hpp; have HZ2 : Hid (wr.heap.size ≤ w2.heap.size) := Lib.hid (Nat.le_trans HBA.out.size hg2.size); clear hpp; have hgb := hgg.trans HGA.out; have yg2 : w2.cell? ⟨g, 2, none⟩ = some (.slice A' k c') := (show ScB w2 g sO A' k c' none 0 0 from hgb).nine.2.2.1; have fg2 := heap_free hgb 2; have HGB := Lib.hid hgb; have HW2 := Lib.hid hg2; clear q2 hg2 hv2 hgg hgb))
              obtain ⟨WE, eWE⟩ : ∃ WE, WE = w2.setCell ⟨g, 2, none⟩ (.slice A2 (k + 1) c2) := ⟨_, rfl⟩
              rw [← eWE]
              have hsz : WE.heap.size = w2.heap.size := by rw [eWE]; simp [World.setCell]
              have HOE : Hid (OwnC WE base (.slice A2 (k + 1) c2) ((s.cells.take (k + 1)).map F)) := Lib.hid (by
                have h := HQ2.out
                rw [← HD9.out, hM2.out] at h
                refine OwnC.keep h (fun j e => ?_)
                rw [eWE]
                exact heap_far _ (by have h1 := (OwnC.lt h j e).1; have h2 := HBS.out.1; show j ≠ g; omega))
              have HGE : Hid (ScB WE g sO A2 (k + 1) c2 none 0 0) := Lib.hid (by rw [eWE]; exact (heap_set HGB.out 2 _).trans rfl)
              have HPE : Hid (ScB WE p s (some ⟨b, off, none⟩) n c L m cm) := Lib.hid (by
                rw [eWE]
                exact (heap_far _ (by have h2 := HGS.out.1; show p ≠ g; omega)).trans ((HPP.out p (by have h1 := HGS.out.1; have h2 := HBS.out.1; omega) (heap_lt HP.out)).trans HP.out))
              have HQE : Hid (ScB WE q scZ none 0 0 none 0 0) := Lib.hid (by
                rw [eWE]
                exact (heap_far _ (by have h2 := HGS.out.2.1; show q ≠ g; omega)).trans ((HPP.out q (by have h1 := HGS.out.2.1; have h2 := HBS.out.1; omega) (heap_lt HQ.out)).trans HQ.out))
              have HBE2 : Hid (Below w.heap.size w WE) := Lib.hid (by rw [eWE]; exact below_set HB2.out g _ _ HGS.out.2.2.1)
              have HZE : Hid (base ≤ WE.heap.size) := Lib.hid (by rw [hsz]; exact Nat.le_trans HBZ.out HZ2.out)
              clear eWE hsz yg2 fg2
              go_wp2_with (fail)
              go_roundw
              case rel => exact ⟨k + 1, A2, c2, by omega, by go_num, HOE, HGE, HPE, HQE, HBE2, HZE⟩
              case measure => simp [intOf]; omega
          · go_upto_region 16 with (first
              | (go_at_call 58; (with_reducible refine (Has_bit ft 2 4 rfl HFT.out (by decide) _).mono ?_); rintro _ wx ⟨rfl, hwx⟩; rw [hwx, HWD.out]; clear hwx))
            have HD9 : Hid (F d = D1) := Lib.hid (by rw [EF.out, fitD, ECT.out.1, ECT.out.2, HWD.out, HLK.out]; rw [ED1.out]; simp)
            obtain ⟨D9, eD9⟩ : ∃ D : CeD, D = D1 := ⟨_, rfl⟩
            rw [← eD9] at HD9
            have HXL : Hid (W9.heap[x]? = some (.cells #[.int .i32 D9.r, .int .u8 D9.w, .int .u32 D9.fg, .int .u32 D9.bg, .int .u8 D9.at_, .int .u16 D9.ln] 47 (0, 0))) := Lib.hid (by rw [eD9]; exact HX9.out)
            have hlen : ((s.cells.take k).map F ++ [D9]).length = k + 1 := by rw [List.length_append, List.length_map, List.length_take, HN1.out.1]; simp; omega
            have HLEN := Lib.hid hlen
            have hba : Below wr.heap.size wr (W9.alloc (.cells #[.int .i32 D9.r, .int .u8 D9.w, .int .u32 D9.fg, .int .u32 D9.bg, .int .u8 D9.at_, .int .u16 D9.ln] 47)) := (HB9.out).alloc HB9.out.size _
            have HBA := Lib.hid hba
            have HOA : Hid (OwnC (W9.alloc (.cells #[.int .i32 D9.r, .int .u8 D9.w, .int .u32 D9.fg, .int .u32 D9.bg, .int .u8 D9.at_, .int .u16 D9.ln] 47)) base (.slice A' k c') ((s.cells.take k).map F)) := Lib.hid (OwnC.below HO.out hba)
            have HRA : Hid (RdC (W9.alloc (.cells #[.int .i32 D9.r, .int .u8 D9.w, .int .u32 D9.fg, .int .u32 D9.bg, .int .u8 D9.at_, .int .u16 D9.ln] 47)) (some ⟨W9.heap.size, 0, none⟩) [D9]) := Lib.hid (Rd.lit W9 (cellsC [D9]) _)
            have HGA := Lib.hid (HG.out.below hba)
            have yg : W9.cell? ⟨g, 2, none⟩ = some (.slice A' k c') := (HG.out.below HB9.out).nine.2.2.1
            have HGL : Hid (g < wr.heap.size) := Lib.hid (heap_lt HG.out)
            have hll : ((s.cells.take k).map F).length + 1 ≤ 7000000000000 := by rw [List.length_map, List.length_take]; omega
            clear hlen hba eD9
            go_upto_region 17 with (first
              | (refine wpList_load_row rfl 47 (.tmp 9) rfl x rfl 47 _ (0, 0) _ HXL.out Tryd.underlying47 rfl (info_cell.trans rfl) ?_)
              | (at_builtin; go_must (refine wpList_appC _ rfl (.tmp 83) (.tmp 85) rfl base _ ((s.cells.take k).map F) rfl HOA.out (some ⟨W9.heap.size, 0, none⟩) 1 1 [D9] rfl rfl HRA.out hll (Nat.le_trans HBZ.out HBA.out.size) ?_); intro v2 w2 q2 hg2 hv2; obtain ⟨A2, c2, e2, _⟩ := q2.form; rw [HLEN.out] at e2; subst e2; have HQ2 := Lib.hid q2; have hgg := hg2.block g (Nat.lt_of_lt_of_le HGL.out HBA.out.size) (fun e => by have h1 := (OwnC.lt HOA.out g e.symm).1; have h2 := HBS.out.1; omega); have HB2 : Hid (Below w.heap.size w w2) := Lib.hid ((HBW.out.trans (HBA.out.mono HBW.out.size)).grown hg2 (Nat.le_trans HBW.out.size HBA.out.size) (fun j e => Nat.le_trans HBS.out.2 (OwnC.lt HOA.out j e).1)); have hpp : ∀ j, j < base → j < wr.heap.size → w2.heap[j]? = wr.heap[j]? := (fun j h1 h2 => (hg2.block j (Nat.lt_of_lt_of_le h2 HBA.out.size) (fun e => by have h3 := (OwnC.lt HOA.out j e.symm).1; omega)).trans (HBA.out.block j h2)); have HPP := Lib.hid hpp; have HZ2 : Hid (wr.heap.size ≤ w2.heap.size) := Lib.hid (Nat.le_trans HBA.out.size hg2.size); clear hpp; have hgb := hgg.trans HGA.out; have yg2 : w2.cell? ⟨g, 2, none⟩ = some (.slice A' k c') := (show ScB w2 g sO A' k c' none 0 0 from hgb).nine.2.2.1; have fg2 := heap_free hgb 2; have HGB := Lib.hid hgb; have HW2 := Lib.hid hg2; clear q2 hg2 hv2 hgg hgb))
            obtain ⟨WE, eWE⟩ : ∃ WE, WE = w2.setCell ⟨g, 2, none⟩ (.slice A2 (k + 1) c2) := ⟨_, rfl⟩
            rw [← eWE]
            have hsz : WE.heap.size = w2.heap.size := by rw [eWE]; simp [World.setCell]
            have HOE : Hid (OwnC WE base (.slice A2 (k + 1) c2) ((s.cells.take (k + 1)).map F)) := Lib.hid (by
              have h := HQ2.out
              rw [← HD9.out, hM2.out] at h
              refine OwnC.keep h (fun j e => ?_)
              rw [eWE]
              exact heap_far _ (by have h1 := (OwnC.lt h j e).1; have h2 := HBS.out.1; show j ≠ g; omega))
            have HGE : Hid (ScB WE g sO A2 (k + 1) c2 none 0 0) := Lib.hid (by rw [eWE]; exact (heap_set HGB.out 2 _).trans rfl)
            have HPE : Hid (ScB WE p s (some ⟨b, off, none⟩) n c L m cm) := Lib.hid (by
              rw [eWE]
              exact (heap_far _ (by have h2 := HGS.out.1; show p ≠ g; omega)).trans ((HPP.out p (by have h1 := HGS.out.1; have h2 := HBS.out.1; omega) (heap_lt HP.out)).trans HP.out))
            have HQE : Hid (ScB WE q scZ none 0 0 none 0 0) := Lib.hid (by
              rw [eWE]
              exact (heap_far _ (by have h2 := HGS.out.2.1; show q ≠ g; omega)).trans ((HPP.out q (by have h1 := HGS.out.2.1; have h2 := HBS.out.1; omega) (heap_lt HQ.out)).trans HQ.out))
            have HBE2 : Hid (Below w.heap.size w WE) := Lib.hid (by rw [eWE]; exact below_set HB2.out g _ _ HGS.out.2.2.1)
            have HZE : Hid (base ≤ WE.heap.size) := Lib.hid (by rw [hsz]; exact Nat.le_trans HBZ.out HZ2.out)
            clear eWE hsz yg2 fg2
            go_wp2_with (fail)
            go_roundw
            case rel => exact ⟨k + 1, A2, c2, by omega, by go_num, HOE, HGE, HPE, HQE, HBE2, HZE⟩
            case measure => simp [intOf]; omega
        · skip
          go_upto_region 11 with (first
            | (go_at_call 58; (with_reducible refine (Has_bit ft 3 8 rfl HFT.out (by decide) W7).mono ?_); rintro _ wx ⟨rfl, hwx⟩; rw [hwx, HLK.out]; clear hwx))
          obtain ⟨W8, eW8⟩ : ∃ W8, W8 = W7.setCell ⟨g8, 3, none⟩ (.int .u16 d.ln) := ⟨_, rfl⟩
          rw [← eW8]
          obtain ⟨D1, eD1⟩ : ∃ D1 : CeD, D1 = ⟨d.r, d.w, fitC col tru d.fg, fitC col tru d.bg, d.at_, d.ln⟩ := ⟨_, rfl⟩
          have hg8 : W8.heap[g8]? = some (.cells #[.int .u32 (fitC col tru d.fg), .int .u32 (fitC col tru d.bg), .int .u8 d.at_, .int .u16 d.ln] 45 (0, 0)) := by rw [eW8, heap_set HG7.out 3 _]; rfl
          have he8 : W8.heap[e]? = some (.cells d.arr 47 (0, 0)) := by rw [eW8]; exact (heap_far _ HS8.out.2).trans HE7.out
          have hb8 : Below wr.heap.size wr W8 := by rw [eW8]; exact below_set HB7.out g8 _ _ HS8.out.1
          have v0 : W8.cell? ⟨e, 0, none⟩ = some (.int .i32 d.r) := heap_cell he8 0
          have v1 : W8.cell? ⟨e, 1, none⟩ = some (.int .u8 d.w) := heap_cell he8 1
          have HG8 := Lib.hid hg8
          have HE8 := Lib.hid he8
          have HB8 := Lib.hid hb8
          have ED1 := Lib.hid eD1
          clear eW8 hg8 he8 hb8 x3 y3 z3 HB7 HE7 HG7 eD1
          go_upto_region 12 with (first
            | (refine wpList_load_row rfl 45 (.tmp 8) rfl g8 rfl 45 _ (0, 0) _ HG8.out Tryd.underlying45 rfl (info_pen.trans rfl) ?_)
            | (refine wpList_store_rowTo rfl 47 (.tmp 9) (.tmp 61) rfl rfl W8.heap.size (CeD.arr ⟨d.r, d.w, fitC col tru d.fg, fitC col tru d.bg, d.at_, d.ln⟩) rfl rfl 47 _ (heap_alloc_new W8 _) (info_cell.trans rfl) rfl (CeD.one _) ?_))
          rw [← ED1.out]
          generalize eX9 : World.alloc W8 _ = X9
          have hx9 : Below W8.heap.size W8 X9 := by rw [← eX9]; exact (Below.refl _ _).alloc (Nat.le_refl _) _
          obtain ⟨old, hq9⟩ : ∃ old, X9.heap[W8.heap.size]? = some (.cells old 47 (0, 0)) := ⟨_, by rw [← eX9]; exact heap_alloc_new _ _⟩
          obtain ⟨x, ex⟩ : ∃ x, x = W8.heap.size := ⟨_, rfl⟩
          obtain ⟨W9, eW9⟩ : ∃ W9, W9 = X9.setRow W8.heap.size D1.arr := ⟨_, rfl⟩
          rw [← eW9, ← ex]
          have hx10 : W9.heap[x]? = some (.cells D1.arr 47 (0, 0)) := by rw [eW9, ex]; exact setRow_heap _ _ _ _ _ _ hq9
          have hfar : ∀ j, j < W8.heap.size → W9.heap[j]? = W8.heap[j]? := fun j hj => by rw [eW9]; exact (setRow_other _ _ _ _ (Nat.ne_of_lt hj)).trans (hx9.block j hj)
          have hg9 := (hfar g8 (heap_lt HG8.out)).trans HG8.out
          have he9 := (hfar e (heap_lt HE8.out)).trans HE8.out
          have hb9 : Below wr.heap.size wr W9 := by rw [eW9]; exact below_setRow (HB8.out.trans (hx9.mono HB8.out.size)) HB8.out.size _
          have v2 : W9.cell? ⟨e, 1, none⟩ = some (.int .u8 d.w) := heap_cell he9 1
          have HXS : Hid (wr.heap.size ≤ x ∧ g8 ≠ x ∧ e ≠ x) := Lib.hid ⟨by rw [ex]; exact HB8.out.size, by have := heap_lt HG8.out; omega, by have := heap_lt HE8.out; omega⟩
          have HE9 := Lib.hid he9
          have HX9 := Lib.hid hx10
          have HG9 := Lib.hid hg9
          have HB9 := Lib.hid hb9
          clear eX9 hx9 hq9 ex eW9 hx10 hfar hg9 he9 hb9 v0 v1 HG8 HE8 HB8
          obtain ⟨wid, ewid⟩ : ∃ b, ft.testBit 2 = b := ⟨_, rfl⟩
          have HWD := Lib.hid ewid
          clear ewid
          cases wid
          · rcases HDG.out.2.2 with hw | hw | hw
            · have k1 : (d.w == 1) = false := by rw [hw]; rfl
              have k2 : (d.w == 2) = false := by rw [hw]; rfl
              have HWV := Lib.hid hw
              clear hw
              go_upto_region 16 with (first
                | (go_at_call 58; (with_reducible refine (Has_bit ft 2 4 rfl HFT.out (by decide) _).mono ?_); rintro _ wx ⟨rfl, hwx⟩; rw [hwx, HWD.out]; clear hwx))
              have HD9 : Hid (F d = D1) := Lib.hid (by rw [EF.out, fitD, ECT.out.1, ECT.out.2, HWD.out, HLK.out, HWV.out]; rw [ED1.out]; simp [HWV.out])
              obtain ⟨D9, eD9⟩ : ∃ D : CeD, D = D1 := ⟨_, rfl⟩
              rw [← eD9] at HD9
              have HXL : Hid (W9.heap[x]? = some (.cells #[.int .i32 D9.r, .int .u8 D9.w, .int .u32 D9.fg, .int .u32 D9.bg, .int .u8 D9.at_, .int .u16 D9.ln] 47 (0, 0))) := Lib.hid (by rw [eD9]; exact HX9.out)
              have hlen : ((s.cells.take k).map F ++ [D9]).length = k + 1 := by rw [List.length_append, List.length_map, List.length_take, HN1.out.1]; simp; omega
              have HLEN := Lib.hid hlen
              have hba : Below wr.heap.size wr (W9.alloc (.cells #[.int .i32 D9.r, .int .u8 D9.w, .int .u32 D9.fg, .int .u32 D9.bg, .int .u8 D9.at_, .int .u16 D9.ln] 47)) := (HB9.out).alloc HB9.out.size _
              have HBA := Lib.hid hba
              have HOA : Hid (OwnC (W9.alloc (.cells #[.int .i32 D9.r, .int .u8 D9.w, .int .u32 D9.fg, .int .u32 D9.bg, .int .u8 D9.at_, .int .u16 D9.ln] 47)) base (.slice A' k c') ((s.cells.take k).map F)) := Lib.hid (OwnC.below HO.out hba)
              have HRA : Hid (RdC (W9.alloc (.cells #[.int .i32 D9.r, .int .u8 D9.w, .int .u32 D9.fg, .int .u32 D9.bg, .int .u8 D9.at_, .int .u16 D9.ln] 47)) (some ⟨W9.heap.size, 0, none⟩) [D9]) := Lib.hid (Rd.lit W9 (cellsC [D9]) _)
              have HGA := Lib.hid (HG.out.below hba)
              have yg : W9.cell? ⟨g, 2, none⟩ = some (.slice A' k c') := (HG.out.below HB9.out).nine.2.2.1
              have HGL : Hid (g < wr.heap.size) := Lib.hid (heap_lt HG.out)
              have hll : ((s.cells.take k).map F).length + 1 ≤ 7000000000000 := by rw [List.length_map, List.length_take]; omega
              clear hlen hba eD9
              go_upto_region 17 with (first
                | (refine wpList_load_row rfl 47 (.tmp 9) rfl x rfl 47 _ (0, 0) _ HXL.out Tryd.underlying47 rfl (info_cell.trans rfl) ?_)
                | (at_builtin; go_must (refine wpList_appC _ rfl (.tmp 83) (.tmp 85) rfl base _ ((s.cells.take k).map F) rfl HOA.out (some ⟨W9.heap.size, 0, none⟩) 1 1 [D9] rfl rfl HRA.out hll (Nat.le_trans HBZ.out HBA.out.size) ?_); intro v2 w2 q2 hg2 hv2; obtain ⟨A2, c2, e2, _⟩ := q2.form; rw [HLEN.out] at e2; subst e2; have HQ2 := Lib.hid q2; have hgg := hg2.block g (Nat.lt_of_lt_of_le HGL.out HBA.out.size) (fun e => by have h1 := (OwnC.lt HOA.out g e.symm).1; have h2 := HBS.out.1; omega); have HB2 : Hid (Below w.heap.size w w2) := Lib.hid ((HBW.out.trans (HBA.out.mono HBW.out.size)).grown hg2 (Nat.le_trans HBW.out.size HBA.out.size) (fun j e => Nat.le_trans HBS.out.2 (OwnC.lt HOA.out j e).1)); have hpp : ∀ j, j < base → j < wr.heap.size → w2.heap[j]? = wr.heap[j]? := (fun j h1 h2 => (hg2.block j (Nat.lt_of_lt_of_le h2 HBA.out.size) (fun e => by have h3 := (OwnC.lt HOA.out j e.symm).1; omega)).trans (HBA.out.block j h2)); have HPP := Lib.hid hpp; have HZ2 : Hid (wr.heap.size ≤ w2.heap.size) := Lib.hid (Nat.le_trans HBA.out.size hg2.size); clear hpp; have hgb := hgg.trans HGA.out; have yg2 : w2.cell? ⟨g, 2, none⟩ = some (.slice A' k c') := (show ScB w2 g sO A' k c' none 0 0 from hgb).nine.2.2.1; have fg2 := heap_free hgb 2; have HGB := Lib.hid hgb; have HW2 := Lib.hid hg2; clear q2 hg2 hv2 hgg hgb))
              obtain ⟨WE, eWE⟩ : ∃ WE, WE = w2.setCell ⟨g, 2, none⟩ (.slice A2 (k + 1) c2) := ⟨_, rfl⟩
              rw [← eWE]
              have hsz : WE.heap.size = w2.heap.size := by rw [eWE]; simp [World.setCell]
              have HOE : Hid (OwnC WE base (.slice A2 (k + 1) c2) ((s.cells.take (k + 1)).map F)) := Lib.hid (by
                have h := HQ2.out
                rw [← HD9.out, hM2.out] at h
                refine OwnC.keep h (fun j e => ?_)
                rw [eWE]
                exact heap_far _ (by have h1 := (OwnC.lt h j e).1; have h2 := HBS.out.1; show j ≠ g; omega))
              have HGE : Hid (ScB WE g sO A2 (k + 1) c2 none 0 0) := Lib.hid (by rw [eWE]; exact (heap_set HGB.out 2 _).trans rfl)
              have HPE : Hid (ScB WE p s (some ⟨b, off, none⟩) n c L m cm) := Lib.hid (by
                rw [eWE]
                exact (heap_far _ (by have h2 := HGS.out.1; show p ≠ g; omega)).trans ((HPP.out p (by have h1 := HGS.out.1; have h2 := HBS.out.1; omega) (heap_lt HP.out)).trans HP.out))
              have HQE : Hid (ScB WE q scZ none 0 0 none 0 0) := Lib.hid (by
                rw [eWE]
                exact (heap_far _ (by have h2 := HGS.out.2.1; show q ≠ g; omega)).trans ((HPP.out q (by have h1 := HGS.out.2.1; have h2 := HBS.out.1; omega) (heap_lt HQ.out)).trans HQ.out))
              have HBE2 : Hid (Below w.heap.size w WE) := Lib.hid (by rw [eWE]; exact below_set HB2.out g _ _ HGS.out.2.2.1)
              have HZE : Hid (base ≤ WE.heap.size) := Lib.hid (by rw [hsz]; exact Nat.le_trans HBZ.out HZ2.out)
              clear eWE hsz yg2 fg2
              go_wp2_with (fail)
              go_roundw
              case rel => exact ⟨k + 1, A2, c2, by omega, by go_num, HOE, HGE, HPE, HQE, HBE2, HZE⟩
              case measure => simp [intOf]; omega
            · have k1 : (d.w == 1) = true := by rw [hw]; rfl
              have k2 : (d.w == 2) = false := by rw [hw]; rfl
              have HWV := Lib.hid hw
              clear hw
              go_upto_region 14 with (first
                | (go_at_call 58; (with_reducible refine (Has_bit ft 2 4 rfl HFT.out (by decide) _).mono ?_); rintro _ wx ⟨rfl, hwx⟩; rw [hwx, HWD.out]; clear hwx)
                | (refine wpList_load_row rfl 45 (.tmp 8) rfl g8 rfl 45 _ (0, 0) _ HG9.out Tryd.underlying45 rfl (info_pen.trans rfl) ?_)
                | (refine wpList_store_rowTo rfl 47 (.tmp 9) (.tmp 71) rfl rfl x (CeD.arr (⟨63, 0, fitC col tru d.fg, fitC col tru d.bg, d.at_, d.ln⟩ : CeD)) rfl rfl 47 _ HX9.out (info_cell.trans rfl) rfl (CeD.one _) ?_))
              obtain ⟨W10, eW10⟩ : ∃ W, W = W9.setRow x (CeD.arr (⟨63, 0, fitC col tru d.fg, fitC col tru d.bg, d.at_, d.ln⟩ : CeD)) := ⟨_, rfl⟩
              rw [← eW10]
              have HX10 : Hid (W10.heap[x]? = some (.cells (CeD.arr (⟨63, 0, fitC col tru d.fg, fitC col tru d.bg, d.at_, d.ln⟩ : CeD)) 47 (0, 0))) := Lib.hid (by rw [eW10]; exact setRow_heap _ _ _ _ _ _ HX9.out)
              have HG10 := Lib.hid ((show W10.heap[g8]? = W9.heap[g8]? by rw [eW10]; exact setRow_other _ _ _ _ HXS.out.2.1).trans HG9.out)
              have HE10 := Lib.hid ((show W10.heap[e]? = W9.heap[e]? by rw [eW10]; exact setRow_other _ _ _ _ HXS.out.2.2).trans HE9.out)
              have HB10 : Hid (Below wr.heap.size wr W10) := Lib.hid (by rw [eW10]; exact below_setRow HB9.out HXS.out.1 _)
              have v3 : W10.cell? ⟨e, 1, none⟩ = some (.int .u8 d.w) := heap_cell HE10.out 1
              clear eW10
              go_upto_region 16 with (first
                | (go_at_call 58; (with_reducible refine (Has_bit ft 2 4 rfl HFT.out (by decide) _).mono ?_); rintro _ wx ⟨rfl, hwx⟩; rw [hwx, HWD.out]; clear hwx))
              have HD9 : Hid (F d = (⟨63, 0, fitC col tru d.fg, fitC col tru d.bg, d.at_, d.ln⟩ : CeD)) := Lib.hid (by rw [EF.out, fitD, ECT.out.1, ECT.out.2, HWD.out, HLK.out, HWV.out]; simp)
              obtain ⟨D9, eD9⟩ : ∃ D : CeD, D = (⟨63, 0, fitC col tru d.fg, fitC col tru d.bg, d.at_, d.ln⟩ : CeD) := ⟨_, rfl⟩
              rw [← eD9] at HD9
              have HXL : Hid (W10.heap[x]? = some (.cells #[.int .i32 D9.r, .int .u8 D9.w, .int .u32 D9.fg, .int .u32 D9.bg, .int .u8 D9.at_, .int .u16 D9.ln] 47 (0, 0))) := Lib.hid (by rw [eD9]; exact HX10.out)
              have hlen : ((s.cells.take k).map F ++ [D9]).length = k + 1 := by rw [List.length_append, List.length_map, List.length_take, HN1.out.1]; simp; omega
              have HLEN := Lib.hid hlen
              have hba : Below wr.heap.size wr (W10.alloc (.cells #[.int .i32 D9.r, .int .u8 D9.w, .int .u32 D9.fg, .int .u32 D9.bg, .int .u8 D9.at_, .int .u16 D9.ln] 47)) := (HB10.out).alloc HB10.out.size _
              have HBA := Lib.hid hba
              have HOA : Hid (OwnC (W10.alloc (.cells #[.int .i32 D9.r, .int .u8 D9.w, .int .u32 D9.fg, .int .u32 D9.bg, .int .u8 D9.at_, .int .u16 D9.ln] 47)) base (.slice A' k c') ((s.cells.take k).map F)) := Lib.hid (OwnC.below HO.out hba)
              have HRA : Hid (RdC (W10.alloc (.cells #[.int .i32 D9.r, .int .u8 D9.w, .int .u32 D9.fg, .int .u32 D9.bg, .int .u8 D9.at_, .int .u16 D9.ln] 47)) (some ⟨W10.heap.size, 0, none⟩) [D9]) := Lib.hid (Rd.lit W10 (cellsC [D9]) _)
              have HGA := Lib.hid (HG.out.below hba)
              have yg : W10.cell? ⟨g, 2, none⟩ = some (.slice A' k c') := (HG.out.below HB10.out).nine.2.2.1
              have HGL : Hid (g < wr.heap.size) := Lib.hid (heap_lt HG.out)
              have hll : ((s.cells.take k).map F).length + 1 ≤ 7000000000000 := by rw [List.length_map, List.length_take]; omega
              clear hlen hba eD9
              go_upto_region 17 with (first
                | (refine wpList_load_row rfl 47 (.tmp 9) rfl x rfl 47 _ (0, 0) _ HXL.out Tryd.underlying47 rfl (info_cell.trans rfl) ?_)
                | (at_builtin; go_must (refine wpList_appC _ rfl (.tmp 83) (.tmp 85) rfl base _ ((s.cells.take k).map F) rfl HOA.out (some ⟨W10.heap.size, 0, none⟩) 1 1 [D9] rfl rfl HRA.out hll (Nat.le_trans HBZ.out HBA.out.size) ?_); intro v2 w2 q2 hg2 hv2; obtain ⟨A2, c2, e2, _⟩ := q2.form; rw [HLEN.out] at e2; subst e2; have HQ2 := Lib.hid q2; have hgg := hg2.block g (Nat.lt_of_lt_of_le HGL.out HBA.out.size) (fun e => by have h1 := (OwnC.lt HOA.out g e.symm).1; have h2 := HBS.out.1; omega); have HB2 : Hid (Below w.heap.size w w2) := Lib.hid ((HBW.out.trans (HBA.out.mono HBW.out.size)).grown hg2 (Nat.le_trans HBW.out.size HBA.out.size) (fun j e => Nat.le_trans HBS.out.2 (OwnC.lt HOA.out j e).1)); have hpp : ∀ j, j < base → j < wr.heap.size → w2.heap[j]? = wr.heap[j]? := (fun j h1 h2 => (hg2.block j (Nat.lt_of_lt_of_le h2 HBA.out.size) (fun e => by have h3 := (OwnC.lt HOA.out j e.symm).1; omega)).trans (HBA.out.block j h2)); have HPP := Lib.hid hpp; have HZ2 : Hid (wr.heap.size ≤ w2.heap.size) := Lib.hid (Nat.le_trans HBA.out.size hg2.size); clear hpp; have hgb := hgg.trans HGA.out; have yg2 : w2.cell? ⟨g, 2, none⟩ = some (.slice A' k c') := (show ScB w2 g sO A' k c' none 0 0 from hgb).nine.2.2.1; have fg2 := heap_free hgb 2; have HGB := Lib.hid hgb; have HW2 := Lib.hid hg2; clear q2 hg2 hv2 hgg hgb))
              obtain ⟨WE, eWE⟩ : ∃ WE, WE = w2.setCell ⟨g, 2, none⟩ (.slice A2 (k + 1) c2) := ⟨_, rfl⟩
              rw [← eWE]
              have hsz : WE.heap.size = w2.heap.size := by rw [eWE]; simp [World.setCell]
              have HOE : Hid (OwnC WE base (.slice A2 (k + 1) c2) ((s.cells.take (k + 1)).map F)) := Lib.hid (by
                have h := HQ2.out
                rw [← HD9.out, hM2.out] at h
                refine OwnC.keep h (fun j e => ?_)
                rw [eWE]
                exact heap_far _ (by have h1 := (OwnC.lt h j e).1; have h2 := HBS.out.1; show j ≠ g; omega))
              have HGE : Hid (ScB WE g sO A2 (k + 1) c2 none 0 0) := Lib.hid (by rw [eWE]; exact (heap_set HGB.out 2 _).trans rfl)
              have HPE : Hid (ScB WE p s (some ⟨b, off, none⟩) n c L m cm) := Lib.hid (by
                rw [eWE]
                exact (heap_far _ (by have h2 := HGS.out.1; show p ≠ g; omega)).trans ((HPP.out p (by have h1 := HGS.out.1; have h2 := HBS.out.1; omega) (heap_lt HP.out)).trans HP.out))
              have HQE : Hid (ScB WE q scZ none 0 0 none 0 0) := Lib.hid (by
                rw [eWE]
                exact (heap_far _ (by have h2 := HGS.out.2.1; show q ≠ g; omega)).trans ((HPP.out q (by have h1 := HGS.out.2.1; have h2 := HBS.out.1; omega) (heap_lt HQ.out)).trans HQ.out))
              have HBE2 : Hid (Below w.heap.size w WE) := Lib.hid (by rw [eWE]; exact below_set HB2.out g _ _ HGS.out.2.2.1)
              have HZE : Hid (base ≤ WE.heap.size) := Lib.hid (by rw [hsz]; exact Nat.le_trans HBZ.out HZ2.out)
              clear eWE hsz yg2 fg2
              go_wp2_with (fail)
              go_roundw
              case rel => exact ⟨k + 1, A2, c2, by omega, by go_num, HOE, HGE, HPE, HQE, HBE2, HZE⟩
              case measure => simp [intOf]; omega
            · have k1 : (d.w == 1) = false := by rw [hw]; rfl
              have k2 : (d.w == 2) = true := by rw [hw]; rfl
              have HWV := Lib.hid hw
              clear hw
              go_upto_region 14 with (first
                | (go_at_call 58; (with_reducible refine (Has_bit ft 2 4 rfl HFT.out (by decide) _).mono ?_); rintro _ wx ⟨rfl, hwx⟩; rw [hwx, HWD.out]; clear hwx))
              go_upto_region 16 with (first
                | (go_at_call 58; (with_reducible refine (Has_bit ft 2 4 rfl HFT.out (by decide) _).mono ?_); rintro _ wx ⟨rfl, hwx⟩; rw [hwx, HWD.out]; clear hwx)
                | (refine wpList_load_row rfl 45 (.tmp 8) rfl g8 rfl 45 _ (0, 0) _ HG9.out Tryd.underlying45 rfl (info_pen.trans rfl) ?_)
                | (refine wpList_store_rowTo rfl 47 (.tmp 9) (.tmp 81) rfl rfl x (CeD.arr (⟨32, 0, fitC col tru d.fg, fitC col tru d.bg, d.at_, d.ln⟩ : CeD)) rfl rfl 47 _ HX9.out (info_cell.trans rfl) rfl (CeD.one _) ?_))
              obtain ⟨W10, eW10⟩ : ∃ W, W = W9.setRow x (CeD.arr (⟨32, 0, fitC col tru d.fg, fitC col tru d.bg, d.at_, d.ln⟩ : CeD)) := ⟨_, rfl⟩
              rw [← eW10]
              have HX10 : Hid (W10.heap[x]? = some (.cells (CeD.arr (⟨32, 0, fitC col tru d.fg, fitC col tru d.bg, d.at_, d.ln⟩ : CeD)) 47 (0, 0))) := Lib.hid (by rw [eW10]; exact setRow_heap _ _ _ _ _ _ HX9.out)
              have HG10 := Lib.hid ((show W10.heap[g8]? = W9.heap[g8]? by rw [eW10]; exact setRow_other _ _ _ _ HXS.out.2.1).trans HG9.out)
              have HE10 := Lib.hid ((show W10.heap[e]? = W9.heap[e]? by rw [eW10]; exact setRow_other _ _ _ _ HXS.out.2.2).trans HE9.out)
              have HB10 : Hid (Below wr.heap.size wr W10) := Lib.hid (by rw [eW10]; exact below_setRow HB9.out HXS.out.1 _)
              have v3 : W10.cell? ⟨e, 1, none⟩ = some (.int .u8 d.w) := heap_cell HE10.out 1
              clear eW10
              have HD9 : Hid (F d = (⟨32, 0, fitC col tru d.fg, fitC col tru d.bg, d.at_, d.ln⟩ : CeD)) := Lib.hid (by rw [EF.out, fitD, ECT.out.1, ECT.out.2, HWD.out, HLK.out, HWV.out]; simp)
              obtain ⟨D9, eD9⟩ : ∃ D : CeD, D = (⟨32, 0, fitC col tru d.fg, fitC col tru d.bg, d.at_, d.ln⟩ : CeD) := ⟨_, rfl⟩
              rw [← eD9] at HD9
              have HXL : Hid (W10.heap[x]? = some (.cells #[.int .i32 D9.r, .int .u8 D9.w, .int .u32 D9.fg, .int .u32 D9.bg, .int .u8 D9.at_, .int .u16 D9.ln] 47 (0, 0))) := Lib.hid (by rw [eD9]; exact HX10.out)
              have hlen : ((s.cells.take k).map F ++ [D9]).length = k + 1 := by rw [List.length_append, List.length_map, List.length_take, HN1.out.1]; simp; omega
              have HLEN := Lib.hid hlen
              have hba : Below wr.heap.size wr (W10.alloc (.cells #[.int .i32 D9.r, .int .u8 D9.w, .int .u32 D9.fg, .int .u32 D9.bg, .int .u8 D9.at_, .int .u16 D9.ln] 47)) := (HB10.out).alloc HB10.out.size _
              have HBA := Lib.hid hba
              have HOA : Hid (OwnC (W10.alloc (.cells #[.int .i32 D9.r, .int .u8 D9.w, .int .u32 D9.fg, .int .u32 D9.bg, .int .u8 D9.at_, .int .u16 D9.ln] 47)) base (.slice A' k c') ((s.cells.take k).map F)) := Lib.hid (OwnC.below HO.out hba)
              have HRA : Hid (RdC (W10.alloc (.cells #[.int .i32 D9.r, .int .u8 D9.w, .int .u32 D9.fg, .int .u32 D9.bg, .int .u8 D9.at_, .int .u16 D9.ln] 47)) (some ⟨W10.heap.size, 0, none⟩) [D9]) := Lib.hid (Rd.lit W10 (cellsC [D9]) _)
              have HGA := Lib.hid (HG.out.below hba)
              have yg : W10.cell? ⟨g, 2, none⟩ = some (.slice A' k c') := (HG.out.below HB10.out).nine.2.2.1
              have HGL : Hid (g < wr.heap.size) := Lib.hid (heap_lt HG.out)
              have hll : ((s.cells.take k).map F).length + 1 ≤ 7000000000000 := by rw [List.length_map, List.length_take]; omega
              clear hlen hba eD9
              go_upto_region 17 with (first
                | (refine wpList_load_row rfl 47 (.tmp 9) rfl x rfl 47 _ (0, 0) _ HXL.out Tryd.underlying47 rfl (info_cell.trans rfl) ?_)
                | (at_builtin; go_must (refine wpList_appC _ rfl (.tmp 83) (.tmp 85) rfl base _ ((s.cells.take k).map F) rfl HOA.out (some ⟨W10.heap.size, 0, none⟩) 1 1 [D9] rfl rfl HRA.out hll (Nat.le_trans HBZ.out HBA.out.size) ?_); intro v2 w2 q2 hg2 hv2; obtain ⟨A2, c2, e2, _⟩ := q2.form; rw [HLEN.out] at e2; subst e2; have HQ2 := Lib.hid q2; have hgg := hg2.block g (Nat.lt_of_lt_of_le HGL.out HBA.out.size) (fun e => by have h1 := (OwnC.lt HOA.out g e.symm).1; have h2 := HBS.out.1; omega); have HB2 : Hid (Below w.heap.size w w2) := Lib.hid ((HBW.out.trans (HBA.out.mono HBW.out.size)).grown hg2 (Nat.le_trans HBW.out.size HBA.out.size) (fun j e => Nat.le_trans HBS.out.2 (OwnC.lt HOA.out j e).1)); have hpp : ∀ j, j < base → j < wr.heap.size → w2.heap[j]? = wr.heap[j]? := (fun j h1 h2 => (hg2.block j (Nat.lt_of_lt_of_le h2 HBA.out.size) (fun e => by have h3 := (OwnC.lt HOA.out j e.symm).1; omega)).trans (HBA.out.block j h2)); have HPP := Lib.hid hpp; have HZ2 : Hid (wr.heap.size ≤ w2.heap.size) := Lib.hid (Nat.le_trans HBA.out.size hg2.size); clear hpp; have hgb := hgg.trans HGA.out; have yg2 : w2.cell? ⟨g, 2, none⟩ = some (.slice A' k c') := (show ScB w2 g sO A' k c' none 0 0 from hgb).nine.2.2.1; have fg2 := heap_free hgb 2; have HGB := Lib.hid hgb; have HW2 := Lib.hid hg2; clear q2 hg2 hv2 hgg hgb))
              obtain ⟨WE, eWE⟩ : ∃ WE, WE = w2.setCell ⟨g, 2, none⟩ (.slice A2 (k + 1) c2) := ⟨_, rfl⟩
              rw [← eWE]
              have hsz : WE.heap.size = w2.heap.size := by rw [eWE]; simp [World.setCell]
              have HOE : Hid (OwnC WE base (.slice A2 (k + 1) c2) ((s.cells.take (k + 1)).map F)) := Lib.hid (by
                have h := HQ2.out
                rw [← HD9.out, hM2.out] at h
                refine OwnC.keep h (fun j e => ?_)
                rw [eWE]
                exact heap_far _ (by have h1 := (OwnC.lt h j e).1; have h2 := HBS.out.1; show j ≠ g; omega))
              have HGE : Hid (ScB WE g sO A2 (k + 1) c2 none 0 0) := Lib.hid (by rw [eWE]; exact (heap_set HGB.out 2 _).trans rfl)
              have HPE : Hid (ScB WE p s (some ⟨b, off, none⟩) n c L m cm) := Lib.hid (by
                rw [eWE]
                exact (heap_far _ (by have h2 := HGS.out.1; show p ≠ g; omega)).trans ((HPP.out p (by have h1 := HGS.out.1; have h2 := HBS.out.1; omega) (heap_lt HP.out)).trans HP.out))
              have HQE : Hid (ScB WE q scZ none 0 0 none 0 0) := Lib.hid (by
                rw [eWE]
                exact (heap_far _ (by have h2 := HGS.out.2.1; show q ≠ g; omega)).trans ((HPP.out q (by have h1 := HGS.out.2.1; have h2 := HBS.out.1; omega) (heap_lt HQ.out)).trans HQ.out))
              have HBE2 : Hid (Below w.heap.size w WE) := Lib.hid (by rw [eWE]; exact below_set HB2.out g _ _ HGS.out.2.2.1)
              have HZE : Hid (base ≤ WE.heap.size) := Lib.hid (by rw [hsz]; exact Nat.le_trans HBZ.out HZ2.out)
              clear eWE hsz yg2 fg2
              go_wp2_with (fail)
              go_roundw
              case rel => exact ⟨k + 1, A2, c2, by omega, by go_num, HOE, HGE, HPE, HQE, HBE2, HZE⟩
              case measure => simp [intOf]; omega
          · go_upto_region 16 with (first
              | (go_at_call 58; (with_reducible refine (Has_bit ft 2 4 rfl HFT.out (by decide) _).mono ?_); rintro _ wx ⟨rfl, hwx⟩; rw [hwx, HWD.out]; clear hwx))
            have HD9 : Hid (F d = D1) := Lib.hid (by rw [EF.out, fitD, ECT.out.1, ECT.out.2, HWD.out, HLK.out]; rw [ED1.out]; simp)
            obtain ⟨D9, eD9⟩ : ∃ D : CeD, D = D1 := ⟨_, rfl⟩
            rw [← eD9] at HD9
            have HXL : Hid (W9.heap[x]? = some (.cells #[.int .i32 D9.r, .int .u8 D9.w, .int .u32 D9.fg, .int .u32 D9.bg, .int .u8 D9.at_, .int .u16 D9.ln] 47 (0, 0))) := Lib.hid (by rw [eD9]; exact HX9.out)
            have hlen : ((s.cells.take k).map F ++ [D9]).length = k + 1 := by rw [List.length_append, List.length_map, List.length_take, HN1.out.1]; simp; omega
            have HLEN := Lib.hid hlen
            have hba : Below wr.heap.size wr (W9.alloc (.cells #[.int .i32 D9.r, .int .u8 D9.w, .int .u32 D9.fg, .int .u32 D9.bg, .int .u8 D9.at_, .int .u16 D9.ln] 47)) := (HB9.out).alloc HB9.out.size _
            have HBA := Lib.hid hba
            have HOA : Hid (OwnC (W9.alloc (.cells #[.int .i32 D9.r, .int .u8 D9.w, .int .u32 D9.fg, .int .u32 D9.bg, .int .u8 D9.at_, .int .u16 D9.ln] 47)) base (.slice A' k c') ((s.cells.take k).map F)) := Lib.hid (OwnC.below HO.out hba)
            have HRA : Hid (RdC (W9.alloc (.cells #[.int .i32 D9.r, .int .u8 D9.w, .int .u32 D9.fg, .int .u32 D9.bg, .int .u8 D9.at_, .int .u16 D9.ln] 47)) (some ⟨W9.heap.size, 0, none⟩) [D9]) := Lib.hid (Rd.lit W9 (cellsC [D9]) _)
            have HGA := Lib.hid (HG.out.below hba)
            have yg : W9.cell? ⟨g, 2, none⟩ = some (.slice A' k c') := (HG.out.below HB9.out).nine.2.2.1
            have HGL : Hid (g < wr.heap.size) := Lib.hid (heap_lt HG.out)
            have hll : ((s.cells.take k).map F).length + 1 ≤ 7000000000000 := by rw [List.length_map, List.length_take]; omega
            clear hlen hba eD9
            go_upto_region 17 with (first
              | (refine wpList_load_row rfl 47 (.tmp 9) rfl x rfl 47 _ (0, 0) _ HXL.out Tryd.underlying47 rfl (info_cell.trans rfl) ?_)
              | (at_builtin; go_must (refine wpList_appC _ rfl (.tmp 83) (.tmp 85) rfl base _ ((s.cells.take k).map F) rfl HOA.out (some ⟨W9.heap.size, 0, none⟩) 1 1 [D9] rfl rfl HRA.out hll (Nat.le_trans HBZ.out HBA.out.size) ?_); intro v2 w2 q2 hg2 hv2; obtain ⟨A2, c2, e2, _⟩ := q2.form; rw [HLEN.out] at e2; subst e2; have HQ2 := Lib.hid q2; have hgg := hg2.block g (Nat.lt_of_lt_of_le HGL.out HBA.out.size) (fun e => by have h1 := (OwnC.lt HOA.out g e.symm).1; have h2 := HBS.out.1; omega); have HB2 : Hid (Below w.heap.size w w2) := Lib.hid ((HBW.out.trans (HBA.out.mono HBW.out.size)).grown hg2 (Nat.le_trans HBW.out.size HBA.out.size) (fun j e => Nat.le_trans HBS.out.2 (OwnC.lt HOA.out j e).1)); have hpp : ∀ j, j < base → j < wr.heap.size → w2.heap[j]? = wr.heap[j]? := (fun j h1 h2 => (hg2.block j (Nat.lt_of_lt_of_le h2 HBA.out.size) (fun e => by have h3 := (OwnC.lt HOA.out j e.symm).1; omega)).trans (HBA.out.block j h2)); have HPP := Lib.hid hpp; have HZ2 : Hid (wr.heap.size ≤ w2.heap.size) := Lib.hid (Nat.le_trans HBA.out.size hg2.size); clear hpp; have hgb := hgg.trans HGA.out; have yg2 : w2.cell? ⟨g, 2, none⟩ = some (.slice A' k c') := (show ScB w2 g sO A' k c' none 0 0 from hgb).nine.2.2.1; have fg2 := heap_free hgb 2; have HGB := Lib.hid hgb; have HW2 := Lib.hid hg2; clear q2 hg2 hv2 hgg hgb))
            obtain ⟨WE, eWE⟩ : ∃ WE, WE = w2.setCell ⟨g, 2, none⟩ (.slice A2 (k + 1) c2) := ⟨_, rfl⟩
            rw [← eWE]
            have hsz : WE.heap.size = w2.heap.size := by rw [eWE]; simp [World.setCell]
            have HOE : Hid (OwnC WE base (.slice A2 (k + 1) c2) ((s.cells.take (k + 1)).map F)) := Lib.hid (by
              have h := HQ2.out
              rw [← HD9.out, hM2.out] at h
              refine OwnC.keep h (fun j e => ?_)
              rw [eWE]
              exact heap_far _ (by have h1 := (OwnC.lt h j e).1; have h2 := HBS.out.1; show j ≠ g; omega))
            have HGE : Hid (ScB WE g sO A2 (k + 1) c2 none 0 0) := Lib.hid (by rw [eWE]; exact (heap_set HGB.out 2 _).trans rfl)
            have HPE : Hid (ScB WE p s (some ⟨b, off, none⟩) n c L m cm) := Lib.hid (by
              rw [eWE]
              exact (heap_far _ (by have h2 := HGS.out.1; show p ≠ g; omega)).trans ((HPP.out p (by have h1 := HGS.out.1; have h2 := HBS.out.1; omega) (heap_lt HP.out)).trans HP.out))
            have HQE : Hid (ScB WE q scZ none 0 0 none 0 0) := Lib.hid (by
              rw [eWE]
              exact (heap_far _ (by have h2 := HGS.out.2.1; show q ≠ g; omega)).trans ((HPP.out q (by have h1 := HGS.out.2.1; have h2 := HBS.out.1; omega) (heap_lt HQ.out)).trans HQ.out))
            have HBE2 : Hid (Below w.heap.size w WE) := Lib.hid (by rw [eWE]; exact below_set HB2.out g _ _ HGS.out.2.2.1)
            have HZE : Hid (base ≤ WE.heap.size) := Lib.hid (by rw [hsz]; exact Nat.le_trans HBZ.out HZ2.out)
            clear eWE hsz yg2 fg2
            go_wp2_with (fail)
            go_roundw
            case rel => exact ⟨k + 1, A2, c2, by omega, by go_num, HOE, HGE, HPE, HQE, HBE2, HZE⟩
            case measure => simp [intOf]; omega
      · obtain rfl : n = k := by omega
        have hge' : ¬ ((n : Int) < (n : Int)) := by omega
        have HC0 : Hid (OwnC wr base (.slice A' n c') (s.cells.map F)) := Lib.hid (by have h := HO.out; rw [List.take_of_length_le (by rw [HN1.out.1]; exact Nat.le_refl _)] at h; exact h)
        have HG0 : Hid (ScB wr g ⟨s.cols, s.rows, [], s.x, s.y, s.hid, 0, ⟨#[]⟩, []⟩ A' n c' none 0 0) := Lib.hid (by have h := HG.out; rw [EO.out] at h; exact h)
        have HRw := Lib.hid (HS.out.below HBW.out)
        have HAO : Hid (∀ a, A' = some a → a.off = 0 ∧ a.spot = none) := Lib.hid (fun a e => by
          obtain ⟨A2, c2, e2, _, _, _, h, _⟩ := HC0.out.form
          injection e2 with e2
          exact ⟨(h a (by rw [← e2]; exact e)).2.2.1, (h a (by rw [← e2]; exact e)).2.2.2⟩)
        have HSZ : Hid (g < wr.heap.size ∧ p < wr.heap.size ∧ q < wr.heap.size) := Lib.hid ⟨heap_lt HG.out, heap_lt HP.out, heap_lt HQ.out⟩
        clear hge hk HO HG
        go_upto_region 18 with (fail)
        obtain ⟨lnk, elnk⟩ : ∃ b, ft.testBit 3 = b := ⟨_, rfl⟩
        obtain ⟨ttl, ettl⟩ : ∃ b, ft.testBit 4 = b := ⟨_, rfl⟩
        obtain ⟨mou, emou⟩ : ∃ b, ft.testBit 5 = b := ⟨_, rfl⟩
        rw [elnk, ettl, emou] at HN
        have HL1 := Lib.hid elnk
        have HL2 := Lib.hid ettl
        have HL3 := Lib.hid emou
        clear elnk ettl emou
        cases lnk
        · cases ttl
          · cases mou
            · skip
              go_upto_region 20 with ((go_at_call 58; (with_reducible refine (Has_bit ft 3 8 rfl HFT.out (by decide) _).mono ?_); rintro _ wx ⟨rfl, hwx⟩; rw [hwx, HL1.out]; clear hwx))
              obtain ⟨V1, eV1⟩ : ∃ W, W = wr := ⟨_, rfl⟩
              rw [← eV1]
              rw [← eV1] at HG0 HP HQ HC0
              have HG1 := HG0
              have HP1 := HP
              have HQ1 := HQ
              have HC1 := HC0
              have HB1 : Hid (Below w.heap.size w V1) := Lib.hid (by rw [eV1]; exact HBW.out)
              clear eV1
              go_upto_region 22 with ((go_at_call 58; (with_reducible refine (Has_bit ft 4 16 rfl HFT.out (by decide) _).mono ?_); rintro _ wx ⟨rfl, hwx⟩; rw [hwx, HL2.out]; clear hwx))
              go_upto_region 24 with ((go_at_call 58; (with_reducible refine (Has_bit ft 5 32 rfl HFT.out (by decide) _).mono ?_); rintro _ wx ⟨rfl, hwx⟩; rw [hwx, HL3.out]; clear hwx))
              have hN : N = ⟨s.cols, s.rows, s.cells.map F, s.x, s.y, s.hid, 0, ⟨#[]⟩, []⟩ := HN.out
              have HG9 : Hid (ScB V1 g N A' n c' none 0 0) := Lib.hid (by rw [hN]; exact HG1.out)
              have HNN := Lib.hid hN
              clear hN
              go_wp2_with (first
                | (refine wpList_load_row rfl 25 (.tmp 5) rfl g rfl 25 _ (0, 0) _ HG9.out Tryd.underlying25 rfl (info_sc.trans rfl) ?_)
                | (refine wpList_store_row rfl 25 (.tmp 4) (.tmp 106) rfl q (scC N A' n c' none 0 0) rfl rfl 25 _ HQ1.out (info_sc.trans rfl) rfl (sc_one _ _ _ _ _ _ _) ?_))
              refine bodyPost_ret (v := .agg (scC N A' n c' none 0 0)) (results_cell_row (p := 4) (ty := 25) rfl _ _ q 25 _ (0, 0) _ rfl (setRow_heap V1 q _ _ _ _ HQ1.out) Tryd.underlying25 rfl (info_sc.trans rfl)) rfl ?_
              have hk : ∀ Z j, j ≠ q → (V1.setRow q Z).heap[j]? = V1.heap[j]? := fun Z j e => setRow_other _ _ _ _ e
              refine ⟨A', n, c', none, 0, 0, rfl, ?_, ?_, ?_, below_setRow HB1.out HPQ.out.2.1 _⟩
              · rw [HNN.out]
                exact OwnC.low (OwnC.keep HC1.out (fun j e => hk _ j (by have h1 := (OwnC.lt HC0.out j e).1; have h2 := HGS.out.2.1; have h3 := HBS.out.1; omega))) HBS.out.2
              · rw [HNN.out]
                exact World.ownsRow_nil _ _ _ _
              · exact fun a b _ h => by cases h
            · skip
              go_upto_region 20 with ((go_at_call 58; (with_reducible refine (Has_bit ft 3 8 rfl HFT.out (by decide) _).mono ?_); rintro _ wx ⟨rfl, hwx⟩; rw [hwx, HL1.out]; clear hwx))
              obtain ⟨V1, eV1⟩ : ∃ W, W = wr := ⟨_, rfl⟩
              rw [← eV1]
              rw [← eV1] at HG0 HP HQ HC0
              have HG1 := HG0
              have HP1 := HP
              have HQ1 := HQ
              have HC1 := HC0
              have HB1 : Hid (Below w.heap.size w V1) := Lib.hid (by rw [eV1]; exact HBW.out)
              clear eV1
              go_upto_region 22 with ((go_at_call 58; (with_reducible refine (Has_bit ft 4 16 rfl HFT.out (by decide) _).mono ?_); rintro _ wx ⟨rfl, hwx⟩; rw [hwx, HL2.out]; clear hwx))
              have x6 : V1.cell? ⟨p, 6, none⟩ = some (.int .u8 s.mouse) := HP1.out.nine.2.2.2.2.2.2.1
              have y6 : V1.cell? ⟨g, 6, none⟩ = some (.int .u8 0) := HG1.out.nine.2.2.2.2.2.2.1
              have f6 : V1.frozen? ⟨g, 6, none⟩ = false := heap_free HG1.out 6
              go_upto_region 24 with ((go_at_call 58; (with_reducible refine (Has_bit ft 5 32 rfl HFT.out (by decide) _).mono ?_); rintro _ wx ⟨rfl, hwx⟩; rw [hwx, HL3.out]; clear hwx))
              obtain ⟨V2, eV2⟩ : ∃ W, W = V1.setCell ⟨g, 6, none⟩ (.int .u8 s.mouse) := ⟨_, rfl⟩
              rw [← eV2]
              have hfar : ∀ j, j ≠ g → V2.heap[j]? = V1.heap[j]? := fun j hj => by rw [eV2]; exact heap_far _ hj
              have HG2 : Hid (ScB V2 g ⟨s.cols, s.rows, [], s.x, s.y, s.hid, s.mouse, ⟨#[]⟩, []⟩ A' n c' none 0 0) := Lib.hid (by rw [eV2]; exact heap_set HG1.out 6 _)
              have HP2 : Hid (ScB V2 p s A n c L m cm) := Lib.hid ((hfar p (by have := HGS.out.1; omega)).trans HP1.out)
              have HQ2 : Hid (ScB V2 q scZ none 0 0 none 0 0) := Lib.hid ((hfar q (by have := HGS.out.2.1; omega)).trans HQ1.out)
              have HC2 : Hid (OwnC V2 base (.slice A' n c') (s.cells.map F)) := Lib.hid (OwnC.keep HC1.out (fun j e => hfar j (by have h1 := (OwnC.lt HC0.out j e).1; have h2 := HBS.out.1; omega)))
              have HB2 : Hid (Below w.heap.size w V2) := Lib.hid (by rw [eV2]; exact below_set HB1.out g _ _ HGS.out.2.2.1)
              clear eV2 hfar x6 y6 f6
              have hN : N = ⟨s.cols, s.rows, s.cells.map F, s.x, s.y, s.hid, s.mouse, ⟨#[]⟩, []⟩ := HN.out
              have HG9 : Hid (ScB V2 g N A' n c' none 0 0) := Lib.hid (by rw [hN]; exact HG2.out)
              have HNN := Lib.hid hN
              clear hN
              go_wp2_with (first
                | (refine wpList_load_row rfl 25 (.tmp 5) rfl g rfl 25 _ (0, 0) _ HG9.out Tryd.underlying25 rfl (info_sc.trans rfl) ?_)
                | (refine wpList_store_row rfl 25 (.tmp 4) (.tmp 106) rfl q (scC N A' n c' none 0 0) rfl rfl 25 _ HQ2.out (info_sc.trans rfl) rfl (sc_one _ _ _ _ _ _ _) ?_))
              refine bodyPost_ret (v := .agg (scC N A' n c' none 0 0)) (results_cell_row (p := 4) (ty := 25) rfl _ _ q 25 _ (0, 0) _ rfl (setRow_heap V2 q _ _ _ _ HQ2.out) Tryd.underlying25 rfl (info_sc.trans rfl)) rfl ?_
              have hk : ∀ Z j, j ≠ q → (V2.setRow q Z).heap[j]? = V2.heap[j]? := fun Z j e => setRow_other _ _ _ _ e
              refine ⟨A', n, c', none, 0, 0, rfl, ?_, ?_, ?_, below_setRow HB2.out HPQ.out.2.1 _⟩
              · rw [HNN.out]
                exact OwnC.low (OwnC.keep HC2.out (fun j e => hk _ j (by have h1 := (OwnC.lt HC0.out j e).1; have h2 := HGS.out.2.1; have h3 := HBS.out.1; omega))) HBS.out.2
              · rw [HNN.out]
                exact World.ownsRow_nil _ _ _ _
              · exact fun a b _ h => by cases h
          · cases mou
            · skip
              go_upto_region 20 with ((go_at_call 58; (with_reducible refine (Has_bit ft 3 8 rfl HFT.out (by decide) _).mono ?_); rintro _ wx ⟨rfl, hwx⟩; rw [hwx, HL1.out]; clear hwx))
              obtain ⟨V1, eV1⟩ : ∃ W, W = wr := ⟨_, rfl⟩
              rw [← eV1]
              rw [← eV1] at HG0 HP HQ HC0
              have HG1 := HG0
              have HP1 := HP
              have HQ1 := HQ
              have HC1 := HC0
              have HB1 : Hid (Below w.heap.size w V1) := Lib.hid (by rw [eV1]; exact HBW.out)
              clear eV1
              have x7 : V1.cell? ⟨p, 7, none⟩ = some (.string s.title) := HP1.out.nine.2.2.2.2.2.2.2.1
              have y7 : V1.cell? ⟨g, 7, none⟩ = some (.string ⟨#[]⟩) := HG1.out.nine.2.2.2.2.2.2.2.1
              have f7 : V1.frozen? ⟨g, 7, none⟩ = false := heap_free HG1.out 7
              go_upto_region 22 with ((go_at_call 58; (with_reducible refine (Has_bit ft 4 16 rfl HFT.out (by decide) _).mono ?_); rintro _ wx ⟨rfl, hwx⟩; rw [hwx, HL2.out]; clear hwx))
              obtain ⟨V2, eV2⟩ : ∃ W, W = V1.setCell ⟨g, 7, none⟩ (.string s.title) := ⟨_, rfl⟩
              rw [← eV2]
              have hfar : ∀ j, j ≠ g → V2.heap[j]? = V1.heap[j]? := fun j hj => by rw [eV2]; exact heap_far _ hj
              have HG2 : Hid (ScB V2 g ⟨s.cols, s.rows, [], s.x, s.y, s.hid, 0, s.title, []⟩ A' n c' none 0 0) := Lib.hid (by rw [eV2]; exact heap_set HG1.out 7 _)
              have HP2 : Hid (ScB V2 p s A n c L m cm) := Lib.hid ((hfar p (by have := HGS.out.1; omega)).trans HP1.out)
              have HQ2 : Hid (ScB V2 q scZ none 0 0 none 0 0) := Lib.hid ((hfar q (by have := HGS.out.2.1; omega)).trans HQ1.out)
              have HC2 : Hid (OwnC V2 base (.slice A' n c') (s.cells.map F)) := Lib.hid (OwnC.keep HC1.out (fun j e => hfar j (by have h1 := (OwnC.lt HC0.out j e).1; have h2 := HBS.out.1; omega)))
              have HB2 : Hid (Below w.heap.size w V2) := Lib.hid (by rw [eV2]; exact below_set HB1.out g _ _ HGS.out.2.2.1)
              clear eV2 hfar x7 y7 f7
              go_upto_region 24 with ((go_at_call 58; (with_reducible refine (Has_bit ft 5 32 rfl HFT.out (by decide) _).mono ?_); rintro _ wx ⟨rfl, hwx⟩; rw [hwx, HL3.out]; clear hwx))
              have hN : N = ⟨s.cols, s.rows, s.cells.map F, s.x, s.y, s.hid, 0, s.title, []⟩ := HN.out
              have HG9 : Hid (ScB V2 g N A' n c' none 0 0) := Lib.hid (by rw [hN]; exact HG2.out)
              have HNN := Lib.hid hN
              clear hN
              go_wp2_with (first
                | (refine wpList_load_row rfl 25 (.tmp 5) rfl g rfl 25 _ (0, 0) _ HG9.out Tryd.underlying25 rfl (info_sc.trans rfl) ?_)
                | (refine wpList_store_row rfl 25 (.tmp 4) (.tmp 106) rfl q (scC N A' n c' none 0 0) rfl rfl 25 _ HQ2.out (info_sc.trans rfl) rfl (sc_one _ _ _ _ _ _ _) ?_))
              refine bodyPost_ret (v := .agg (scC N A' n c' none 0 0)) (results_cell_row (p := 4) (ty := 25) rfl _ _ q 25 _ (0, 0) _ rfl (setRow_heap V2 q _ _ _ _ HQ2.out) Tryd.underlying25 rfl (info_sc.trans rfl)) rfl ?_
              have hk : ∀ Z j, j ≠ q → (V2.setRow q Z).heap[j]? = V2.heap[j]? := fun Z j e => setRow_other _ _ _ _ e
              refine ⟨A', n, c', none, 0, 0, rfl, ?_, ?_, ?_, below_setRow HB2.out HPQ.out.2.1 _⟩
              · rw [HNN.out]
                exact OwnC.low (OwnC.keep HC2.out (fun j e => hk _ j (by have h1 := (OwnC.lt HC0.out j e).1; have h2 := HGS.out.2.1; have h3 := HBS.out.1; omega))) HBS.out.2
              · rw [HNN.out]
                exact World.ownsRow_nil _ _ _ _
              · exact fun a b _ h => by cases h
            · skip
              go_upto_region 20 with ((go_at_call 58; (with_reducible refine (Has_bit ft 3 8 rfl HFT.out (by decide) _).mono ?_); rintro _ wx ⟨rfl, hwx⟩; rw [hwx, HL1.out]; clear hwx))
              obtain ⟨V1, eV1⟩ : ∃ W, W = wr := ⟨_, rfl⟩
              rw [← eV1]
              rw [← eV1] at HG0 HP HQ HC0
              have HG1 := HG0
              have HP1 := HP
              have HQ1 := HQ
              have HC1 := HC0
              have HB1 : Hid (Below w.heap.size w V1) := Lib.hid (by rw [eV1]; exact HBW.out)
              clear eV1
              have x7 : V1.cell? ⟨p, 7, none⟩ = some (.string s.title) := HP1.out.nine.2.2.2.2.2.2.2.1
              have y7 : V1.cell? ⟨g, 7, none⟩ = some (.string ⟨#[]⟩) := HG1.out.nine.2.2.2.2.2.2.2.1
              have f7 : V1.frozen? ⟨g, 7, none⟩ = false := heap_free HG1.out 7
              go_upto_region 22 with ((go_at_call 58; (with_reducible refine (Has_bit ft 4 16 rfl HFT.out (by decide) _).mono ?_); rintro _ wx ⟨rfl, hwx⟩; rw [hwx, HL2.out]; clear hwx))
              obtain ⟨V2, eV2⟩ : ∃ W, W = V1.setCell ⟨g, 7, none⟩ (.string s.title) := ⟨_, rfl⟩
              rw [← eV2]
              have hfar : ∀ j, j ≠ g → V2.heap[j]? = V1.heap[j]? := fun j hj => by rw [eV2]; exact heap_far _ hj
              have HG2 : Hid (ScB V2 g ⟨s.cols, s.rows, [], s.x, s.y, s.hid, 0, s.title, []⟩ A' n c' none 0 0) := Lib.hid (by rw [eV2]; exact heap_set HG1.out 7 _)
              have HP2 : Hid (ScB V2 p s A n c L m cm) := Lib.hid ((hfar p (by have := HGS.out.1; omega)).trans HP1.out)
              have HQ2 : Hid (ScB V2 q scZ none 0 0 none 0 0) := Lib.hid ((hfar q (by have := HGS.out.2.1; omega)).trans HQ1.out)
              have HC2 : Hid (OwnC V2 base (.slice A' n c') (s.cells.map F)) := Lib.hid (OwnC.keep HC1.out (fun j e => hfar j (by have h1 := (OwnC.lt HC0.out j e).1; have h2 := HBS.out.1; omega)))
              have HB2 : Hid (Below w.heap.size w V2) := Lib.hid (by rw [eV2]; exact below_set HB1.out g _ _ HGS.out.2.2.1)
              clear eV2 hfar x7 y7 f7
              have x6 : V2.cell? ⟨p, 6, none⟩ = some (.int .u8 s.mouse) := HP2.out.nine.2.2.2.2.2.2.1
              have y6 : V2.cell? ⟨g, 6, none⟩ = some (.int .u8 0) := HG2.out.nine.2.2.2.2.2.2.1
              have f6 : V2.frozen? ⟨g, 6, none⟩ = false := heap_free HG2.out 6
              go_upto_region 24 with ((go_at_call 58; (with_reducible refine (Has_bit ft 5 32 rfl HFT.out (by decide) _).mono ?_); rintro _ wx ⟨rfl, hwx⟩; rw [hwx, HL3.out]; clear hwx))
              obtain ⟨V3, eV3⟩ : ∃ W, W = V2.setCell ⟨g, 6, none⟩ (.int .u8 s.mouse) := ⟨_, rfl⟩
              rw [← eV3]
              have hfar : ∀ j, j ≠ g → V3.heap[j]? = V2.heap[j]? := fun j hj => by rw [eV3]; exact heap_far _ hj
              have HG3 : Hid (ScB V3 g ⟨s.cols, s.rows, [], s.x, s.y, s.hid, s.mouse, s.title, []⟩ A' n c' none 0 0) := Lib.hid (by rw [eV3]; exact heap_set HG2.out 6 _)
              have HP3 : Hid (ScB V3 p s A n c L m cm) := Lib.hid ((hfar p (by have := HGS.out.1; omega)).trans HP2.out)
              have HQ3 : Hid (ScB V3 q scZ none 0 0 none 0 0) := Lib.hid ((hfar q (by have := HGS.out.2.1; omega)).trans HQ2.out)
              have HC3 : Hid (OwnC V3 base (.slice A' n c') (s.cells.map F)) := Lib.hid (OwnC.keep HC2.out (fun j e => hfar j (by have h1 := (OwnC.lt HC0.out j e).1; have h2 := HBS.out.1; omega)))
              have HB3 : Hid (Below w.heap.size w V3) := Lib.hid (by rw [eV3]; exact below_set HB2.out g _ _ HGS.out.2.2.1)
              clear eV3 hfar x6 y6 f6
              have hN : N = ⟨s.cols, s.rows, s.cells.map F, s.x, s.y, s.hid, s.mouse, s.title, []⟩ := HN.out
              have HG9 : Hid (ScB V3 g N A' n c' none 0 0) := Lib.hid (by rw [hN]; exact HG3.out)
              have HNN := Lib.hid hN
              clear hN
              go_wp2_with (first
                | (refine wpList_load_row rfl 25 (.tmp 5) rfl g rfl 25 _ (0, 0) _ HG9.out Tryd.underlying25 rfl (info_sc.trans rfl) ?_)
                | (refine wpList_store_row rfl 25 (.tmp 4) (.tmp 106) rfl q (scC N A' n c' none 0 0) rfl rfl 25 _ HQ3.out (info_sc.trans rfl) rfl (sc_one _ _ _ _ _ _ _) ?_))
              refine bodyPost_ret (v := .agg (scC N A' n c' none 0 0)) (results_cell_row (p := 4) (ty := 25) rfl _ _ q 25 _ (0, 0) _ rfl (setRow_heap V3 q _ _ _ _ HQ3.out) Tryd.underlying25 rfl (info_sc.trans rfl)) rfl ?_
              have hk : ∀ Z j, j ≠ q → (V3.setRow q Z).heap[j]? = V3.heap[j]? := fun Z j e => setRow_other _ _ _ _ e
              refine ⟨A', n, c', none, 0, 0, rfl, ?_, ?_, ?_, below_setRow HB3.out HPQ.out.2.1 _⟩
              · rw [HNN.out]
                exact OwnC.low (OwnC.keep HC3.out (fun j e => hk _ j (by have h1 := (OwnC.lt HC0.out j e).1; have h2 := HGS.out.2.1; have h3 := HBS.out.1; omega))) HBS.out.2
              · rw [HNN.out]
                exact World.ownsRow_nil _ _ _ _
              · exact fun a b _ h => by cases h
        · cases ttl
          · cases mou
            · skip
              have x8 : wr.cell? ⟨p, 8, none⟩ = some (.slice L m cm) := HP.out.nine.2.2.2.2.2.2.2.2
              have HOt : Hid (OwnT (wr.alloc (.cells #[] 9)) wr.heap.size (.slice (some ⟨wr.heap.size, 0, none⟩) 0 0) []) := Lib.hid (OwnT.made wr)
              have HAt : Hid (Below wr.heap.size wr (wr.alloc (.cells #[] 9))) := Lib.hid ((Below.refl _ _).alloc (Nat.le_refl _) _)
              have z9 : (wr.alloc (.cells #[] 9)).cell? ⟨p, 8, none⟩ = some (.slice L m cm) := (HAt.out.cell (p := ⟨p, 8, none⟩) HSZ.out.2.1).trans x8
              go_upto_region 20 with (first
                | (go_at_call 58; (with_reducible refine (Has_bit ft 3 8 rfl HFT.out (by decide) _).mono ?_); rintro _ wx ⟨rfl, hwx⟩; rw [hwx, HL1.out]; clear hwx)
                | (at_builtin; go_must (refine wpList_appT _ rfl (.tmp 91) (.tmp 93) rfl wr.heap.size _ [] rfl HOt.out L m cm s.links rfl HRw.out.hm (HRw.out.below HAt.out).rt (by have := HRw.out.ml; simp only [List.length_nil]; omega) HAt.out.size ?_); intro v4 w4 q4 hg4 hv4; obtain ⟨A4, c4, rfl, _, _, _, ha4⟩ := q4.form; have HA4 := Lib.hid ha4; have HQ4 := Lib.hid q4; have HG4 := Lib.hid hg4; clear q4 hg4 hv4 ha4; have hb4 : Below wr.heap.size wr w4 := HAt.out.grown HG4.out HAt.out.size (fun k e => by have e' : some wr.heap.size = some k := e; injection e' with e'; omega); have HB4 := Lib.hid hb4; have HGB4 := Lib.hid (HG0.out.below hb4); have y4 : w4.cell? ⟨g, 8, none⟩ = some (.slice none 0 0) := HGB4.out.nine.2.2.2.2.2.2.2.2; have f4 : w4.frozen? ⟨g, 8, none⟩ = false := heap_free HGB4.out 8; clear hb4))
              rw [List.nil_append] at HQ4
              rw [HRw.out.hm] at HQ4 ⊢
              obtain ⟨V1, eV1⟩ : ∃ W, W = w4.setCell ⟨g, 8, none⟩ (.slice A4 m c4) := ⟨_, rfl⟩
              rw [← eV1]
              have hfar : ∀ j, j ≠ g → V1.heap[j]? = w4.heap[j]? := fun j hj => by rw [eV1]; exact heap_far _ hj
              have HG1 : Hid (ScB V1 g ⟨s.cols, s.rows, [], s.x, s.y, s.hid, 0, ⟨#[]⟩, []⟩ A' n c' A4 m c4) := Lib.hid (by rw [eV1]; exact heap_set HGB4.out 8 _)
              have HP1 : Hid (ScB V1 p s A n c L m cm) := Lib.hid ((hfar p (by have := HGS.out.1; omega)).trans (HP.out.below HB4.out))
              have HQ1 : Hid (ScB V1 q scZ none 0 0 none 0 0) := Lib.hid ((hfar q (by have := HGS.out.2.1; omega)).trans (HQ.out.below HB4.out))
              have HC1 : Hid (OwnC V1 base (.slice A' n c') (s.cells.map F)) := Lib.hid (OwnC.keep (OwnC.below HC0.out HB4.out) (fun j e => hfar j (by have h1 := (OwnC.lt HC0.out j e).1; have h2 := HBS.out.1; omega)))
              have HT1 : Hid (OwnT V1 wr.heap.size (.slice A4 m c4) s.links) := Lib.hid (Own.frameK' HQ4.out (fun j e => hfar j (by have h1 := (Own.lt HQ4.out j e).1; have h2 := HSZ.out.1; omega)))
              have HB1 : Hid (Below w.heap.size w V1) := Lib.hid (by rw [eV1]; exact below_set (HBW.out.trans (HB4.out.mono HBW.out.size)) g _ _ HGS.out.2.2.1)
              have HLO : Hid (∀ a, A4 = some a → a.off = 0 ∧ a.spot = none) := Lib.hid (fun a e => ⟨(HA4.out a e).2.2.1, (HA4.out a e).2.2.2⟩)
              clear eV1 hfar x8 z9 y4 f4
              go_upto_region 22 with ((go_at_call 58; (with_reducible refine (Has_bit ft 4 16 rfl HFT.out (by decide) _).mono ?_); rintro _ wx ⟨rfl, hwx⟩; rw [hwx, HL2.out]; clear hwx))
              go_upto_region 24 with ((go_at_call 58; (with_reducible refine (Has_bit ft 5 32 rfl HFT.out (by decide) _).mono ?_); rintro _ wx ⟨rfl, hwx⟩; rw [hwx, HL3.out]; clear hwx))
              have hN : N = ⟨s.cols, s.rows, s.cells.map F, s.x, s.y, s.hid, 0, ⟨#[]⟩, s.links⟩ := HN.out
              have HG9 : Hid (ScB V1 g N A' n c' A4 m c4) := Lib.hid (by rw [hN]; exact HG1.out)
              have HNN := Lib.hid hN
              clear hN
              go_wp2_with (first
                | (refine wpList_load_row rfl 25 (.tmp 5) rfl g rfl 25 _ (0, 0) _ HG9.out Tryd.underlying25 rfl (info_sc.trans rfl) ?_)
                | (refine wpList_store_row rfl 25 (.tmp 4) (.tmp 106) rfl q (scC N A' n c' A4 m c4) rfl rfl 25 _ HQ1.out (info_sc.trans rfl) rfl (sc_one _ _ _ _ _ _ _) ?_))
              refine bodyPost_ret (v := .agg (scC N A' n c' A4 m c4)) (results_cell_row (p := 4) (ty := 25) rfl _ _ q 25 _ (0, 0) _ rfl (setRow_heap V1 q _ _ _ _ HQ1.out) Tryd.underlying25 rfl (info_sc.trans rfl)) rfl ?_
              have hk : ∀ Z j, j ≠ q → (V1.setRow q Z).heap[j]? = V1.heap[j]? := fun Z j e => setRow_other _ _ _ _ e
              refine ⟨A', n, c', A4, m, c4, rfl, ?_, ?_, ?_, below_setRow HB1.out HPQ.out.2.1 _⟩
              · rw [HNN.out]
                exact OwnC.low (OwnC.keep HC1.out (fun j e => hk _ j (by have h1 := (OwnC.lt HC0.out j e).1; have h2 := HGS.out.2.1; have h3 := HBS.out.1; omega))) HBS.out.2
              · rw [HNN.out]
                exact Own.low (Own.frameK' HT1.out (fun j e => hk _ j (by have h1 := (Own.lt HQ4.out j e).1; have h2 := HSZ.out.2.2; omega))) HBW.out.size
              · exact fun a b ea eb => sliceApart (own_apart HC1.out HT1.out) HAO.out HLO.out a b ea eb
            · skip
              have x8 : wr.cell? ⟨p, 8, none⟩ = some (.slice L m cm) := HP.out.nine.2.2.2.2.2.2.2.2
              have HOt : Hid (OwnT (wr.alloc (.cells #[] 9)) wr.heap.size (.slice (some ⟨wr.heap.size, 0, none⟩) 0 0) []) := Lib.hid (OwnT.made wr)
              have HAt : Hid (Below wr.heap.size wr (wr.alloc (.cells #[] 9))) := Lib.hid ((Below.refl _ _).alloc (Nat.le_refl _) _)
              have z9 : (wr.alloc (.cells #[] 9)).cell? ⟨p, 8, none⟩ = some (.slice L m cm) := (HAt.out.cell (p := ⟨p, 8, none⟩) HSZ.out.2.1).trans x8
              go_upto_region 20 with (first
                | (go_at_call 58; (with_reducible refine (Has_bit ft 3 8 rfl HFT.out (by decide) _).mono ?_); rintro _ wx ⟨rfl, hwx⟩; rw [hwx, HL1.out]; clear hwx)
                | (at_builtin; go_must (refine wpList_appT _ rfl (.tmp 91) (.tmp 93) rfl wr.heap.size _ [] rfl HOt.out L m cm s.links rfl HRw.out.hm (HRw.out.below HAt.out).rt (by have := HRw.out.ml; simp only [List.length_nil]; omega) HAt.out.size ?_); intro v4 w4 q4 hg4 hv4; obtain ⟨A4, c4, rfl, _, _, _, ha4⟩ := q4.form; have HA4 := Lib.hid ha4; have HQ4 := Lib.hid q4; have HG4 := Lib.hid hg4; clear q4 hg4 hv4 ha4; have hb4 : Below wr.heap.size wr w4 := HAt.out.grown HG4.out HAt.out.size (fun k e => by have e' : some wr.heap.size = some k := e; injection e' with e'; omega); have HB4 := Lib.hid hb4; have HGB4 := Lib.hid (HG0.out.below hb4); have y4 : w4.cell? ⟨g, 8, none⟩ = some (.slice none 0 0) := HGB4.out.nine.2.2.2.2.2.2.2.2; have f4 : w4.frozen? ⟨g, 8, none⟩ = false := heap_free HGB4.out 8; clear hb4))
              rw [List.nil_append] at HQ4
              rw [HRw.out.hm] at HQ4 ⊢
              obtain ⟨V1, eV1⟩ : ∃ W, W = w4.setCell ⟨g, 8, none⟩ (.slice A4 m c4) := ⟨_, rfl⟩
              rw [← eV1]
              have hfar : ∀ j, j ≠ g → V1.heap[j]? = w4.heap[j]? := fun j hj => by rw [eV1]; exact heap_far _ hj
              have HG1 : Hid (ScB V1 g ⟨s.cols, s.rows, [], s.x, s.y, s.hid, 0, ⟨#[]⟩, []⟩ A' n c' A4 m c4) := Lib.hid (by rw [eV1]; exact heap_set HGB4.out 8 _)
              have HP1 : Hid (ScB V1 p s A n c L m cm) := Lib.hid ((hfar p (by have := HGS.out.1; omega)).trans (HP.out.below HB4.out))
              have HQ1 : Hid (ScB V1 q scZ none 0 0 none 0 0) := Lib.hid ((hfar q (by have := HGS.out.2.1; omega)).trans (HQ.out.below HB4.out))
              have HC1 : Hid (OwnC V1 base (.slice A' n c') (s.cells.map F)) := Lib.hid (OwnC.keep (OwnC.below HC0.out HB4.out) (fun j e => hfar j (by have h1 := (OwnC.lt HC0.out j e).1; have h2 := HBS.out.1; omega)))
              have HT1 : Hid (OwnT V1 wr.heap.size (.slice A4 m c4) s.links) := Lib.hid (Own.frameK' HQ4.out (fun j e => hfar j (by have h1 := (Own.lt HQ4.out j e).1; have h2 := HSZ.out.1; omega)))
              have HB1 : Hid (Below w.heap.size w V1) := Lib.hid (by rw [eV1]; exact below_set (HBW.out.trans (HB4.out.mono HBW.out.size)) g _ _ HGS.out.2.2.1)
              have HLO : Hid (∀ a, A4 = some a → a.off = 0 ∧ a.spot = none) := Lib.hid (fun a e => ⟨(HA4.out a e).2.2.1, (HA4.out a e).2.2.2⟩)
              clear eV1 hfar x8 z9 y4 f4
              go_upto_region 22 with ((go_at_call 58; (with_reducible refine (Has_bit ft 4 16 rfl HFT.out (by decide) _).mono ?_); rintro _ wx ⟨rfl, hwx⟩; rw [hwx, HL2.out]; clear hwx))
              have x6 : V1.cell? ⟨p, 6, none⟩ = some (.int .u8 s.mouse) := HP1.out.nine.2.2.2.2.2.2.1
              have y6 : V1.cell? ⟨g, 6, none⟩ = some (.int .u8 0) := HG1.out.nine.2.2.2.2.2.2.1
              have f6 : V1.frozen? ⟨g, 6, none⟩ = false := heap_free HG1.out 6
              go_upto_region 24 with ((go_at_call 58; (with_reducible refine (Has_bit ft 5 32 rfl HFT.out (by decide) _).mono ?_); rintro _ wx ⟨rfl, hwx⟩; rw [hwx, HL3.out]; clear hwx))
              obtain ⟨V2, eV2⟩ : ∃ W, W = V1.setCell ⟨g, 6, none⟩ (.int .u8 s.mouse) := ⟨_, rfl⟩
              rw [← eV2]
              have hfar : ∀ j, j ≠ g → V2.heap[j]? = V1.heap[j]? := fun j hj => by rw [eV2]; exact heap_far _ hj
              have HG2 : Hid (ScB V2 g ⟨s.cols, s.rows, [], s.x, s.y, s.hid, s.mouse, ⟨#[]⟩, []⟩ A' n c' A4 m c4) := Lib.hid (by rw [eV2]; exact heap_set HG1.out 6 _)
              have HP2 : Hid (ScB V2 p s A n c L m cm) := Lib.hid ((hfar p (by have := HGS.out.1; omega)).trans HP1.out)
              have HQ2 : Hid (ScB V2 q scZ none 0 0 none 0 0) := Lib.hid ((hfar q (by have := HGS.out.2.1; omega)).trans HQ1.out)
              have HC2 : Hid (OwnC V2 base (.slice A' n c') (s.cells.map F)) := Lib.hid (OwnC.keep HC1.out (fun j e => hfar j (by have h1 := (OwnC.lt HC0.out j e).1; have h2 := HBS.out.1; omega)))
              have HT2 : Hid (OwnT V2 wr.heap.size (.slice A4 m c4) s.links) := Lib.hid (Own.frameK' HT1.out (fun j e => hfar j (by have h1 := (Own.lt HQ4.out j e).1; have h2 := HSZ.out.1; omega)))
              have HB2 : Hid (Below w.heap.size w V2) := Lib.hid (by rw [eV2]; exact below_set HB1.out g _ _ HGS.out.2.2.1)
              clear eV2 hfar x6 y6 f6
              have hN : N = ⟨s.cols, s.rows, s.cells.map F, s.x, s.y, s.hid, s.mouse, ⟨#[]⟩, s.links⟩ := HN.out
              have HG9 : Hid (ScB V2 g N A' n c' A4 m c4) := Lib.hid (by rw [hN]; exact HG2.out)
              have HNN := Lib.hid hN
              clear hN
              go_wp2_with (first
                | (refine wpList_load_row rfl 25 (.tmp 5) rfl g rfl 25 _ (0, 0) _ HG9.out Tryd.underlying25 rfl (info_sc.trans rfl) ?_)
                | (refine wpList_store_row rfl 25 (.tmp 4) (.tmp 106) rfl q (scC N A' n c' A4 m c4) rfl rfl 25 _ HQ2.out (info_sc.trans rfl) rfl (sc_one _ _ _ _ _ _ _) ?_))
              refine bodyPost_ret (v := .agg (scC N A' n c' A4 m c4)) (results_cell_row (p := 4) (ty := 25) rfl _ _ q 25 _ (0, 0) _ rfl (setRow_heap V2 q _ _ _ _ HQ2.out) Tryd.underlying25 rfl (info_sc.trans rfl)) rfl ?_
              have hk : ∀ Z j, j ≠ q → (V2.setRow q Z).heap[j]? = V2.heap[j]? := fun Z j e => setRow_other _ _ _ _ e
              refine ⟨A', n, c', A4, m, c4, rfl, ?_, ?_, ?_, below_setRow HB2.out HPQ.out.2.1 _⟩
              · rw [HNN.out]
                exact OwnC.low (OwnC.keep HC2.out (fun j e => hk _ j (by have h1 := (OwnC.lt HC0.out j e).1; have h2 := HGS.out.2.1; have h3 := HBS.out.1; omega))) HBS.out.2
              · rw [HNN.out]
                exact Own.low (Own.frameK' HT2.out (fun j e => hk _ j (by have h1 := (Own.lt HQ4.out j e).1; have h2 := HSZ.out.2.2; omega))) HBW.out.size
              · exact fun a b ea eb => sliceApart (own_apart HC2.out HT2.out) HAO.out HLO.out a b ea eb
          · cases mou
            · skip
              have x8 : wr.cell? ⟨p, 8, none⟩ = some (.slice L m cm) := HP.out.nine.2.2.2.2.2.2.2.2
              have HOt : Hid (OwnT (wr.alloc (.cells #[] 9)) wr.heap.size (.slice (some ⟨wr.heap.size, 0, none⟩) 0 0) []) := Lib.hid (OwnT.made wr)
              have HAt : Hid (Below wr.heap.size wr (wr.alloc (.cells #[] 9))) := Lib.hid ((Below.refl _ _).alloc (Nat.le_refl _) _)
              have z9 : (wr.alloc (.cells #[] 9)).cell? ⟨p, 8, none⟩ = some (.slice L m cm) := (HAt.out.cell (p := ⟨p, 8, none⟩) HSZ.out.2.1).trans x8
              go_upto_region 20 with (first
                | (go_at_call 58; (with_reducible refine (Has_bit ft 3 8 rfl HFT.out (by decide) _).mono ?_); rintro _ wx ⟨rfl, hwx⟩; rw [hwx, HL1.out]; clear hwx)
                | (at_builtin; go_must (refine wpList_appT _ rfl (.tmp 91) (.tmp 93) rfl wr.heap.size _ [] rfl HOt.out L m cm s.links rfl HRw.out.hm (HRw.out.below HAt.out).rt (by have := HRw.out.ml; simp only [List.length_nil]; omega) HAt.out.size ?_); intro v4 w4 q4 hg4 hv4; obtain ⟨A4, c4, rfl, _, _, _, ha4⟩ := q4.form; have HA4 := Lib.hid ha4; have HQ4 := Lib.hid q4; have HG4 := Lib.hid hg4; clear q4 hg4 hv4 ha4; have hb4 : Below wr.heap.size wr w4 := HAt.out.grown HG4.out HAt.out.size (fun k e => by have e' : some wr.heap.size = some k := e; injection e' with e'; omega); have HB4 := Lib.hid hb4; have HGB4 := Lib.hid (HG0.out.below hb4); have y4 : w4.cell? ⟨g, 8, none⟩ = some (.slice none 0 0) := HGB4.out.nine.2.2.2.2.2.2.2.2; have f4 : w4.frozen? ⟨g, 8, none⟩ = false := heap_free HGB4.out 8; clear hb4))
              rw [List.nil_append] at HQ4
              rw [HRw.out.hm] at HQ4 ⊢
              obtain ⟨V1, eV1⟩ : ∃ W, W = w4.setCell ⟨g, 8, none⟩ (.slice A4 m c4) := ⟨_, rfl⟩
              rw [← eV1]
              have hfar : ∀ j, j ≠ g → V1.heap[j]? = w4.heap[j]? := fun j hj => by rw [eV1]; exact heap_far _ hj
              have HG1 : Hid (ScB V1 g ⟨s.cols, s.rows, [], s.x, s.y, s.hid, 0, ⟨#[]⟩, []⟩ A' n c' A4 m c4) := Lib.hid (by rw [eV1]; exact heap_set HGB4.out 8 _)
              have HP1 : Hid (ScB V1 p s A n c L m cm) := Lib.hid ((hfar p (by have := HGS.out.1; omega)).trans (HP.out.below HB4.out))
              have HQ1 : Hid (ScB V1 q scZ none 0 0 none 0 0) := Lib.hid ((hfar q (by have := HGS.out.2.1; omega)).trans (HQ.out.below HB4.out))
              have HC1 : Hid (OwnC V1 base (.slice A' n c') (s.cells.map F)) := Lib.hid (OwnC.keep (OwnC.below HC0.out HB4.out) (fun j e => hfar j (by have h1 := (OwnC.lt HC0.out j e).1; have h2 := HBS.out.1; omega)))
              have HT1 : Hid (OwnT V1 wr.heap.size (.slice A4 m c4) s.links) := Lib.hid (Own.frameK' HQ4.out (fun j e => hfar j (by have h1 := (Own.lt HQ4.out j e).1; have h2 := HSZ.out.1; omega)))
              have HB1 : Hid (Below w.heap.size w V1) := Lib.hid (by rw [eV1]; exact below_set (HBW.out.trans (HB4.out.mono HBW.out.size)) g _ _ HGS.out.2.2.1)
              have HLO : Hid (∀ a, A4 = some a → a.off = 0 ∧ a.spot = none) := Lib.hid (fun a e => ⟨(HA4.out a e).2.2.1, (HA4.out a e).2.2.2⟩)
              clear eV1 hfar x8 z9 y4 f4
              have x7 : V1.cell? ⟨p, 7, none⟩ = some (.string s.title) := HP1.out.nine.2.2.2.2.2.2.2.1
              have y7 : V1.cell? ⟨g, 7, none⟩ = some (.string ⟨#[]⟩) := HG1.out.nine.2.2.2.2.2.2.2.1
              have f7 : V1.frozen? ⟨g, 7, none⟩ = false := heap_free HG1.out 7
              go_upto_region 22 with ((go_at_call 58; (with_reducible refine (Has_bit ft 4 16 rfl HFT.out (by decide) _).mono ?_); rintro _ wx ⟨rfl, hwx⟩; rw [hwx, HL2.out]; clear hwx))
              obtain ⟨V2, eV2⟩ : ∃ W, W = V1.setCell ⟨g, 7, none⟩ (.string s.title) := ⟨_, rfl⟩
              rw [← eV2]
              have hfar : ∀ j, j ≠ g → V2.heap[j]? = V1.heap[j]? := fun j hj => by rw [eV2]; exact heap_far _ hj
              have HG2 : Hid (ScB V2 g ⟨s.cols, s.rows, [], s.x, s.y, s.hid, 0, s.title, []⟩ A' n c' A4 m c4) := Lib.hid (by rw [eV2]; exact heap_set HG1.out 7 _)
              have HP2 : Hid (ScB V2 p s A n c L m cm) := Lib.hid ((hfar p (by have := HGS.out.1; omega)).trans HP1.out)
              have HQ2 : Hid (ScB V2 q scZ none 0 0 none 0 0) := Lib.hid ((hfar q (by have := HGS.out.2.1; omega)).trans HQ1.out)
              have HC2 : Hid (OwnC V2 base (.slice A' n c') (s.cells.map F)) := Lib.hid (OwnC.keep HC1.out (fun j e => hfar j (by have h1 := (OwnC.lt HC0.out j e).1; have h2 := HBS.out.1; omega)))
              have HT2 : Hid (OwnT V2 wr.heap.size (.slice A4 m c4) s.links) := Lib.hid (Own.frameK' HT1.out (fun j e => hfar j (by have h1 := (Own.lt HQ4.out j e).1; have h2 := HSZ.out.1; omega)))
              have HB2 : Hid (Below w.heap.size w V2) := Lib.hid (by rw [eV2]; exact below_set HB1.out g _ _ HGS.out.2.2.1)
              clear eV2 hfar x7 y7 f7
              go_upto_region 24 with ((go_at_call 58; (with_reducible refine (Has_bit ft 5 32 rfl HFT.out (by decide) _).mono ?_); rintro _ wx ⟨rfl, hwx⟩; rw [hwx, HL3.out]; clear hwx))
              have hN : N = ⟨s.cols, s.rows, s.cells.map F, s.x, s.y, s.hid, 0, s.title, s.links⟩ := HN.out
              have HG9 : Hid (ScB V2 g N A' n c' A4 m c4) := Lib.hid (by rw [hN]; exact HG2.out)
              have HNN := Lib.hid hN
              clear hN
              go_wp2_with (first
                | (refine wpList_load_row rfl 25 (.tmp 5) rfl g rfl 25 _ (0, 0) _ HG9.out Tryd.underlying25 rfl (info_sc.trans rfl) ?_)
                | (refine wpList_store_row rfl 25 (.tmp 4) (.tmp 106) rfl q (scC N A' n c' A4 m c4) rfl rfl 25 _ HQ2.out (info_sc.trans rfl) rfl (sc_one _ _ _ _ _ _ _) ?_))
              refine bodyPost_ret (v := .agg (scC N A' n c' A4 m c4)) (results_cell_row (p := 4) (ty := 25) rfl _ _ q 25 _ (0, 0) _ rfl (setRow_heap V2 q _ _ _ _ HQ2.out) Tryd.underlying25 rfl (info_sc.trans rfl)) rfl ?_
              have hk : ∀ Z j, j ≠ q → (V2.setRow q Z).heap[j]? = V2.heap[j]? := fun Z j e => setRow_other _ _ _ _ e
              refine ⟨A', n, c', A4, m, c4, rfl, ?_, ?_, ?_, below_setRow HB2.out HPQ.out.2.1 _⟩
              · rw [HNN.out]
                exact OwnC.low (OwnC.keep HC2.out (fun j e => hk _ j (by have h1 := (OwnC.lt HC0.out j e).1; have h2 := HGS.out.2.1; have h3 := HBS.out.1; omega))) HBS.out.2
              · rw [HNN.out]
                exact Own.low (Own.frameK' HT2.out (fun j e => hk _ j (by have h1 := (Own.lt HQ4.out j e).1; have h2 := HSZ.out.2.2; omega))) HBW.out.size
              · exact fun a b ea eb => sliceApart (own_apart HC2.out HT2.out) HAO.out HLO.out a b ea eb
            · skip
              have x8 : wr.cell? ⟨p, 8, none⟩ = some (.slice L m cm) := HP.out.nine.2.2.2.2.2.2.2.2
              have HOt : Hid (OwnT (wr.alloc (.cells #[] 9)) wr.heap.size (.slice (some ⟨wr.heap.size, 0, none⟩) 0 0) []) := Lib.hid (OwnT.made wr)
              have HAt : Hid (Below wr.heap.size wr (wr.alloc (.cells #[] 9))) := Lib.hid ((Below.refl _ _).alloc (Nat.le_refl _) _)
              have z9 : (wr.alloc (.cells #[] 9)).cell? ⟨p, 8, none⟩ = some (.slice L m cm) := (HAt.out.cell (p := ⟨p, 8, none⟩) HSZ.out.2.1).trans x8
              go_upto_region 20 with (first
                | (go_at_call 58; (with_reducible refine (Has_bit ft 3 8 rfl HFT.out (by decide) _).mono ?_); rintro _ wx ⟨rfl, hwx⟩; rw [hwx, HL1.out]; clear hwx)
                | (at_builtin; go_must (refine wpList_appT _ rfl (.tmp 91) (.tmp 93) rfl wr.heap.size _ [] rfl HOt.out L m cm s.links rfl HRw.out.hm (HRw.out.below HAt.out).rt (by have := HRw.out.ml; simp only [List.length_nil]; omega) HAt.out.size ?_); intro v4 w4 q4 hg4 hv4; obtain ⟨A4, c4, rfl, _, _, _, ha4⟩ := q4.form; have HA4 := Lib.hid ha4; have HQ4 := Lib.hid q4; have HG4 := Lib.hid hg4; clear q4 hg4 hv4 ha4; have hb4 : Below wr.heap.size wr w4 := HAt.out.grown HG4.out HAt.out.size (fun k e => by have e' : some wr.heap.size = some k := e; injection e' with e'; omega); have HB4 := Lib.hid hb4; have HGB4 := Lib.hid (HG0.out.below hb4); have y4 : w4.cell? ⟨g, 8, none⟩ = some (.slice none 0 0) := HGB4.out.nine.2.2.2.2.2.2.2.2; have f4 : w4.frozen? ⟨g, 8, none⟩ = false := heap_free HGB4.out 8; clear hb4))
              rw [List.nil_append] at HQ4
              rw [HRw.out.hm] at HQ4 ⊢
              obtain ⟨V1, eV1⟩ : ∃ W, W = w4.setCell ⟨g, 8, none⟩ (.slice A4 m c4) := ⟨_, rfl⟩
              rw [← eV1]
              have hfar : ∀ j, j ≠ g → V1.heap[j]? = w4.heap[j]? := fun j hj => by rw [eV1]; exact heap_far _ hj
              have HG1 : Hid (ScB V1 g ⟨s.cols, s.rows, [], s.x, s.y, s.hid, 0, ⟨#[]⟩, []⟩ A' n c' A4 m c4) := Lib.hid (by rw [eV1]; exact heap_set HGB4.out 8 _)
              have HP1 : Hid (ScB V1 p s A n c L m cm) := Lib.hid ((hfar p (by have := HGS.out.1; omega)).trans (HP.out.below HB4.out))
              have HQ1 : Hid (ScB V1 q scZ none 0 0 none 0 0) := Lib.hid ((hfar q (by have := HGS.out.2.1; omega)).trans (HQ.out.below HB4.out))
              have HC1 : Hid (OwnC V1 base (.slice A' n c') (s.cells.map F)) := Lib.hid (OwnC.keep (OwnC.below HC0.out HB4.out) (fun j e => hfar j (by have h1 := (OwnC.lt HC0.out j e).1; have h2 := HBS.out.1; omega)))
              have HT1 : Hid (OwnT V1 wr.heap.size (.slice A4 m c4) s.links) := Lib.hid (Own.frameK' HQ4.out (fun j e => hfar j (by have h1 := (Own.lt HQ4.out j e).1; have h2 := HSZ.out.1; omega)))
              have HB1 : Hid (Below w.heap.size w V1) := Lib.hid (by rw [eV1]; exact below_set (HBW.out.trans (HB4.out.mono HBW.out.size)) g _ _ HGS.out.2.2.1)
              have HLO : Hid (∀ a, A4 = some a → a.off = 0 ∧ a.spot = none) := Lib.hid (fun a e => ⟨(HA4.out a e).2.2.1, (HA4.out a e).2.2.2⟩)
              clear eV1 hfar x8 z9 y4 f4
              have x7 : V1.cell? ⟨p, 7, none⟩ = some (.string s.title) := HP1.out.nine.2.2.2.2.2.2.2.1
              have y7 : V1.cell? ⟨g, 7, none⟩ = some (.string ⟨#[]⟩) := HG1.out.nine.2.2.2.2.2.2.2.1
              have f7 : V1.frozen? ⟨g, 7, none⟩ = false := heap_free HG1.out 7
              go_upto_region 22 with ((go_at_call 58; (with_reducible refine (Has_bit ft 4 16 rfl HFT.out (by decide) _).mono ?_); rintro _ wx ⟨rfl, hwx⟩; rw [hwx, HL2.out]; clear hwx))
              obtain ⟨V2, eV2⟩ : ∃ W, W = V1.setCell ⟨g, 7, none⟩ (.string s.title) := ⟨_, rfl⟩
              rw [← eV2]
              have hfar : ∀ j, j ≠ g → V2.heap[j]? = V1.heap[j]? := fun j hj => by rw [eV2]; exact heap_far _ hj
              have HG2 : Hid (ScB V2 g ⟨s.cols, s.rows, [], s.x, s.y, s.hid, 0, s.title, []⟩ A' n c' A4 m c4) := Lib.hid (by rw [eV2]; exact heap_set HG1.out 7 _)
              have HP2 : Hid (ScB V2 p s A n c L m cm) := Lib.hid ((hfar p (by have := HGS.out.1; omega)).trans HP1.out)
              have HQ2 : Hid (ScB V2 q scZ none 0 0 none 0 0) := Lib.hid ((hfar q (by have := HGS.out.2.1; omega)).trans HQ1.out)
              have HC2 : Hid (OwnC V2 base (.slice A' n c') (s.cells.map F)) := Lib.hid (OwnC.keep HC1.out (fun j e => hfar j (by have h1 := (OwnC.lt HC0.out j e).1; have h2 := HBS.out.1; omega)))
              have HT2 : Hid (OwnT V2 wr.heap.size (.slice A4 m c4) s.links) := Lib.hid (Own.frameK' HT1.out (fun j e => hfar j (by have h1 := (Own.lt HQ4.out j e).1; have h2 := HSZ.out.1; omega)))
              have HB2 : Hid (Below w.heap.size w V2) := Lib.hid (by rw [eV2]; exact below_set HB1.out g _ _ HGS.out.2.2.1)
              clear eV2 hfar x7 y7 f7
              have x6 : V2.cell? ⟨p, 6, none⟩ = some (.int .u8 s.mouse) := HP2.out.nine.2.2.2.2.2.2.1
              have y6 : V2.cell? ⟨g, 6, none⟩ = some (.int .u8 0) := HG2.out.nine.2.2.2.2.2.2.1
              have f6 : V2.frozen? ⟨g, 6, none⟩ = false := heap_free HG2.out 6
              go_upto_region 24 with ((go_at_call 58; (with_reducible refine (Has_bit ft 5 32 rfl HFT.out (by decide) _).mono ?_); rintro _ wx ⟨rfl, hwx⟩; rw [hwx, HL3.out]; clear hwx))
              obtain ⟨V3, eV3⟩ : ∃ W, W = V2.setCell ⟨g, 6, none⟩ (.int .u8 s.mouse) := ⟨_, rfl⟩
              rw [← eV3]
              have hfar : ∀ j, j ≠ g → V3.heap[j]? = V2.heap[j]? := fun j hj => by rw [eV3]; exact heap_far _ hj
              have HG3 : Hid (ScB V3 g ⟨s.cols, s.rows, [], s.x, s.y, s.hid, s.mouse, s.title, []⟩ A' n c' A4 m c4) := Lib.hid (by rw [eV3]; exact heap_set HG2.out 6 _)
              have HP3 : Hid (ScB V3 p s A n c L m cm) := Lib.hid ((hfar p (by have := HGS.out.1; omega)).trans HP2.out)
              have HQ3 : Hid (ScB V3 q scZ none 0 0 none 0 0) := Lib.hid ((hfar q (by have := HGS.out.2.1; omega)).trans HQ2.out)
              have HC3 : Hid (OwnC V3 base (.slice A' n c') (s.cells.map F)) := Lib.hid (OwnC.keep HC2.out (fun j e => hfar j (by have h1 := (OwnC.lt HC0.out j e).1; have h2 := HBS.out.1; omega)))
              have HT3 : Hid (OwnT V3 wr.heap.size (.slice A4 m c4) s.links) := Lib.hid (Own.frameK' HT2.out (fun j e => hfar j (by have h1 := (Own.lt HQ4.out j e).1; have h2 := HSZ.out.1; omega)))
              have HB3 : Hid (Below w.heap.size w V3) := Lib.hid (by rw [eV3]; exact below_set HB2.out g _ _ HGS.out.2.2.1)
              clear eV3 hfar x6 y6 f6
              have hN : N = ⟨s.cols, s.rows, s.cells.map F, s.x, s.y, s.hid, s.mouse, s.title, s.links⟩ := HN.out
              have HG9 : Hid (ScB V3 g N A' n c' A4 m c4) := Lib.hid (by rw [hN]; exact HG3.out)
              have HNN := Lib.hid hN
              clear hN
              go_wp2_with (first
                | (refine wpList_load_row rfl 25 (.tmp 5) rfl g rfl 25 _ (0, 0) _ HG9.out Tryd.underlying25 rfl (info_sc.trans rfl) ?_)
                | (refine wpList_store_row rfl 25 (.tmp 4) (.tmp 106) rfl q (scC N A' n c' A4 m c4) rfl rfl 25 _ HQ3.out (info_sc.trans rfl) rfl (sc_one _ _ _ _ _ _ _) ?_))
              refine bodyPost_ret (v := .agg (scC N A' n c' A4 m c4)) (results_cell_row (p := 4) (ty := 25) rfl _ _ q 25 _ (0, 0) _ rfl (setRow_heap V3 q _ _ _ _ HQ3.out) Tryd.underlying25 rfl (info_sc.trans rfl)) rfl ?_
              have hk : ∀ Z j, j ≠ q → (V3.setRow q Z).heap[j]? = V3.heap[j]? := fun Z j e => setRow_other _ _ _ _ e
              refine ⟨A', n, c', A4, m, c4, rfl, ?_, ?_, ?_, below_setRow HB3.out HPQ.out.2.1 _⟩
              · rw [HNN.out]
                exact OwnC.low (OwnC.keep HC3.out (fun j e => hk _ j (by have h1 := (OwnC.lt HC0.out j e).1; have h2 := HGS.out.2.1; have h3 := HBS.out.1; omega))) HBS.out.2
              · rw [HNN.out]
                exact Own.low (Own.frameK' HT3.out (fun j e => hk _ j (by have h1 := (Own.lt HQ4.out j e).1; have h2 := HSZ.out.2.2; omega))) HBW.out.size
              · exact fun a b ea eb => sliceApart (own_apart HC3.out HT3.out) HAO.out HLO.out a b ea eb
end Go.Proofs.YtipofokinjkclaaDoor
