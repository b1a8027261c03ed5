/- Parts one behind the other: What cell.RowMay answers. Conditions: as told at each. -/
import Derived.Test.YtndjggabdajbfaaGreatDoorPG3
import Derived.Test.YtndjggabdajbfaaGreatDoorPG4
import Derived.Deep.RegionHeld3
import Derived.WalkSpells

set_option linter.unusedVariables false
set_option linter.unusedSimpArgs false
/- What cell.RowMay answers. Conditions: cells that can be read; the two tables stand. -/
namespace Go.Proofs.YtndjggabdajbfaaGreatDoor
open Go Go.RowKit

def prevO (ds : List CeD) : Nat → Option CeD
  | 0 => none
  | q + 1 => ds[q]?
theorem rowMay_round {ds : List CeD} {k : Nat} {d : CeD} (hk : k < ds.length) (hd : d = ds[k]) : rowP (prevO ds k) (ds.drop k) = (goodP (prevO ds k) d && rowP (prevO ds (k + 1)) (ds.drop (k + 1))) := by
  rw [List.drop_eq_getElem_cons hk, rowP, prevO, List.getElem?_eq_getElem hk, hd]
@[reducible] def CellsAt (w : World) (g o : Nat) (d : CeD) : Prop := w.cell? ⟨g, o, none⟩ = some (.int .i32 d.r) ∧ w.cell? ⟨g, o + 1, none⟩ = some (.int .u8 d.w) ∧ w.cell? ⟨g, o + 2, none⟩ = some (.int .u32 d.fg) ∧ w.cell? ⟨g, o + 3, none⟩ = some (.int .u32 d.bg) ∧ w.cell? ⟨g, o + 4, none⟩ = some (.int .u8 d.at_) ∧ w.cell? ⟨g, o + 5, none⟩ = some (.int .u16 d.ln)
theorem CellsAt.below {w w' : World} {B g o : Nat} {d : CeD} (h : CellsAt w g o d) (hb : Below B w w') (hg : g < B) : CellsAt w' g o d := by
  obtain ⟨h0, h1, h2, h3, h4, h5⟩ := h; exact ⟨(hb.cell (p := ⟨g, _, none⟩) hg).trans h0, (hb.cell (p := ⟨g, _, none⟩) hg).trans h1, (hb.cell (p := ⟨g, _, none⟩) hg).trans h2, (hb.cell (p := ⟨g, _, none⟩) hg).trans h3, (hb.cell (p := ⟨g, _, none⟩) hg).trans h4, (hb.cell (p := ⟨g, _, none⟩) hg).trans h5⟩
theorem RdC.cellsAt {w : World} {A : Option Addr} {ds : List CeD} (h : RdC w A ds) (k : Nat) (hk : k < ds.length) : ∃ b off, A = some ⟨b, off, none⟩ ∧ b < w.heap.size ∧ CellsAt w b (off + k * 6) ds[k] := by
  obtain ⟨b, off, e, hb, hc⟩ := h.six (by omega); exact ⟨b, off, e, hb, hc k hk⟩
theorem CellsAt.new (w : World) (d : CeD) : CellsAt (w.alloc (.cells #[.int .i32 d.r, .int .u8 d.w, .int .u32 d.fg, .int .u32 d.bg, .int .u8 d.at_, .int .u16 d.ln] 43)) w.heap.size 0 d := by
  refine ⟨?_, ?_, ?_, ?_, ?_, ?_⟩ <;> (rw [heap_cell (heap_alloc_new _ _)]; rfl)

set_option maxRecDepth 100000 in
set_option maxHeartbeats 8000000 in
theorem RowMay_c (A : Option Addr) (n c : Nat) (ds : List CeD) (w : World) (hn : ds.length = n) (hr : RdC w A ds) (hl : n ≤ 140737488355328) (hT : TabU w) :
    Calls Tryz.prog 72 #[.slice A n c] w fun e w' => e = .returned (.bool (rowMayP ds)) ∧ Below w.heap.size w w' := by
  obtain ⟨R, eR⟩ : ∃ R, rowMayP ds = R := ⟨_, rfl⟩; rw [eR]
  rcases Nat.lt_or_ge n 1 with h0 | h0
  · have hR : R = false := by rw [← eR, rowMayP, decide_eq_false (by omega)]; rfl
    have HR := Lib.hid hR
    have d1 : decide ((n : Int) < 1) = true := decide_eq_true (by omega)
    clear hR eR h0
    go_enter Tryz.func72, Tryz.ntmps72
    go_wp2_with (fail)
    go_ret
    exact ⟨by rw [HR.out] <;> rfl, Below.refl _ _⟩
  rcases Nat.lt_or_ge 80 n with h1 | h1
  · have hR : R = false := by rw [← eR, rowMayP, decide_eq_false (p := ds.length ≤ 80) (by omega)]; simp
    have HR := Lib.hid hR
    have d1 : decide ((n : Int) < 1) = false := decide_eq_false (by omega)
    have d2 : decide (80 < (n : Int)) = true := decide_eq_true (by omega)
    clear hR eR h0 h1
    go_enter Tryz.func72, Tryz.ntmps72
    go_wp2_with (fail)
    go_ret
    exact ⟨by rw [HR.out] <;> rfl, Below.refl _ _⟩
  have ER : Hid (R = rowP none ds) := Lib.hid (by rw [← eR, rowMayP, decide_eq_true (by omega), decide_eq_true (by omega)]; rfl)
  have HN := Lib.hid hn
  have HRD := Lib.hid hr
  have HT := Lib.hid hT
  have d1 : decide ((n : Int) < 1) = false := decide_eq_false (by omega)
  have d2 : decide (80 < (n : Int)) = false := decide_eq_false (by omega)
  clear eR hn hr hT
  go_enter Tryz.func72, Tryz.ntmps72
  go_wp2_with (fail)
  go_loopw [16] (fun i wr => ∃ k : Nat, k ≤ n ∧ i = .int .i64 k ∧ Hid (rowP none ds = rowP (prevO ds k) (ds.drop k)) ∧ Hid (Below w.heap.size w wr)) (fun i _ => n - (intOf i).toNat)
  case atStart => exact ⟨0, Nat.zero_le _, rfl, Lib.hid rfl, Lib.hid (Below.refl _ _)⟩
  case round =>
    obtain ⟨k, hk, rfl, HG, HB⟩ := hrel
    rcases Nat.lt_or_ge k n with hlt | hge
    · have hlt' : (k : Int) < (n : Int) := by omega
      have hkl : k < ds.length := by rw [HN.out]; exact hlt
      obtain ⟨b, off, rfl, hb, hc0⟩ := HRD.out.cellsAt k hkl; obtain ⟨d, ed⟩ : ∃ d, d = ds[k] := ⟨_, rfl⟩; rw [← ed] at hc0
      have hround := rowMay_round hkl ed
      obtain ⟨G, eG⟩ : ∃ G, goodP (prevO ds k) d = G := ⟨_, rfl⟩; rw [eG, ← HG.out] at hround
      have EG := Lib.hid eG
      have HRO := Lib.hid hround
      have hc1 := hc0.below HB.out hb
      have HT1 := Lib.hid (HT.out.next HB.out)
      have HC := Lib.hid hc1
      obtain ⟨c0, c1, c2, c3, c4, c5⟩ := hc1; obtain ⟨g, eg⟩ : ∃ g, g = wr.heap.size := ⟨_, rfl⟩; obtain ⟨W1, eW1⟩ : ∃ W1, W1 = wr.alloc (.cells #[.int .i32 d.r, .int .u8 d.w, .int .u32 d.fg, .int .u32 d.bg, .int .u8 d.at_, .int .u16 d.ln] 43) := ⟨_, rfl⟩
      have HN1 : Hid (CellsAt W1 g 0 d) := Lib.hid (by rw [eW1, eg]; exact CellsAt.new _ _)
      have hb1 : Below wr.heap.size wr W1 := by rw [eW1]; exact (Below.refl _ _).alloc (Nat.le_refl _) _
      have HB1 := Lib.hid (HB.out.trans (hb1.mono HB.out.size))
      have hs1 : W1.heap.size = g + 1 := by rw [eW1, eg]; simp
      have HS1 := Lib.hid hs1
      have HBR : Hid (b < g) := Lib.hid (by rw [eg]; exact Nat.lt_of_lt_of_le hb HB.out.size)
      have HTT : Hid (TabU W1.drew) := Lib.hid (show TabU W1 from HT1.out.next hb1)
      have EW := Lib.hid eW1
      have EGG := Lib.hid eg
      have hmay : ∀ w', TabU w' → Calls Tryz.prog 62 #[.agg #[.int .i32 d.r, .int .u8 d.w, .int .u32 d.fg, .int .u32 d.bg, .int .u8 d.at_, .int .u16 d.ln]] w' fun e w'' => e = .returned (.bool (mayC d)) ∧ Below w'.heap.size w' w'' := fun w' h => May_c d w' h
      obtain ⟨M, eM⟩ : ∃ M, mayC d = M := ⟨_, rfl⟩; rw [eM] at hmay
      have EM := Lib.hid eM
      have HM := Lib.hid hmay
      clear hround eG hc0 eW1 eg hs1 hb1 hmay eM HG ed
      have HGW : Hid (g < g + 1) := Lib.hid (Nat.lt_succ_self g)
      obtain ⟨Rr, eRr⟩ : ∃ Rr, (d.w == 2) = Rr := ⟨_, rfl⟩
      have ERr : Hid (isR d = Rr) := Lib.hid (by rw [isR, ← eRr, beq_int])
      rcases Nat.eq_zero_or_pos k with hk0 | hk0
      · have HLF : Hid (lft (prevO ds k) = false) := Lib.hid (by rw [hk0]; rfl)
        have dk : decide (0 < (k : Int)) = false := decide_eq_false (by omega)
        have dkN : decide (0 < k) = false := decide_eq_false (by omega)
        clear hk0
        go_upto_region 7 with (fail)
        rw [← EW.out, ← EGG.out]; clear c0 c1 c2 c3 c4 c5
        cases M
        · have HGf : Hid (G = false) := Lib.hid (by rw [← EG.out, goodP, EM.out]; rfl)
          go_wp2_with (fail)
          refine wp_region_rw 65 [Rl.eq (.agg #[.int .i32 d.r, .int .u8 d.w, .int .u32 d.fg, .int .u32 d.bg, .int .u8 d.at_, .int .u16 d.ln]), Rl.eq (.bool false), Rl.eq (.bool true), Rl.eq (.bool true), Rl.eq (undef), Rl.eq (undef), Rl.eq (undef), Rl.eq (undef), Rl.eq (undef), Rl.eq (.bool true), Rl.eq (.bool true), Rl.eq (undef), Rl.eq (undef), Rl.eq (undef), Rl.eq (undef), Rl.eq (undef), Rl.eq (undef), Rl.eq (undef), Rl.eq (undef), Rl.eq (undef), Rl.eq (undef), Rl.eq (undef), Rl.eq (undef), Rl.eq (.bool true)] [32, 33, 34, 35, 36, 37, 38, 39, 40, 41, 42, 43, 44, 45, 46, 47, 48, 49, 50, 51, 52, 53, 54, 55] (by kernel_rfl) rfl (by kernel_rfl) (by kernel_rfl) ?_ ?_
          · repeat (first | exact AllFrom.nil_ | (refine AllFrom.cons_ (by rfl) ?_ ?_; rotate_left))
            · intro f w' gG hF hD; have h4 : f 4 = .pointer (some ⟨g, 0, none⟩) := hF 4 (by kernel_rfl); rw [if_pos (wanted_none rfl)]; clear hF hD
              have hcs := (show CellsAt W1.drew g 0 d from HN1.out).below (show Below W1.drew.heap.size W1.drew w' from gG) (show g < W1.heap.size by rw [HS1.out]; exact Nat.lt_succ_self g)
              obtain ⟨z0, z1, z2, z3, z4, z5⟩ := hcs; exact gives_val (by simp only [execOp, evF, h4]; go_simp) ⟨Gr.refl _, rfl⟩
            · intro f w' gG hF hD; have h32 : f 32 = .agg #[.int .i32 d.r, .int .u8 d.w, .int .u32 d.fg, .int .u32 d.bg, .int .u8 d.at_, .int .u16 d.ln] := hD 0 32 (by kernel_rfl) rfl; rw [if_pos (wanted_none rfl)]; clear hF hD; refine gives_func rfl Tryz.func62 (by kernel_rfl) rfl (by simp only [List.map_toArray, List.map_cons, List.map_nil, evF, h32]) ((HM.out w' ((show TabU W1 from HTT.out).next ((below_drewN (Below.refl W1.heap.size W1) 1).trans gG))).mono ?_)
              rintro e w'' ⟨rfl, hb⟩
              exact ⟨_, rfl, hb, rfl⟩
            · intro f w' gG hF hD; have h33 : f 33 = .bool false := hD 1 33 (by kernel_rfl) rfl; rw [if_pos (wanted_none rfl)]; clear hF hD; exact gives_val (by simp only [execOp, evF, h33]; first | rfl | go_simp) ⟨Gr.refl _, rfl⟩
            · intro f w' gG hF hD; have h34 : f 34 = .bool true := hD 2 34 (by kernel_rfl) rfl; rw [if_pos (wanted_none rfl)]; clear hF hD; exact gives_val (by simp only [execOp, evF, h34]; first | rfl | go_simp) ⟨Gr.refl _, rfl⟩
            · intro f w' gG hF hD; rw [if_neg (unwanted_some (d := 35) (b := false) rfl rfl (show f 35 = .bool true from hD 3 35 (by kernel_rfl) rfl))]; exact rfl
            · intro f w' gG hF hD; rw [if_neg (unwanted_some (d := 35) (b := false) rfl rfl (show f 35 = .bool true from hD 3 35 (by kernel_rfl) rfl))]; exact rfl
            · intro f w' gG hF hD; rw [if_neg (unwanted_some (d := 35) (b := false) rfl rfl (show f 35 = .bool true from hD 3 35 (by kernel_rfl) rfl))]; exact rfl
            · intro f w' gG hF hD; rw [if_neg (unwanted_some (d := 35) (b := false) rfl rfl (show f 35 = .bool true from hD 3 35 (by kernel_rfl) rfl))]; exact rfl
            · intro f w' gG hF hD; rw [if_neg (unwanted_some (d := 35) (b := false) rfl rfl (show f 35 = .bool true from hD 3 35 (by kernel_rfl) rfl))]; exact rfl
            · intro f w' gG hF hD; have h35 : f 35 = .bool true := hD 3 35 (by kernel_rfl) rfl; have h40 : f 40 = undef := hD 8 40 (by kernel_rfl) rfl; rw [if_pos (wanted_none rfl)]; clear hF hD; exact gives_val (by simp only [execOp, evF, h35, h40]; first | rfl | go_simp) ⟨Gr.refl _, rfl⟩
            · intro f w' gG hF hD; have h41 : f 41 = .bool true := hD 9 41 (by kernel_rfl) rfl; rw [if_pos (wanted_none rfl)]; clear hF hD; exact gives_val (by simp only [execOp, evF, h41]; first | rfl | go_simp) ⟨Gr.refl _, rfl⟩
            · intro f w' gG hF hD; rw [if_neg (unwanted_some (d := 42) (b := false) rfl rfl (show f 42 = .bool true from hD 10 42 (by kernel_rfl) rfl))]; exact rfl
            · intro f w' gG hF hD; rw [if_neg (unwanted_some (d := 42) (b := false) rfl rfl (show f 42 = .bool true from hD 10 42 (by kernel_rfl) rfl))]; exact rfl
            · intro f w' gG hF hD; rw [if_neg (unwanted_undef (d := 44) (b := true) rfl rfl (show f 44 = undef from hD 12 44 (by kernel_rfl) rfl))]; exact rfl
            · intro f w' gG hF hD; rw [if_neg (unwanted_undef (d := 44) (b := true) rfl rfl (show f 44 = undef from hD 12 44 (by kernel_rfl) rfl))]; exact rfl
            · intro f w' gG hF hD; rw [if_neg (unwanted_undef (d := 44) (b := true) rfl rfl (show f 44 = undef from hD 12 44 (by kernel_rfl) rfl))]; exact rfl
            · intro f w' gG hF hD; rw [if_neg (unwanted_undef (d := 44) (b := true) rfl rfl (show f 44 = undef from hD 12 44 (by kernel_rfl) rfl))]; exact rfl
            · intro f w' gG hF hD; rw [if_neg (unwanted_undef (d := 44) (b := true) rfl rfl (show f 44 = undef from hD 12 44 (by kernel_rfl) rfl))]; exact rfl
            · intro f w' gG hF hD; rw [if_neg (unwanted_undef (d := 44) (b := true) rfl rfl (show f 44 = undef from hD 12 44 (by kernel_rfl) rfl))]; exact rfl
            · intro f w' gG hF hD; rw [if_neg (unwanted_undef (d := 44) (b := true) rfl rfl (show f 44 = undef from hD 12 44 (by kernel_rfl) rfl))]; exact rfl
            · intro f w' gG hF hD; rw [if_neg (unwanted_undef (d := 44) (b := true) rfl rfl (show f 44 = undef from hD 12 44 (by kernel_rfl) rfl))]; exact rfl
            · intro f w' gG hF hD; rw [if_neg (unwanted_undef (d := 44) (b := true) rfl rfl (show f 44 = undef from hD 12 44 (by kernel_rfl) rfl))]; exact rfl
            · intro f w' gG hF hD; rw [if_neg (unwanted_some (d := 42) (b := false) rfl rfl (show f 42 = .bool true from hD 10 42 (by kernel_rfl) rfl))]; exact rfl
            · intro f w' gG hF hD; have h42 : f 42 = .bool true := hD 10 42 (by kernel_rfl) rfl; have h54 : f 54 = undef := hD 22 54 (by kernel_rfl) rfl; rw [if_pos (wanted_none rfl)]; clear hF hD; exact gives_val (by simp only [execOp, evF, h42, h54]; first | rfl | go_simp) ⟨Gr.refl _, rfl⟩
          · intro f w' gG hD; have h55 : f 55 = .bool true := hD 23 55 rfl; simp only [putAll, List.setIfInBounds_toArray, List.set_cons_zero, List.set_cons_succ, h55]; clear hD
            have HRR : Hid (R = false) := Lib.hid (by rw [ER.out, HRO.out, HGf.out]; rfl)
            have hfin : Below w.heap.size w w' := HB1.out.trans (Below.mono ((below_drewN (Below.refl W1.heap.size W1) 1).trans gG) HB1.out.size)
            go_wp2_with (fail)
            go_ret
            exact ⟨by rw [HRR.out] <;> rfl, hfin⟩
        cases Rr
        · have HGf : Hid (G = true) := Lib.hid (by rw [← EG.out, goodP, EM.out, HLF.out, ERr.out]; rfl)
          go_wp2_with (fail)
          refine wp_region_rw 65 [Rl.eq (.agg #[.int .i32 d.r, .int .u8 d.w, .int .u32 d.fg, .int .u32 d.bg, .int .u8 d.at_, .int .u16 d.ln]), Rl.eq (.bool true), Rl.eq (.bool false), Rl.eq (.bool false), Rl.eq (.bool false), Rl.eq (.pointer (some ⟨g, 1, none⟩)), Rl.eq (.int .u8 d.w), Rl.eq (.bool false), Rl.eq (.bool false), Rl.eq (.bool false), Rl.eq (.bool false), Rl.eq (.bool false), Rl.eq (.bool false), Rl.eq (undef), Rl.eq (undef), Rl.eq (undef), Rl.eq (undef), Rl.eq (undef), Rl.eq (undef), Rl.eq (undef), Rl.eq (undef), Rl.eq (undef), Rl.eq (.bool false), Rl.eq (.bool false)] [32, 33, 34, 35, 36, 37, 38, 39, 40, 41, 42, 43, 44, 45, 46, 47, 48, 49, 50, 51, 52, 53, 54, 55] (by kernel_rfl) rfl (by kernel_rfl) (by kernel_rfl) ?_ ?_
          · repeat (first | exact AllFrom.nil_ | (refine AllFrom.cons_ (by rfl) ?_ ?_; rotate_left))
            · intro f w' gG hF hD; have h4 : f 4 = .pointer (some ⟨g, 0, none⟩) := hF 4 (by kernel_rfl); rw [if_pos (wanted_none rfl)]; clear hF hD
              have hcs := (show CellsAt W1.drew g 0 d from HN1.out).below (show Below W1.drew.heap.size W1.drew w' from gG) (show g < W1.heap.size by rw [HS1.out]; exact Nat.lt_succ_self g)
              obtain ⟨z0, z1, z2, z3, z4, z5⟩ := hcs; exact gives_val (by simp only [execOp, evF, h4]; go_simp) ⟨Gr.refl _, rfl⟩
            · intro f w' gG hF hD; have h32 : f 32 = .agg #[.int .i32 d.r, .int .u8 d.w, .int .u32 d.fg, .int .u32 d.bg, .int .u8 d.at_, .int .u16 d.ln] := hD 0 32 (by kernel_rfl) rfl; rw [if_pos (wanted_none rfl)]; clear hF hD; refine gives_func rfl Tryz.func62 (by kernel_rfl) rfl (by simp only [List.map_toArray, List.map_cons, List.map_nil, evF, h32]) ((HM.out w' ((show TabU W1 from HTT.out).next ((below_drewN (Below.refl W1.heap.size W1) 1).trans gG))).mono ?_)
              rintro e w'' ⟨rfl, hb⟩
              exact ⟨_, rfl, hb, rfl⟩
            · intro f w' gG hF hD; have h33 : f 33 = .bool true := hD 1 33 (by kernel_rfl) rfl; rw [if_pos (wanted_none rfl)]; clear hF hD; exact gives_val (by simp only [execOp, evF, h33]; first | rfl | go_simp) ⟨Gr.refl _, rfl⟩
            · intro f w' gG hF hD; have h34 : f 34 = .bool false := hD 2 34 (by kernel_rfl) rfl; rw [if_pos (wanted_none rfl)]; clear hF hD; exact gives_val (by simp only [execOp, evF, h34]; first | rfl | go_simp) ⟨Gr.refl _, rfl⟩
            · intro f w' gG hF hD; have h5 : f 5 = .bool false := hF 5 (by kernel_rfl); rw [if_pos (wanted_some (d := 35) rfl rfl (hD 3 35 (by kernel_rfl) rfl))]; clear hF hD; exact gives_val (by simp only [execOp, evF, h5]; first | rfl | go_simp) ⟨Gr.refl _, rfl⟩
            · intro f w' gG hF hD; have h4 : f 4 = .pointer (some ⟨g, 0, none⟩) := hF 4 (by kernel_rfl); rw [if_pos (wanted_some (d := 35) rfl rfl (hD 3 35 (by kernel_rfl) rfl))]; clear hF hD; exact gives_val (by simp only [execOp, evF, h4]; first | rfl | go_simp) ⟨Gr.refl _, rfl⟩
            · intro f w' gG hF hD; have h37 : f 37 = .pointer (some ⟨g, 1, none⟩) := hD 5 37 (by kernel_rfl) rfl; rw [if_pos (wanted_some (d := 35) rfl rfl (hD 3 35 (by kernel_rfl) rfl))]; clear hF hD
              have hcs := (show CellsAt W1.drew g 0 d from HN1.out).below (show Below W1.drew.heap.size W1.drew w' from gG) (show g < W1.heap.size by rw [HS1.out]; exact Nat.lt_succ_self g)
              obtain ⟨z0, z1, z2, z3, z4, z5⟩ := hcs; exact gives_val (by simp only [execOp, evF, h37]; go_simp) ⟨Gr.refl _, rfl⟩
            · intro f w' gG hF hD; have h38 : f 38 = .int .u8 d.w := hD 6 38 (by kernel_rfl) rfl; rw [if_pos (wanted_some (d := 35) rfl rfl (hD 3 35 (by kernel_rfl) rfl))]; clear hF hD; exact gives_val (by simp only [execOp, evF, h38]; first | rfl | go_simp) ⟨Gr.refl _, rfl⟩
            · intro f w' gG hF hD; have h36 : f 36 = .bool false := hD 4 36 (by kernel_rfl) rfl; have h39 : f 39 = .bool false := hD 7 39 (by kernel_rfl) rfl; rw [if_pos (wanted_some (d := 35) rfl rfl (hD 3 35 (by kernel_rfl) rfl))]; clear hF hD; exact gives_val (by simp only [execOp, evF, h36, h39]; first | rfl | go_simp) ⟨Gr.refl _, rfl⟩
            · intro f w' gG hF hD; have h35 : f 35 = .bool false := hD 3 35 (by kernel_rfl) rfl; have h40 : f 40 = .bool false := hD 8 40 (by kernel_rfl) rfl; rw [if_pos (wanted_none rfl)]; clear hF hD; exact gives_val (by simp only [execOp, evF, h35, h40]; first | rfl | go_simp) ⟨Gr.refl _, rfl⟩
            · intro f w' gG hF hD; have h41 : f 41 = .bool false := hD 9 41 (by kernel_rfl) rfl; rw [if_pos (wanted_none rfl)]; clear hF hD; exact gives_val (by simp only [execOp, evF, h41]; first | rfl | go_simp) ⟨Gr.refl _, rfl⟩
            · intro f w' gG hF hD; have h5 : f 5 = .bool false := hF 5 (by kernel_rfl); rw [if_pos (wanted_some (d := 42) rfl rfl (hD 10 42 (by kernel_rfl) rfl))]; clear hF hD; exact gives_val (by simp only [execOp, evF, h5]; first | rfl | go_simp) ⟨Gr.refl _, rfl⟩
            · intro f w' gG hF hD; have h43 : f 43 = .bool false := hD 11 43 (by kernel_rfl) rfl; rw [if_pos (wanted_some (d := 42) rfl rfl (hD 10 42 (by kernel_rfl) rfl))]; clear hF hD; exact gives_val (by simp only [execOp, evF, h43]; first | rfl | go_simp) ⟨Gr.refl _, rfl⟩
            · intro f w' gG hF hD; rw [if_neg (unwanted_some (d := 44) (b := true) rfl rfl (show f 44 = .bool false from hD 12 44 (by kernel_rfl) rfl))]; exact rfl
            · intro f w' gG hF hD; rw [if_neg (unwanted_some (d := 44) (b := true) rfl rfl (show f 44 = .bool false from hD 12 44 (by kernel_rfl) rfl))]; exact rfl
            · intro f w' gG hF hD; rw [if_neg (unwanted_some (d := 44) (b := true) rfl rfl (show f 44 = .bool false from hD 12 44 (by kernel_rfl) rfl))]; exact rfl
            · intro f w' gG hF hD; rw [if_neg (unwanted_some (d := 44) (b := true) rfl rfl (show f 44 = .bool false from hD 12 44 (by kernel_rfl) rfl))]; exact rfl
            · intro f w' gG hF hD; rw [if_neg (unwanted_some (d := 44) (b := true) rfl rfl (show f 44 = .bool false from hD 12 44 (by kernel_rfl) rfl))]; exact rfl
            · intro f w' gG hF hD; rw [if_neg (unwanted_some (d := 44) (b := true) rfl rfl (show f 44 = .bool false from hD 12 44 (by kernel_rfl) rfl))]; exact rfl
            · intro f w' gG hF hD; rw [if_neg (unwanted_some (d := 44) (b := true) rfl rfl (show f 44 = .bool false from hD 12 44 (by kernel_rfl) rfl))]; exact rfl
            · intro f w' gG hF hD; rw [if_neg (unwanted_some (d := 44) (b := true) rfl rfl (show f 44 = .bool false from hD 12 44 (by kernel_rfl) rfl))]; exact rfl
            · intro f w' gG hF hD; rw [if_neg (unwanted_some (d := 44) (b := true) rfl rfl (show f 44 = .bool false from hD 12 44 (by kernel_rfl) rfl))]; exact rfl
            · intro f w' gG hF hD; have h44 : f 44 = .bool false := hD 12 44 (by kernel_rfl) rfl; have h53 : f 53 = undef := hD 21 53 (by kernel_rfl) rfl; rw [if_pos (wanted_some (d := 42) rfl rfl (hD 10 42 (by kernel_rfl) rfl))]; clear hF hD; exact gives_val (by simp only [execOp, evF, h44, h53]; first | rfl | go_simp) ⟨Gr.refl _, rfl⟩
            · intro f w' gG hF hD; have h42 : f 42 = .bool false := hD 10 42 (by kernel_rfl) rfl; have h54 : f 54 = .bool false := hD 22 54 (by kernel_rfl) rfl; rw [if_pos (wanted_none rfl)]; clear hF hD; exact gives_val (by simp only [execOp, evF, h42, h54]; first | rfl | go_simp) ⟨Gr.refl _, rfl⟩
          · intro f w' gG hD; have h55 : f 55 = .bool false := hD 23 55 rfl; simp only [putAll, List.setIfInBounds_toArray, List.set_cons_zero, List.set_cons_succ, h55]; clear hD
            have hrr : rowP none ds = rowP (prevO ds (k + 1)) (ds.drop (k + 1)) := by rw [HRO.out, HGf.out]; rfl
            have HRR := Lib.hid hrr
            have HFIN : Hid (Below w.heap.size w w') := Lib.hid (HB1.out.trans (Below.mono ((below_drewN (Below.refl W1.heap.size W1) 1).trans gG) HB1.out.size))
            clear hrr gG
            go_wp2_with (fail)
            go_roundw
            case rel => exact ⟨k + 1, by omega, by go_num, HRR, HFIN⟩
            case measure => simp [intOf]; omega
        · have HGf : Hid (G = false) := Lib.hid (by rw [← EG.out, goodP, EM.out, HLF.out, ERr.out]; rfl)
          go_wp2_with (fail)
          refine wp_region_rw 65 [Rl.eq (.agg #[.int .i32 d.r, .int .u8 d.w, .int .u32 d.fg, .int .u32 d.bg, .int .u8 d.at_, .int .u16 d.ln]), Rl.eq (.bool true), Rl.eq (.bool false), Rl.eq (.bool false), Rl.eq (.bool false), Rl.eq (.pointer (some ⟨g, 1, none⟩)), Rl.eq (.int .u8 d.w), Rl.eq (.bool true), Rl.eq (.bool true), Rl.eq (.bool true), Rl.eq (.bool true), Rl.eq (undef), Rl.eq (undef), Rl.eq (undef), Rl.eq (undef), Rl.eq (undef), Rl.eq (undef), Rl.eq (undef), Rl.eq (undef), Rl.eq (undef), Rl.eq (undef), Rl.eq (undef), Rl.eq (undef), Rl.eq (.bool true)] [32, 33, 34, 35, 36, 37, 38, 39, 40, 41, 42, 43, 44, 45, 46, 47, 48, 49, 50, 51, 52, 53, 54, 55] (by kernel_rfl) rfl (by kernel_rfl) (by kernel_rfl) ?_ ?_
          · repeat (first | exact AllFrom.nil_ | (refine AllFrom.cons_ (by rfl) ?_ ?_; rotate_left))
            · intro f w' gG hF hD; have h4 : f 4 = .pointer (some ⟨g, 0, none⟩) := hF 4 (by kernel_rfl); rw [if_pos (wanted_none rfl)]; clear hF hD
              have hcs := (show CellsAt W1.drew g 0 d from HN1.out).below (show Below W1.drew.heap.size W1.drew w' from gG) (show g < W1.heap.size by rw [HS1.out]; exact Nat.lt_succ_self g)
              obtain ⟨z0, z1, z2, z3, z4, z5⟩ := hcs; exact gives_val (by simp only [execOp, evF, h4]; go_simp) ⟨Gr.refl _, rfl⟩
            · intro f w' gG hF hD; have h32 : f 32 = .agg #[.int .i32 d.r, .int .u8 d.w, .int .u32 d.fg, .int .u32 d.bg, .int .u8 d.at_, .int .u16 d.ln] := hD 0 32 (by kernel_rfl) rfl; rw [if_pos (wanted_none rfl)]; clear hF hD; refine gives_func rfl Tryz.func62 (by kernel_rfl) rfl (by simp only [List.map_toArray, List.map_cons, List.map_nil, evF, h32]) ((HM.out w' ((show TabU W1 from HTT.out).next ((below_drewN (Below.refl W1.heap.size W1) 1).trans gG))).mono ?_)
              rintro e w'' ⟨rfl, hb⟩
              exact ⟨_, rfl, hb, rfl⟩
            · intro f w' gG hF hD; have h33 : f 33 = .bool true := hD 1 33 (by kernel_rfl) rfl; rw [if_pos (wanted_none rfl)]; clear hF hD; exact gives_val (by simp only [execOp, evF, h33]; first | rfl | go_simp) ⟨Gr.refl _, rfl⟩
            · intro f w' gG hF hD; have h34 : f 34 = .bool false := hD 2 34 (by kernel_rfl) rfl; rw [if_pos (wanted_none rfl)]; clear hF hD; exact gives_val (by simp only [execOp, evF, h34]; first | rfl | go_simp) ⟨Gr.refl _, rfl⟩
            · intro f w' gG hF hD; have h5 : f 5 = .bool false := hF 5 (by kernel_rfl); rw [if_pos (wanted_some (d := 35) rfl rfl (hD 3 35 (by kernel_rfl) rfl))]; clear hF hD; exact gives_val (by simp only [execOp, evF, h5]; first | rfl | go_simp) ⟨Gr.refl _, rfl⟩
            · intro f w' gG hF hD; have h4 : f 4 = .pointer (some ⟨g, 0, none⟩) := hF 4 (by kernel_rfl); rw [if_pos (wanted_some (d := 35) rfl rfl (hD 3 35 (by kernel_rfl) rfl))]; clear hF hD; exact gives_val (by simp only [execOp, evF, h4]; first | rfl | go_simp) ⟨Gr.refl _, rfl⟩
            · intro f w' gG hF hD; have h37 : f 37 = .pointer (some ⟨g, 1, none⟩) := hD 5 37 (by kernel_rfl) rfl; rw [if_pos (wanted_some (d := 35) rfl rfl (hD 3 35 (by kernel_rfl) rfl))]; clear hF hD
              have hcs := (show CellsAt W1.drew g 0 d from HN1.out).below (show Below W1.drew.heap.size W1.drew w' from gG) (show g < W1.heap.size by rw [HS1.out]; exact Nat.lt_succ_self g)
              obtain ⟨z0, z1, z2, z3, z4, z5⟩ := hcs; exact gives_val (by simp only [execOp, evF, h37]; go_simp) ⟨Gr.refl _, rfl⟩
            · intro f w' gG hF hD; have h38 : f 38 = .int .u8 d.w := hD 6 38 (by kernel_rfl) rfl; rw [if_pos (wanted_some (d := 35) rfl rfl (hD 3 35 (by kernel_rfl) rfl))]; clear hF hD; exact gives_val (by simp only [execOp, evF, h38]; first | rfl | go_simp) ⟨Gr.refl _, rfl⟩
            · intro f w' gG hF hD; have h36 : f 36 = .bool false := hD 4 36 (by kernel_rfl) rfl; have h39 : f 39 = .bool true := hD 7 39 (by kernel_rfl) rfl; rw [if_pos (wanted_some (d := 35) rfl rfl (hD 3 35 (by kernel_rfl) rfl))]; clear hF hD; exact gives_val (by simp only [execOp, evF, h36, h39]; first | rfl | go_simp) ⟨Gr.refl _, rfl⟩
            · intro f w' gG hF hD; have h35 : f 35 = .bool false := hD 3 35 (by kernel_rfl) rfl; have h40 : f 40 = .bool true := hD 8 40 (by kernel_rfl) rfl; rw [if_pos (wanted_none rfl)]; clear hF hD; exact gives_val (by simp only [execOp, evF, h35, h40]; first | rfl | go_simp) ⟨Gr.refl _, rfl⟩
            · intro f w' gG hF hD; have h41 : f 41 = .bool true := hD 9 41 (by kernel_rfl) rfl; rw [if_pos (wanted_none rfl)]; clear hF hD; exact gives_val (by simp only [execOp, evF, h41]; first | rfl | go_simp) ⟨Gr.refl _, rfl⟩
            · intro f w' gG hF hD; rw [if_neg (unwanted_some (d := 42) (b := false) rfl rfl (show f 42 = .bool true from hD 10 42 (by kernel_rfl) rfl))]; exact rfl
            · intro f w' gG hF hD; rw [if_neg (unwanted_some (d := 42) (b := false) rfl rfl (show f 42 = .bool true from hD 10 42 (by kernel_rfl) rfl))]; exact rfl
            · intro f w' gG hF hD; rw [if_neg (unwanted_undef (d := 44) (b := true) rfl rfl (show f 44 = undef from hD 12 44 (by kernel_rfl) rfl))]; exact rfl
            · intro f w' gG hF hD; rw [if_neg (unwanted_undef (d := 44) (b := true) rfl rfl (show f 44 = undef from hD 12 44 (by kernel_rfl) rfl))]; exact rfl
            · intro f w' gG hF hD; rw [if_neg (unwanted_undef (d := 44) (b := true) rfl rfl (show f 44 = undef from hD 12 44 (by kernel_rfl) rfl))]; exact rfl
            · intro f w' gG hF hD; rw [if_neg (unwanted_undef (d := 44) (b := true) rfl rfl (show f 44 = undef from hD 12 44 (by kernel_rfl) rfl))]; exact rfl
            · intro f w' gG hF hD; rw [if_neg (unwanted_undef (d := 44) (b := true) rfl rfl (show f 44 = undef from hD 12 44 (by kernel_rfl) rfl))]; exact rfl
            · intro f w' gG hF hD; rw [if_neg (unwanted_undef (d := 44) (b := true) rfl rfl (show f 44 = undef from hD 12 44 (by kernel_rfl) rfl))]; exact rfl
            · intro f w' gG hF hD; rw [if_neg (unwanted_undef (d := 44) (b := true) rfl rfl (show f 44 = undef from hD 12 44 (by kernel_rfl) rfl))]; exact rfl
            · intro f w' gG hF hD; rw [if_neg (unwanted_undef (d := 44) (b := true) rfl rfl (show f 44 = undef from hD 12 44 (by kernel_rfl) rfl))]; exact rfl
            · intro f w' gG hF hD; rw [if_neg (unwanted_undef (d := 44) (b := true) rfl rfl (show f 44 = undef from hD 12 44 (by kernel_rfl) rfl))]; exact rfl
            · intro f w' gG hF hD; rw [if_neg (unwanted_some (d := 42) (b := false) rfl rfl (show f 42 = .bool true from hD 10 42 (by kernel_rfl) rfl))]; exact rfl
            · intro f w' gG hF hD; have h42 : f 42 = .bool true := hD 10 42 (by kernel_rfl) rfl; have h54 : f 54 = undef := hD 22 54 (by kernel_rfl) rfl; rw [if_pos (wanted_none rfl)]; clear hF hD; exact gives_val (by simp only [execOp, evF, h42, h54]; first | rfl | go_simp) ⟨Gr.refl _, rfl⟩
          · intro f w' gG hD; have h55 : f 55 = .bool true := hD 23 55 rfl; simp only [putAll, List.setIfInBounds_toArray, List.set_cons_zero, List.set_cons_succ, h55]; clear hD
            have HRR : Hid (R = false) := Lib.hid (by rw [ER.out, HRO.out, HGf.out]; rfl)
            have hfin : Below w.heap.size w w' := HB1.out.trans (Below.mono ((below_drewN (Below.refl W1.heap.size W1) 1).trans gG) HB1.out.size)
            go_wp2_with (fail)
            go_ret
            exact ⟨by rw [HRR.out] <;> rfl, hfin⟩
      · have hql : k - 1 < ds.length := by omega
        have dk : decide (0 < (k : Int)) = true := decide_eq_true (by omega)
        have dkN : decide (0 < k) = true := decide_eq_true (by omega)
        have hqn : (k : Int) - 1 < (n : Int) := by omega
        obtain ⟨p, ep⟩ : ∃ p, p = ds[k - 1] := ⟨_, rfl⟩
        have hpo : prevO ds k = some p := by
          obtain ⟨q, rfl⟩ : ∃ q, k = q + 1 := ⟨k - 1, by omega⟩
          have hq2 : q < ds.length := by omega
          rw [prevO, List.getElem?_eq_getElem hq2, ep]; rfl
        obtain ⟨b', off', e', -, hp0⟩ := HRD.out.cellsAt (k - 1) hql; rw [← ep] at hp0
        injection e' with e'
        injection e' with e1 e2
        subst e1 e2
        have hp1 := (hp0.below HB.out hb)
        have HP1 := Lib.hid ((hp0.below (HB1.out) hb))
        clear hp1
        have p1 : (wr.alloc (.cells #[.int .i32 d.r, .int .u8 d.w, .int .u32 d.fg, .int .u32 d.bg, .int .u8 d.at_, .int .u16 d.ln] 43)).cell? ⟨b, off + (k - 1) * 6 + 1, none⟩ = some (.int .u8 p.w) := by rw [← EW.out]; exact HP1.out.2.1
        have HPO : Hid (∀ c, pnO (prevO ds k) c = penEq p c) := Lib.hid (fun c => by rw [hpo]; rfl)
        obtain ⟨L, eL⟩ : ∃ L, (p.w == 1) = L := ⟨_, rfl⟩
        have HLF : Hid (lft (prevO ds k) = L) := Lib.hid (by rw [hpo, lft, isL, ← beq_int]; exact eL)
        have HK1 : Hid (¬ ((k : Int) < 1)) := Lib.hid (by omega)
        have HWK : Hid (IntKind.i64.wrap ((k : Int) - 1) = (k : Int) - 1) := Lib.hid (by unfold IntKind.wrap; simp [IntKind.bits, IntKind.signed]; omega)
        clear hpo hp0 ep hql
        go_upto_region 7 with (fail)
        rw [← EW.out, ← EGG.out]; clear p1 c0 c1 c2 c3 c4 c5
        rcases L with _ | _
        · skip
          cases M
          · have HGf : Hid (G = false) := Lib.hid (by rw [← EG.out, goodP, EM.out]; rfl)
            go_wp2_with (fail)
            refine wp_region_rw 65 [Rl.eq (.agg #[.int .i32 d.r, .int .u8 d.w, .int .u32 d.fg, .int .u32 d.bg, .int .u8 d.at_, .int .u16 d.ln]), Rl.eq (.bool false), Rl.eq (.bool true), Rl.eq (.bool true), Rl.eq (undef), Rl.eq (undef), Rl.eq (undef), Rl.eq (undef), Rl.eq (undef), Rl.eq (.bool true), Rl.eq (.bool true), Rl.eq (undef), Rl.eq (undef), Rl.eq (undef), Rl.eq (undef), Rl.eq (undef), Rl.eq (undef), Rl.eq (undef), Rl.eq (undef), Rl.eq (undef), Rl.eq (undef), Rl.eq (undef), Rl.eq (undef), Rl.eq (.bool true)] [32, 33, 34, 35, 36, 37, 38, 39, 40, 41, 42, 43, 44, 45, 46, 47, 48, 49, 50, 51, 52, 53, 54, 55] (by kernel_rfl) rfl (by kernel_rfl) (by kernel_rfl) ?_ ?_
            · repeat (first | exact AllFrom.nil_ | (refine AllFrom.cons_ (by rfl) ?_ ?_; rotate_left))
              · intro f w' gG hF hD; have h4 : f 4 = .pointer (some ⟨g, 0, none⟩) := hF 4 (by kernel_rfl); rw [if_pos (wanted_none rfl)]; clear hF hD
                have hcs := (show CellsAt W1.drew g 0 d from HN1.out).below (show Below W1.drew.heap.size W1.drew w' from gG) (show g < W1.heap.size by rw [HS1.out]; exact Nat.lt_succ_self g)
                obtain ⟨z0, z1, z2, z3, z4, z5⟩ := hcs; exact gives_val (by simp only [execOp, evF, h4]; go_simp) ⟨Gr.refl _, rfl⟩
              · intro f w' gG hF hD; have h32 : f 32 = .agg #[.int .i32 d.r, .int .u8 d.w, .int .u32 d.fg, .int .u32 d.bg, .int .u8 d.at_, .int .u16 d.ln] := hD 0 32 (by kernel_rfl) rfl; rw [if_pos (wanted_none rfl)]; clear hF hD; refine gives_func rfl Tryz.func62 (by kernel_rfl) rfl (by simp only [List.map_toArray, List.map_cons, List.map_nil, evF, h32]) ((HM.out w' ((show TabU W1 from HTT.out).next ((below_drewN (Below.refl W1.heap.size W1) 1).trans gG))).mono ?_)
                rintro e w'' ⟨rfl, hb⟩
                exact ⟨_, rfl, hb, rfl⟩
              · intro f w' gG hF hD; have h33 : f 33 = .bool false := hD 1 33 (by kernel_rfl) rfl; rw [if_pos (wanted_none rfl)]; clear hF hD; exact gives_val (by simp only [execOp, evF, h33]; first | rfl | go_simp) ⟨Gr.refl _, rfl⟩
              · intro f w' gG hF hD; have h34 : f 34 = .bool true := hD 2 34 (by kernel_rfl) rfl; rw [if_pos (wanted_none rfl)]; clear hF hD; exact gives_val (by simp only [execOp, evF, h34]; first | rfl | go_simp) ⟨Gr.refl _, rfl⟩
              · intro f w' gG hF hD; rw [if_neg (unwanted_some (d := 35) (b := false) rfl rfl (show f 35 = .bool true from hD 3 35 (by kernel_rfl) rfl))]; exact rfl
              · intro f w' gG hF hD; rw [if_neg (unwanted_some (d := 35) (b := false) rfl rfl (show f 35 = .bool true from hD 3 35 (by kernel_rfl) rfl))]; exact rfl
              · intro f w' gG hF hD; rw [if_neg (unwanted_some (d := 35) (b := false) rfl rfl (show f 35 = .bool true from hD 3 35 (by kernel_rfl) rfl))]; exact rfl
              · intro f w' gG hF hD; rw [if_neg (unwanted_some (d := 35) (b := false) rfl rfl (show f 35 = .bool true from hD 3 35 (by kernel_rfl) rfl))]; exact rfl
              · intro f w' gG hF hD; rw [if_neg (unwanted_some (d := 35) (b := false) rfl rfl (show f 35 = .bool true from hD 3 35 (by kernel_rfl) rfl))]; exact rfl
              · intro f w' gG hF hD; have h35 : f 35 = .bool true := hD 3 35 (by kernel_rfl) rfl; have h40 : f 40 = undef := hD 8 40 (by kernel_rfl) rfl; rw [if_pos (wanted_none rfl)]; clear hF hD; exact gives_val (by simp only [execOp, evF, h35, h40]; first | rfl | go_simp) ⟨Gr.refl _, rfl⟩
              · intro f w' gG hF hD; have h41 : f 41 = .bool true := hD 9 41 (by kernel_rfl) rfl; rw [if_pos (wanted_none rfl)]; clear hF hD; exact gives_val (by simp only [execOp, evF, h41]; first | rfl | go_simp) ⟨Gr.refl _, rfl⟩
              · intro f w' gG hF hD; rw [if_neg (unwanted_some (d := 42) (b := false) rfl rfl (show f 42 = .bool true from hD 10 42 (by kernel_rfl) rfl))]; exact rfl
              · intro f w' gG hF hD; rw [if_neg (unwanted_some (d := 42) (b := false) rfl rfl (show f 42 = .bool true from hD 10 42 (by kernel_rfl) rfl))]; exact rfl
              · intro f w' gG hF hD; rw [if_neg (unwanted_undef (d := 44) (b := true) rfl rfl (show f 44 = undef from hD 12 44 (by kernel_rfl) rfl))]; exact rfl
              · intro f w' gG hF hD; rw [if_neg (unwanted_undef (d := 44) (b := true) rfl rfl (show f 44 = undef from hD 12 44 (by kernel_rfl) rfl))]; exact rfl
              · intro f w' gG hF hD; rw [if_neg (unwanted_undef (d := 44) (b := true) rfl rfl (show f 44 = undef from hD 12 44 (by kernel_rfl) rfl))]; exact rfl
              · intro f w' gG hF hD; rw [if_neg (unwanted_undef (d := 44) (b := true) rfl rfl (show f 44 = undef from hD 12 44 (by kernel_rfl) rfl))]; exact rfl
              · intro f w' gG hF hD; rw [if_neg (unwanted_undef (d := 44) (b := true) rfl rfl (show f 44 = undef from hD 12 44 (by kernel_rfl) rfl))]; exact rfl
              · intro f w' gG hF hD; rw [if_neg (unwanted_undef (d := 44) (b := true) rfl rfl (show f 44 = undef from hD 12 44 (by kernel_rfl) rfl))]; exact rfl
              · intro f w' gG hF hD; rw [if_neg (unwanted_undef (d := 44) (b := true) rfl rfl (show f 44 = undef from hD 12 44 (by kernel_rfl) rfl))]; exact rfl
              · intro f w' gG hF hD; rw [if_neg (unwanted_undef (d := 44) (b := true) rfl rfl (show f 44 = undef from hD 12 44 (by kernel_rfl) rfl))]; exact rfl
              · intro f w' gG hF hD; rw [if_neg (unwanted_undef (d := 44) (b := true) rfl rfl (show f 44 = undef from hD 12 44 (by kernel_rfl) rfl))]; exact rfl
              · intro f w' gG hF hD; rw [if_neg (unwanted_some (d := 42) (b := false) rfl rfl (show f 42 = .bool true from hD 10 42 (by kernel_rfl) rfl))]; exact rfl
              · intro f w' gG hF hD; have h42 : f 42 = .bool true := hD 10 42 (by kernel_rfl) rfl; have h54 : f 54 = undef := hD 22 54 (by kernel_rfl) rfl; rw [if_pos (wanted_none rfl)]; clear hF hD; exact gives_val (by simp only [execOp, evF, h42, h54]; first | rfl | go_simp) ⟨Gr.refl _, rfl⟩
            · intro f w' gG hD; have h55 : f 55 = .bool true := hD 23 55 rfl; simp only [putAll, List.setIfInBounds_toArray, List.set_cons_zero, List.set_cons_succ, h55]; clear hD
              have HRR : Hid (R = false) := Lib.hid (by rw [ER.out, HRO.out, HGf.out]; rfl)
              have hfin : Below w.heap.size w w' := HB1.out.trans (Below.mono ((below_drewN (Below.refl W1.heap.size W1) 1).trans gG) HB1.out.size)
              go_wp2_with (fail)
              go_ret
              exact ⟨by rw [HRR.out] <;> rfl, hfin⟩
          cases Rr
          · have HGf : Hid (G = true) := Lib.hid (by rw [← EG.out, goodP, EM.out, HLF.out, ERr.out]; rfl)
            go_wp2_with (fail)
            refine wp_region_rw 65 [Rl.eq (.agg #[.int .i32 d.r, .int .u8 d.w, .int .u32 d.fg, .int .u32 d.bg, .int .u8 d.at_, .int .u16 d.ln]), Rl.eq (.bool true), Rl.eq (.bool false), Rl.eq (.bool false), Rl.eq (.bool false), Rl.eq (.pointer (some ⟨g, 1, none⟩)), Rl.eq (.int .u8 d.w), Rl.eq (.bool false), Rl.eq (.bool false), Rl.eq (.bool false), Rl.eq (.bool false), Rl.eq (.bool false), Rl.eq (.bool false), Rl.eq (undef), Rl.eq (undef), Rl.eq (undef), Rl.eq (undef), Rl.eq (undef), Rl.eq (undef), Rl.eq (undef), Rl.eq (undef), Rl.eq (undef), Rl.eq (.bool false), Rl.eq (.bool false)] [32, 33, 34, 35, 36, 37, 38, 39, 40, 41, 42, 43, 44, 45, 46, 47, 48, 49, 50, 51, 52, 53, 54, 55] (by kernel_rfl) rfl (by kernel_rfl) (by kernel_rfl) ?_ ?_
            · repeat (first | exact AllFrom.nil_ | (refine AllFrom.cons_ (by rfl) ?_ ?_; rotate_left))
              · intro f w' gG hF hD; have h4 : f 4 = .pointer (some ⟨g, 0, none⟩) := hF 4 (by kernel_rfl); rw [if_pos (wanted_none rfl)]; clear hF hD
                have hcs := (show CellsAt W1.drew g 0 d from HN1.out).below (show Below W1.drew.heap.size W1.drew w' from gG) (show g < W1.heap.size by rw [HS1.out]; exact Nat.lt_succ_self g)
                obtain ⟨z0, z1, z2, z3, z4, z5⟩ := hcs; exact gives_val (by simp only [execOp, evF, h4]; go_simp) ⟨Gr.refl _, rfl⟩
              · intro f w' gG hF hD; have h32 : f 32 = .agg #[.int .i32 d.r, .int .u8 d.w, .int .u32 d.fg, .int .u32 d.bg, .int .u8 d.at_, .int .u16 d.ln] := hD 0 32 (by kernel_rfl) rfl; rw [if_pos (wanted_none rfl)]; clear hF hD; refine gives_func rfl Tryz.func62 (by kernel_rfl) rfl (by simp only [List.map_toArray, List.map_cons, List.map_nil, evF, h32]) ((HM.out w' ((show TabU W1 from HTT.out).next ((below_drewN (Below.refl W1.heap.size W1) 1).trans gG))).mono ?_)
                rintro e w'' ⟨rfl, hb⟩
                exact ⟨_, rfl, hb, rfl⟩
              · intro f w' gG hF hD; have h33 : f 33 = .bool true := hD 1 33 (by kernel_rfl) rfl; rw [if_pos (wanted_none rfl)]; clear hF hD; exact gives_val (by simp only [execOp, evF, h33]; first | rfl | go_simp) ⟨Gr.refl _, rfl⟩
              · intro f w' gG hF hD; have h34 : f 34 = .bool false := hD 2 34 (by kernel_rfl) rfl; rw [if_pos (wanted_none rfl)]; clear hF hD; exact gives_val (by simp only [execOp, evF, h34]; first | rfl | go_simp) ⟨Gr.refl _, rfl⟩
              · intro f w' gG hF hD; have h5 : f 5 = .bool false := hF 5 (by kernel_rfl); rw [if_pos (wanted_some (d := 35) rfl rfl (hD 3 35 (by kernel_rfl) rfl))]; clear hF hD; exact gives_val (by simp only [execOp, evF, h5]; first | rfl | go_simp) ⟨Gr.refl _, rfl⟩
              · intro f w' gG hF hD; have h4 : f 4 = .pointer (some ⟨g, 0, none⟩) := hF 4 (by kernel_rfl); rw [if_pos (wanted_some (d := 35) rfl rfl (hD 3 35 (by kernel_rfl) rfl))]; clear hF hD; exact gives_val (by simp only [execOp, evF, h4]; first | rfl | go_simp) ⟨Gr.refl _, rfl⟩
              · intro f w' gG hF hD; have h37 : f 37 = .pointer (some ⟨g, 1, none⟩) := hD 5 37 (by kernel_rfl) rfl; rw [if_pos (wanted_some (d := 35) rfl rfl (hD 3 35 (by kernel_rfl) rfl))]; clear hF hD
                have hcs := (show CellsAt W1.drew g 0 d from HN1.out).below (show Below W1.drew.heap.size W1.drew w' from gG) (show g < W1.heap.size by rw [HS1.out]; exact Nat.lt_succ_self g)
                obtain ⟨z0, z1, z2, z3, z4, z5⟩ := hcs; exact gives_val (by simp only [execOp, evF, h37]; go_simp) ⟨Gr.refl _, rfl⟩
              · intro f w' gG hF hD; have h38 : f 38 = .int .u8 d.w := hD 6 38 (by kernel_rfl) rfl; rw [if_pos (wanted_some (d := 35) rfl rfl (hD 3 35 (by kernel_rfl) rfl))]; clear hF hD; exact gives_val (by simp only [execOp, evF, h38]; first | rfl | go_simp) ⟨Gr.refl _, rfl⟩
              · intro f w' gG hF hD; have h36 : f 36 = .bool false := hD 4 36 (by kernel_rfl) rfl; have h39 : f 39 = .bool false := hD 7 39 (by kernel_rfl) rfl; rw [if_pos (wanted_some (d := 35) rfl rfl (hD 3 35 (by kernel_rfl) rfl))]; clear hF hD; exact gives_val (by simp only [execOp, evF, h36, h39]; first | rfl | go_simp) ⟨Gr.refl _, rfl⟩
              · intro f w' gG hF hD; have h35 : f 35 = .bool false := hD 3 35 (by kernel_rfl) rfl; have h40 : f 40 = .bool false := hD 8 40 (by kernel_rfl) rfl; rw [if_pos (wanted_none rfl)]; clear hF hD; exact gives_val (by simp only [execOp, evF, h35, h40]; first | rfl | go_simp) ⟨Gr.refl _, rfl⟩
              · intro f w' gG hF hD; have h41 : f 41 = .bool false := hD 9 41 (by kernel_rfl) rfl; rw [if_pos (wanted_none rfl)]; clear hF hD; exact gives_val (by simp only [execOp, evF, h41]; first | rfl | go_simp) ⟨Gr.refl _, rfl⟩
              · intro f w' gG hF hD; have h5 : f 5 = .bool false := hF 5 (by kernel_rfl); rw [if_pos (wanted_some (d := 42) rfl rfl (hD 10 42 (by kernel_rfl) rfl))]; clear hF hD; exact gives_val (by simp only [execOp, evF, h5]; first | rfl | go_simp) ⟨Gr.refl _, rfl⟩
              · intro f w' gG hF hD; have h43 : f 43 = .bool false := hD 11 43 (by kernel_rfl) rfl; rw [if_pos (wanted_some (d := 42) rfl rfl (hD 10 42 (by kernel_rfl) rfl))]; clear hF hD; exact gives_val (by simp only [execOp, evF, h43]; first | rfl | go_simp) ⟨Gr.refl _, rfl⟩
              · intro f w' gG hF hD; rw [if_neg (unwanted_some (d := 44) (b := true) rfl rfl (show f 44 = .bool false from hD 12 44 (by kernel_rfl) rfl))]; exact rfl
              · intro f w' gG hF hD; rw [if_neg (unwanted_some (d := 44) (b := true) rfl rfl (show f 44 = .bool false from hD 12 44 (by kernel_rfl) rfl))]; exact rfl
              · intro f w' gG hF hD; rw [if_neg (unwanted_some (d := 44) (b := true) rfl rfl (show f 44 = .bool false from hD 12 44 (by kernel_rfl) rfl))]; exact rfl
              · intro f w' gG hF hD; rw [if_neg (unwanted_some (d := 44) (b := true) rfl rfl (show f 44 = .bool false from hD 12 44 (by kernel_rfl) rfl))]; exact rfl
              · intro f w' gG hF hD; rw [if_neg (unwanted_some (d := 44) (b := true) rfl rfl (show f 44 = .bool false from hD 12 44 (by kernel_rfl) rfl))]; exact rfl
              · intro f w' gG hF hD; rw [if_neg (unwanted_some (d := 44) (b := true) rfl rfl (show f 44 = .bool false from hD 12 44 (by kernel_rfl) rfl))]; exact rfl
              · intro f w' gG hF hD; rw [if_neg (unwanted_some (d := 44) (b := true) rfl rfl (show f 44 = .bool false from hD 12 44 (by kernel_rfl) rfl))]; exact rfl
              · intro f w' gG hF hD; rw [if_neg (unwanted_some (d := 44) (b := true) rfl rfl (show f 44 = .bool false from hD 12 44 (by kernel_rfl) rfl))]; exact rfl
              · intro f w' gG hF hD; rw [if_neg (unwanted_some (d := 44) (b := true) rfl rfl (show f 44 = .bool false from hD 12 44 (by kernel_rfl) rfl))]; exact rfl
              · intro f w' gG hF hD; have h44 : f 44 = .bool false := hD 12 44 (by kernel_rfl) rfl; have h53 : f 53 = undef := hD 21 53 (by kernel_rfl) rfl; rw [if_pos (wanted_some (d := 42) rfl rfl (hD 10 42 (by kernel_rfl) rfl))]; clear hF hD; exact gives_val (by simp only [execOp, evF, h44, h53]; first | rfl | go_simp) ⟨Gr.refl _, rfl⟩
              · intro f w' gG hF hD; have h42 : f 42 = .bool false := hD 10 42 (by kernel_rfl) rfl; have h54 : f 54 = .bool false := hD 22 54 (by kernel_rfl) rfl; rw [if_pos (wanted_none rfl)]; clear hF hD; exact gives_val (by simp only [execOp, evF, h42, h54]; first | rfl | go_simp) ⟨Gr.refl _, rfl⟩
            · intro f w' gG hD; have h55 : f 55 = .bool false := hD 23 55 rfl; simp only [putAll, List.setIfInBounds_toArray, List.set_cons_zero, List.set_cons_succ, h55]; clear hD
              have hrr : rowP none ds = rowP (prevO ds (k + 1)) (ds.drop (k + 1)) := by rw [HRO.out, HGf.out]; rfl
              have HRR := Lib.hid hrr
              have HFIN : Hid (Below w.heap.size w w') := Lib.hid (HB1.out.trans (Below.mono ((below_drewN (Below.refl W1.heap.size W1) 1).trans gG) HB1.out.size))
              clear hrr gG
              go_wp2_with (fail)
              go_roundw
              case rel => exact ⟨k + 1, by omega, by go_num, HRR, HFIN⟩
              case measure => simp [intOf]; omega
          · have HGf : Hid (G = false) := Lib.hid (by rw [← EG.out, goodP, EM.out, HLF.out, ERr.out]; rfl)
            go_wp2_with (fail)
            refine wp_region_rw 65 [Rl.eq (.agg #[.int .i32 d.r, .int .u8 d.w, .int .u32 d.fg, .int .u32 d.bg, .int .u8 d.at_, .int .u16 d.ln]), Rl.eq (.bool true), Rl.eq (.bool false), Rl.eq (.bool false), Rl.eq (.bool false), Rl.eq (.pointer (some ⟨g, 1, none⟩)), Rl.eq (.int .u8 d.w), Rl.eq (.bool true), Rl.eq (.bool true), Rl.eq (.bool true), Rl.eq (.bool true), Rl.eq (undef), Rl.eq (undef), Rl.eq (undef), Rl.eq (undef), Rl.eq (undef), Rl.eq (undef), Rl.eq (undef), Rl.eq (undef), Rl.eq (undef), Rl.eq (undef), Rl.eq (undef), Rl.eq (undef), Rl.eq (.bool true)] [32, 33, 34, 35, 36, 37, 38, 39, 40, 41, 42, 43, 44, 45, 46, 47, 48, 49, 50, 51, 52, 53, 54, 55] (by kernel_rfl) rfl (by kernel_rfl) (by kernel_rfl) ?_ ?_
            · repeat (first | exact AllFrom.nil_ | (refine AllFrom.cons_ (by rfl) ?_ ?_; rotate_left))
              · intro f w' gG hF hD; have h4 : f 4 = .pointer (some ⟨g, 0, none⟩) := hF 4 (by kernel_rfl); rw [if_pos (wanted_none rfl)]; clear hF hD
                have hcs := (show CellsAt W1.drew g 0 d from HN1.out).below (show Below W1.drew.heap.size W1.drew w' from gG) (show g < W1.heap.size by rw [HS1.out]; exact Nat.lt_succ_self g)
                obtain ⟨z0, z1, z2, z3, z4, z5⟩ := hcs; exact gives_val (by simp only [execOp, evF, h4]; go_simp) ⟨Gr.refl _, rfl⟩
              · intro f w' gG hF hD; have h32 : f 32 = .agg #[.int .i32 d.r, .int .u8 d.w, .int .u32 d.fg, .int .u32 d.bg, .int .u8 d.at_, .int .u16 d.ln] := hD 0 32 (by kernel_rfl) rfl; rw [if_pos (wanted_none rfl)]; clear hF hD; refine gives_func rfl Tryz.func62 (by kernel_rfl) rfl (by simp only [List.map_toArray, List.map_cons, List.map_nil, evF, h32]) ((HM.out w' ((show TabU W1 from HTT.out).next ((below_drewN (Below.refl W1.heap.size W1) 1).trans gG))).mono ?_)
                rintro e w'' ⟨rfl, hb⟩
                exact ⟨_, rfl, hb, rfl⟩
              · intro f w' gG hF hD; have h33 : f 33 = .bool true := hD 1 33 (by kernel_rfl) rfl; rw [if_pos (wanted_none rfl)]; clear hF hD; exact gives_val (by simp only [execOp, evF, h33]; first | rfl | go_simp) ⟨Gr.refl _, rfl⟩
              · intro f w' gG hF hD; have h34 : f 34 = .bool false := hD 2 34 (by kernel_rfl) rfl; rw [if_pos (wanted_none rfl)]; clear hF hD; exact gives_val (by simp only [execOp, evF, h34]; first | rfl | go_simp) ⟨Gr.refl _, rfl⟩
              · intro f w' gG hF hD; have h5 : f 5 = .bool false := hF 5 (by kernel_rfl); rw [if_pos (wanted_some (d := 35) rfl rfl (hD 3 35 (by kernel_rfl) rfl))]; clear hF hD; exact gives_val (by simp only [execOp, evF, h5]; first | rfl | go_simp) ⟨Gr.refl _, rfl⟩
              · intro f w' gG hF hD; have h4 : f 4 = .pointer (some ⟨g, 0, none⟩) := hF 4 (by kernel_rfl); rw [if_pos (wanted_some (d := 35) rfl rfl (hD 3 35 (by kernel_rfl) rfl))]; clear hF hD; exact gives_val (by simp only [execOp, evF, h4]; first | rfl | go_simp) ⟨Gr.refl _, rfl⟩
              · intro f w' gG hF hD; have h37 : f 37 = .pointer (some ⟨g, 1, none⟩) := hD 5 37 (by kernel_rfl) rfl; rw [if_pos (wanted_some (d := 35) rfl rfl (hD 3 35 (by kernel_rfl) rfl))]; clear hF hD
                have hcs := (show CellsAt W1.drew g 0 d from HN1.out).below (show Below W1.drew.heap.size W1.drew w' from gG) (show g < W1.heap.size by rw [HS1.out]; exact Nat.lt_succ_self g)
                obtain ⟨z0, z1, z2, z3, z4, z5⟩ := hcs; exact gives_val (by simp only [execOp, evF, h37]; go_simp) ⟨Gr.refl _, rfl⟩
              · intro f w' gG hF hD; have h38 : f 38 = .int .u8 d.w := hD 6 38 (by kernel_rfl) rfl; rw [if_pos (wanted_some (d := 35) rfl rfl (hD 3 35 (by kernel_rfl) rfl))]; clear hF hD; exact gives_val (by simp only [execOp, evF, h38]; first | rfl | go_simp) ⟨Gr.refl _, rfl⟩
              · intro f w' gG hF hD; have h36 : f 36 = .bool false := hD 4 36 (by kernel_rfl) rfl; have h39 : f 39 = .bool true := hD 7 39 (by kernel_rfl) rfl; rw [if_pos (wanted_some (d := 35) rfl rfl (hD 3 35 (by kernel_rfl) rfl))]; clear hF hD; exact gives_val (by simp only [execOp, evF, h36, h39]; first | rfl | go_simp) ⟨Gr.refl _, rfl⟩
              · intro f w' gG hF hD; have h35 : f 35 = .bool false := hD 3 35 (by kernel_rfl) rfl; have h40 : f 40 = .bool true := hD 8 40 (by kernel_rfl) rfl; rw [if_pos (wanted_none rfl)]; clear hF hD; exact gives_val (by simp only [execOp, evF, h35, h40]; first | rfl | go_simp) ⟨Gr.refl _, rfl⟩
              · intro f w' gG hF hD; have h41 : f 41 = .bool true := hD 9 41 (by kernel_rfl) rfl; rw [if_pos (wanted_none rfl)]; clear hF hD; exact gives_val (by simp only [execOp, evF, h41]; first | rfl | go_simp) ⟨Gr.refl _, rfl⟩
              · intro f w' gG hF hD; rw [if_neg (unwanted_some (d := 42) (b := false) rfl rfl (show f 42 = .bool true from hD 10 42 (by kernel_rfl) rfl))]; exact rfl
              · intro f w' gG hF hD; rw [if_neg (unwanted_some (d := 42) (b := false) rfl rfl (show f 42 = .bool true from hD 10 42 (by kernel_rfl) rfl))]; exact rfl
              · intro f w' gG hF hD; rw [if_neg (unwanted_undef (d := 44) (b := true) rfl rfl (show f 44 = undef from hD 12 44 (by kernel_rfl) rfl))]; exact rfl
              · intro f w' gG hF hD; rw [if_neg (unwanted_undef (d := 44) (b := true) rfl rfl (show f 44 = undef from hD 12 44 (by kernel_rfl) rfl))]; exact rfl
              · intro f w' gG hF hD; rw [if_neg (unwanted_undef (d := 44) (b := true) rfl rfl (show f 44 = undef from hD 12 44 (by kernel_rfl) rfl))]; exact rfl
              · intro f w' gG hF hD; rw [if_neg (unwanted_undef (d := 44) (b := true) rfl rfl (show f 44 = undef from hD 12 44 (by kernel_rfl) rfl))]; exact rfl
              · intro f w' gG hF hD; rw [if_neg (unwanted_undef (d := 44) (b := true) rfl rfl (show f 44 = undef from hD 12 44 (by kernel_rfl) rfl))]; exact rfl
              · intro f w' gG hF hD; rw [if_neg (unwanted_undef (d := 44) (b := true) rfl rfl (show f 44 = undef from hD 12 44 (by kernel_rfl) rfl))]; exact rfl
              · intro f w' gG hF hD; rw [if_neg (unwanted_undef (d := 44) (b := true) rfl rfl (show f 44 = undef from hD 12 44 (by kernel_rfl) rfl))]; exact rfl
              · intro f w' gG hF hD; rw [if_neg (unwanted_undef (d := 44) (b := true) rfl rfl (show f 44 = undef from hD 12 44 (by kernel_rfl) rfl))]; exact rfl
              · intro f w' gG hF hD; rw [if_neg (unwanted_undef (d := 44) (b := true) rfl rfl (show f 44 = undef from hD 12 44 (by kernel_rfl) rfl))]; exact rfl
              · intro f w' gG hF hD; rw [if_neg (unwanted_some (d := 42) (b := false) rfl rfl (show f 42 = .bool true from hD 10 42 (by kernel_rfl) rfl))]; exact rfl
              · intro f w' gG hF hD; have h42 : f 42 = .bool true := hD 10 42 (by kernel_rfl) rfl; have h54 : f 54 = undef := hD 22 54 (by kernel_rfl) rfl; rw [if_pos (wanted_none rfl)]; clear hF hD; exact gives_val (by simp only [execOp, evF, h42, h54]; first | rfl | go_simp) ⟨Gr.refl _, rfl⟩
            · intro f w' gG hD; have h55 : f 55 = .bool true := hD 23 55 rfl; simp only [putAll, List.setIfInBounds_toArray, List.set_cons_zero, List.set_cons_succ, h55]; clear hD
              have HRR : Hid (R = false) := Lib.hid (by rw [ER.out, HRO.out, HGf.out]; rfl)
              have hfin : Below w.heap.size w w' := HB1.out.trans (Below.mono ((below_drewN (Below.refl W1.heap.size W1) 1).trans gG) HB1.out.size)
              go_wp2_with (fail)
              go_ret
              exact ⟨by rw [HRR.out] <;> rfl, hfin⟩
        · skip
          cases M
          · have HGf : Hid (G = false) := Lib.hid (by rw [← EG.out, goodP, EM.out]; rfl)
            go_wp2_with (fail)
            refine wp_region_rw 65 [Rl.eq (.agg #[.int .i32 d.r, .int .u8 d.w, .int .u32 d.fg, .int .u32 d.bg, .int .u8 d.at_, .int .u16 d.ln]), Rl.eq (.bool false), Rl.eq (.bool true), Rl.eq (.bool true), Rl.eq (undef), Rl.eq (undef), Rl.eq (undef), Rl.eq (undef), Rl.eq (undef), Rl.eq (.bool true), Rl.eq (.bool true), Rl.eq (undef), Rl.eq (undef), Rl.eq (undef), Rl.eq (undef), Rl.eq (undef), Rl.eq (undef), Rl.eq (undef), Rl.eq (undef), Rl.eq (undef), Rl.eq (undef), Rl.eq (undef), Rl.eq (undef), Rl.eq (.bool true)] [32, 33, 34, 35, 36, 37, 38, 39, 40, 41, 42, 43, 44, 45, 46, 47, 48, 49, 50, 51, 52, 53, 54, 55] (by kernel_rfl) rfl (by kernel_rfl) (by kernel_rfl) ?_ ?_
            · repeat (first | exact AllFrom.nil_ | (refine AllFrom.cons_ (by rfl) ?_ ?_; rotate_left))
              · intro f w' gG hF hD; have h4 : f 4 = .pointer (some ⟨g, 0, none⟩) := hF 4 (by kernel_rfl); rw [if_pos (wanted_none rfl)]; clear hF hD
                have hcs := (show CellsAt W1.drew g 0 d from HN1.out).below (show Below W1.drew.heap.size W1.drew w' from gG) (show g < W1.heap.size by rw [HS1.out]; exact Nat.lt_succ_self g)
                obtain ⟨z0, z1, z2, z3, z4, z5⟩ := hcs; exact gives_val (by simp only [execOp, evF, h4]; go_simp) ⟨Gr.refl _, rfl⟩
              · intro f w' gG hF hD; have h32 : f 32 = .agg #[.int .i32 d.r, .int .u8 d.w, .int .u32 d.fg, .int .u32 d.bg, .int .u8 d.at_, .int .u16 d.ln] := hD 0 32 (by kernel_rfl) rfl; rw [if_pos (wanted_none rfl)]; clear hF hD; refine gives_func rfl Tryz.func62 (by kernel_rfl) rfl (by simp only [List.map_toArray, List.map_cons, List.map_nil, evF, h32]) ((HM.out w' ((show TabU W1 from HTT.out).next ((below_drewN (Below.refl W1.heap.size W1) 1).trans gG))).mono ?_)
                rintro e w'' ⟨rfl, hb⟩
                exact ⟨_, rfl, hb, rfl⟩
              · intro f w' gG hF hD; have h33 : f 33 = .bool false := hD 1 33 (by kernel_rfl) rfl; rw [if_pos (wanted_none rfl)]; clear hF hD; exact gives_val (by simp only [execOp, evF, h33]; first | rfl | go_simp) ⟨Gr.refl _, rfl⟩
              · intro f w' gG hF hD; have h34 : f 34 = .bool true := hD 2 34 (by kernel_rfl) rfl; rw [if_pos (wanted_none rfl)]; clear hF hD; exact gives_val (by simp only [execOp, evF, h34]; first | rfl | go_simp) ⟨Gr.refl _, rfl⟩
              · intro f w' gG hF hD; rw [if_neg (unwanted_some (d := 35) (b := false) rfl rfl (show f 35 = .bool true from hD 3 35 (by kernel_rfl) rfl))]; exact rfl
              · intro f w' gG hF hD; rw [if_neg (unwanted_some (d := 35) (b := false) rfl rfl (show f 35 = .bool true from hD 3 35 (by kernel_rfl) rfl))]; exact rfl
              · intro f w' gG hF hD; rw [if_neg (unwanted_some (d := 35) (b := false) rfl rfl (show f 35 = .bool true from hD 3 35 (by kernel_rfl) rfl))]; exact rfl
              · intro f w' gG hF hD; rw [if_neg (unwanted_some (d := 35) (b := false) rfl rfl (show f 35 = .bool true from hD 3 35 (by kernel_rfl) rfl))]; exact rfl
              · intro f w' gG hF hD; rw [if_neg (unwanted_some (d := 35) (b := false) rfl rfl (show f 35 = .bool true from hD 3 35 (by kernel_rfl) rfl))]; exact rfl
              · intro f w' gG hF hD; have h35 : f 35 = .bool true := hD 3 35 (by kernel_rfl) rfl; have h40 : f 40 = undef := hD 8 40 (by kernel_rfl) rfl; rw [if_pos (wanted_none rfl)]; clear hF hD; exact gives_val (by simp only [execOp, evF, h35, h40]; first | rfl | go_simp) ⟨Gr.refl _, rfl⟩
              · intro f w' gG hF hD; have h41 : f 41 = .bool true := hD 9 41 (by kernel_rfl) rfl; rw [if_pos (wanted_none rfl)]; clear hF hD; exact gives_val (by simp only [execOp, evF, h41]; first | rfl | go_simp) ⟨Gr.refl _, rfl⟩
              · intro f w' gG hF hD; rw [if_neg (unwanted_some (d := 42) (b := false) rfl rfl (show f 42 = .bool true from hD 10 42 (by kernel_rfl) rfl))]; exact rfl
              · intro f w' gG hF hD; rw [if_neg (unwanted_some (d := 42) (b := false) rfl rfl (show f 42 = .bool true from hD 10 42 (by kernel_rfl) rfl))]; exact rfl
              · intro f w' gG hF hD; rw [if_neg (unwanted_undef (d := 44) (b := true) rfl rfl (show f 44 = undef from hD 12 44 (by kernel_rfl) rfl))]; exact rfl
              · intro f w' gG hF hD; rw [if_neg (unwanted_undef (d := 44) (b := true) rfl rfl (show f 44 = undef from hD 12 44 (by kernel_rfl) rfl))]; exact rfl
              · intro f w' gG hF hD; rw [if_neg (unwanted_undef (d := 44) (b := true) rfl rfl (show f 44 = undef from hD 12 44 (by kernel_rfl) rfl))]; exact rfl
              · intro f w' gG hF hD; rw [if_neg (unwanted_undef (d := 44) (b := true) rfl rfl (show f 44 = undef from hD 12 44 (by kernel_rfl) rfl))]; exact rfl
              · intro f w' gG hF hD; rw [if_neg (unwanted_undef (d := 44) (b := true) rfl rfl (show f 44 = undef from hD 12 44 (by kernel_rfl) rfl))]; exact rfl
              · intro f w' gG hF hD; rw [if_neg (unwanted_undef (d := 44) (b := true) rfl rfl (show f 44 = undef from hD 12 44 (by kernel_rfl) rfl))]; exact rfl
              · intro f w' gG hF hD; rw [if_neg (unwanted_undef (d := 44) (b := true) rfl rfl (show f 44 = undef from hD 12 44 (by kernel_rfl) rfl))]; exact rfl
              · intro f w' gG hF hD; rw [if_neg (unwanted_undef (d := 44) (b := true) rfl rfl (show f 44 = undef from hD 12 44 (by kernel_rfl) rfl))]; exact rfl
              · intro f w' gG hF hD; rw [if_neg (unwanted_undef (d := 44) (b := true) rfl rfl (show f 44 = undef from hD 12 44 (by kernel_rfl) rfl))]; exact rfl
              · intro f w' gG hF hD; rw [if_neg (unwanted_some (d := 42) (b := false) rfl rfl (show f 42 = .bool true from hD 10 42 (by kernel_rfl) rfl))]; exact rfl
              · intro f w' gG hF hD; have h42 : f 42 = .bool true := hD 10 42 (by kernel_rfl) rfl; have h54 : f 54 = undef := hD 22 54 (by kernel_rfl) rfl; rw [if_pos (wanted_none rfl)]; clear hF hD; exact gives_val (by simp only [execOp, evF, h42, h54]; first | rfl | go_simp) ⟨Gr.refl _, rfl⟩
            · intro f w' gG hD; have h55 : f 55 = .bool true := hD 23 55 rfl; simp only [putAll, List.setIfInBounds_toArray, List.set_cons_zero, List.set_cons_succ, h55]; clear hD
              have HRR : Hid (R = false) := Lib.hid (by rw [ER.out, HRO.out, HGf.out]; rfl)
              have hfin : Below w.heap.size w w' := HB1.out.trans (Below.mono ((below_drewN (Below.refl W1.heap.size W1) 1).trans gG) HB1.out.size)
              go_wp2_with (fail)
              go_ret
              exact ⟨by rw [HRR.out] <;> rfl, hfin⟩
          cases Rr
          · have HGf : Hid (G = false) := Lib.hid (by rw [← EG.out, goodP, EM.out, HLF.out, ERr.out]; rfl)
            go_wp2_with (fail)
            refine wp_region_rw 65 [Rl.eq (.agg #[.int .i32 d.r, .int .u8 d.w, .int .u32 d.fg, .int .u32 d.bg, .int .u8 d.at_, .int .u16 d.ln]), Rl.eq (.bool true), Rl.eq (.bool false), Rl.eq (.bool false), Rl.eq (.bool true), Rl.eq (.pointer (some ⟨g, 1, none⟩)), Rl.eq (.int .u8 d.w), Rl.eq (.bool false), Rl.eq (.bool true), Rl.eq (.bool true), Rl.eq (.bool true), Rl.eq (undef), Rl.eq (undef), Rl.eq (undef), Rl.eq (undef), Rl.eq (undef), Rl.eq (undef), Rl.eq (undef), Rl.eq (undef), Rl.eq (undef), Rl.eq (undef), Rl.eq (undef), Rl.eq (undef), Rl.eq (.bool true)] [32, 33, 34, 35, 36, 37, 38, 39, 40, 41, 42, 43, 44, 45, 46, 47, 48, 49, 50, 51, 52, 53, 54, 55] (by kernel_rfl) rfl (by kernel_rfl) (by kernel_rfl) ?_ ?_
            · repeat (first | exact AllFrom.nil_ | (refine AllFrom.cons_ (by rfl) ?_ ?_; rotate_left))
              · intro f w' gG hF hD; have h4 : f 4 = .pointer (some ⟨g, 0, none⟩) := hF 4 (by kernel_rfl); rw [if_pos (wanted_none rfl)]; clear hF hD
                have hcs := (show CellsAt W1.drew g 0 d from HN1.out).below (show Below W1.drew.heap.size W1.drew w' from gG) (show g < W1.heap.size by rw [HS1.out]; exact Nat.lt_succ_self g)
                obtain ⟨z0, z1, z2, z3, z4, z5⟩ := hcs; exact gives_val (by simp only [execOp, evF, h4]; go_simp) ⟨Gr.refl _, rfl⟩
              · intro f w' gG hF hD; have h32 : f 32 = .agg #[.int .i32 d.r, .int .u8 d.w, .int .u32 d.fg, .int .u32 d.bg, .int .u8 d.at_, .int .u16 d.ln] := hD 0 32 (by kernel_rfl) rfl; rw [if_pos (wanted_none rfl)]; clear hF hD; refine gives_func rfl Tryz.func62 (by kernel_rfl) rfl (by simp only [List.map_toArray, List.map_cons, List.map_nil, evF, h32]) ((HM.out w' ((show TabU W1 from HTT.out).next ((below_drewN (Below.refl W1.heap.size W1) 1).trans gG))).mono ?_)
                rintro e w'' ⟨rfl, hb⟩
                exact ⟨_, rfl, hb, rfl⟩
              · intro f w' gG hF hD; have h33 : f 33 = .bool true := hD 1 33 (by kernel_rfl) rfl; rw [if_pos (wanted_none rfl)]; clear hF hD; exact gives_val (by simp only [execOp, evF, h33]; first | rfl | go_simp) ⟨Gr.refl _, rfl⟩
              · intro f w' gG hF hD; have h34 : f 34 = .bool false := hD 2 34 (by kernel_rfl) rfl; rw [if_pos (wanted_none rfl)]; clear hF hD; exact gives_val (by simp only [execOp, evF, h34]; first | rfl | go_simp) ⟨Gr.refl _, rfl⟩
              · intro f w' gG hF hD; have h5 : f 5 = .bool true := hF 5 (by kernel_rfl); rw [if_pos (wanted_some (d := 35) rfl rfl (hD 3 35 (by kernel_rfl) rfl))]; clear hF hD; exact gives_val (by simp only [execOp, evF, h5]; first | rfl | go_simp) ⟨Gr.refl _, rfl⟩
              · intro f w' gG hF hD; have h4 : f 4 = .pointer (some ⟨g, 0, none⟩) := hF 4 (by kernel_rfl); rw [if_pos (wanted_some (d := 35) rfl rfl (hD 3 35 (by kernel_rfl) rfl))]; clear hF hD; exact gives_val (by simp only [execOp, evF, h4]; first | rfl | go_simp) ⟨Gr.refl _, rfl⟩
              · intro f w' gG hF hD; have h37 : f 37 = .pointer (some ⟨g, 1, none⟩) := hD 5 37 (by kernel_rfl) rfl; rw [if_pos (wanted_some (d := 35) rfl rfl (hD 3 35 (by kernel_rfl) rfl))]; clear hF hD
                have hcs := (show CellsAt W1.drew g 0 d from HN1.out).below (show Below W1.drew.heap.size W1.drew w' from gG) (show g < W1.heap.size by rw [HS1.out]; exact Nat.lt_succ_self g)
                obtain ⟨z0, z1, z2, z3, z4, z5⟩ := hcs; exact gives_val (by simp only [execOp, evF, h37]; go_simp) ⟨Gr.refl _, rfl⟩
              · intro f w' gG hF hD; have h38 : f 38 = .int .u8 d.w := hD 6 38 (by kernel_rfl) rfl; rw [if_pos (wanted_some (d := 35) rfl rfl (hD 3 35 (by kernel_rfl) rfl))]; clear hF hD; exact gives_val (by simp only [execOp, evF, h38]; first | rfl | go_simp) ⟨Gr.refl _, rfl⟩
              · intro f w' gG hF hD; have h36 : f 36 = .bool true := hD 4 36 (by kernel_rfl) rfl; have h39 : f 39 = .bool false := hD 7 39 (by kernel_rfl) rfl; rw [if_pos (wanted_some (d := 35) rfl rfl (hD 3 35 (by kernel_rfl) rfl))]; clear hF hD; exact gives_val (by simp only [execOp, evF, h36, h39]; first | rfl | go_simp) ⟨Gr.refl _, rfl⟩
              · intro f w' gG hF hD; have h35 : f 35 = .bool false := hD 3 35 (by kernel_rfl) rfl; have h40 : f 40 = .bool true := hD 8 40 (by kernel_rfl) rfl; rw [if_pos (wanted_none rfl)]; clear hF hD; exact gives_val (by simp only [execOp, evF, h35, h40]; first | rfl | go_simp) ⟨Gr.refl _, rfl⟩
              · intro f w' gG hF hD; have h41 : f 41 = .bool true := hD 9 41 (by kernel_rfl) rfl; rw [if_pos (wanted_none rfl)]; clear hF hD; exact gives_val (by simp only [execOp, evF, h41]; first | rfl | go_simp) ⟨Gr.refl _, rfl⟩
              · intro f w' gG hF hD; rw [if_neg (unwanted_some (d := 42) (b := false) rfl rfl (show f 42 = .bool true from hD 10 42 (by kernel_rfl) rfl))]; exact rfl
              · intro f w' gG hF hD; rw [if_neg (unwanted_some (d := 42) (b := false) rfl rfl (show f 42 = .bool true from hD 10 42 (by kernel_rfl) rfl))]; exact rfl
              · intro f w' gG hF hD; rw [if_neg (unwanted_undef (d := 44) (b := true) rfl rfl (show f 44 = undef from hD 12 44 (by kernel_rfl) rfl))]; exact rfl
              · intro f w' gG hF hD; rw [if_neg (unwanted_undef (d := 44) (b := true) rfl rfl (show f 44 = undef from hD 12 44 (by kernel_rfl) rfl))]; exact rfl
              · intro f w' gG hF hD; rw [if_neg (unwanted_undef (d := 44) (b := true) rfl rfl (show f 44 = undef from hD 12 44 (by kernel_rfl) rfl))]; exact rfl
              · intro f w' gG hF hD; rw [if_neg (unwanted_undef (d := 44) (b := true) rfl rfl (show f 44 = undef from hD 12 44 (by kernel_rfl) rfl))]; exact rfl
              · intro f w' gG hF hD; rw [if_neg (unwanted_undef (d := 44) (b := true) rfl rfl (show f 44 = undef from hD 12 44 (by kernel_rfl) rfl))]; exact rfl
              · intro f w' gG hF hD; rw [if_neg (unwanted_undef (d := 44) (b := true) rfl rfl (show f 44 = undef from hD 12 44 (by kernel_rfl) rfl))]; exact rfl
              · intro f w' gG hF hD; rw [if_neg (unwanted_undef (d := 44) (b := true) rfl rfl (show f 44 = undef from hD 12 44 (by kernel_rfl) rfl))]; exact rfl
              · intro f w' gG hF hD; rw [if_neg (unwanted_undef (d := 44) (b := true) rfl rfl (show f 44 = undef from hD 12 44 (by kernel_rfl) rfl))]; exact rfl
              · intro f w' gG hF hD; rw [if_neg (unwanted_undef (d := 44) (b := true) rfl rfl (show f 44 = undef from hD 12 44 (by kernel_rfl) rfl))]; exact rfl
              · intro f w' gG hF hD; rw [if_neg (unwanted_some (d := 42) (b := false) rfl rfl (show f 42 = .bool true from hD 10 42 (by kernel_rfl) rfl))]; exact rfl
              · intro f w' gG hF hD; have h42 : f 42 = .bool true := hD 10 42 (by kernel_rfl) rfl; have h54 : f 54 = undef := hD 22 54 (by kernel_rfl) rfl; rw [if_pos (wanted_none rfl)]; clear hF hD; exact gives_val (by simp only [execOp, evF, h42, h54]; first | rfl | go_simp) ⟨Gr.refl _, rfl⟩
            · intro f w' gG hD; have h55 : f 55 = .bool true := hD 23 55 rfl; simp only [putAll, List.setIfInBounds_toArray, List.set_cons_zero, List.set_cons_succ, h55]; clear hD
              have HRR : Hid (R = false) := Lib.hid (by rw [ER.out, HRO.out, HGf.out]; rfl)
              have hfin : Below w.heap.size w w' := HB1.out.trans (Below.mono ((below_drewN (Below.refl W1.heap.size W1) 1).trans gG) HB1.out.size)
              go_wp2_with (fail)
              go_ret
              exact ⟨by rw [HRR.out] <;> rfl, hfin⟩
          obtain ⟨PE, ePE⟩ : ∃ PE, penEq p d = PE := ⟨_, rfl⟩
          have EPE := Lib.hid ePE
          clear ePE
          cases PE
          · have HGf : Hid (G = false) := Lib.hid (by rw [← EG.out, goodP, EM.out, HLF.out, ERr.out, HPO.out, EPE.out]; rfl)
            go_wp2_with (fail)
            refine wp_region_rw 65 [Rl.eq (.agg #[.int .i32 d.r, .int .u8 d.w, .int .u32 d.fg, .int .u32 d.bg, .int .u8 d.at_, .int .u16 d.ln]), Rl.eq (.bool true), Rl.eq (.bool false), Rl.eq (.bool false), Rl.eq (.bool true), Rl.eq (.pointer (some ⟨g, 1, none⟩)), Rl.eq (.int .u8 d.w), Rl.eq (.bool true), Rl.eq (.bool false), Rl.eq (.bool false), Rl.eq (.bool false), Rl.eq (.bool true), Rl.eq (.bool true), Rl.eq (.slice (some ⟨b, off, none⟩) n c), Rl.eq (.int .i64 (k : Int)), Rl.eq (.int .i64 ((k : Int) - 1)), Rl.eq (.pointer (some ⟨b, off + (k - 1) * 6, none⟩)), Rl.eq (.pointer (some ⟨b, off + (k - 1) * 6 + 2, none⟩)), Rl.eq (.agg #[.int .u32 p.fg, .int .u32 p.bg, .int .u8 p.at_, .int .u16 p.ln]), Rl.eq (.pointer (some ⟨g, 2, none⟩)), Rl.eq (.agg #[.int .u32 d.fg, .int .u32 d.bg, .int .u8 d.at_, .int .u16 d.ln]), Rl.eq (.bool true), Rl.eq (.bool true), Rl.eq (.bool true)] [32, 33, 34, 35, 36, 37, 38, 39, 40, 41, 42, 43, 44, 45, 46, 47, 48, 49, 50, 51, 52, 53, 54, 55] (by kernel_rfl) rfl (by kernel_rfl) (by kernel_rfl) ?_ ?_
            · repeat (first | exact AllFrom.nil_ | (refine AllFrom.cons_ (by rfl) ?_ ?_; rotate_left))
              · intro f w' gG hF hD; have h4 : f 4 = .pointer (some ⟨g, 0, none⟩) := hF 4 (by kernel_rfl); rw [if_pos (wanted_none rfl)]; clear hF hD
                have hcs := (show CellsAt W1.drew g 0 d from HN1.out).below (show Below W1.drew.heap.size W1.drew w' from gG) (show g < W1.heap.size by rw [HS1.out]; exact Nat.lt_succ_self g)
                obtain ⟨z0, z1, z2, z3, z4, z5⟩ := hcs; exact gives_val (by simp only [execOp, evF, h4]; go_simp) ⟨Gr.refl _, rfl⟩
              · intro f w' gG hF hD; have h32 : f 32 = .agg #[.int .i32 d.r, .int .u8 d.w, .int .u32 d.fg, .int .u32 d.bg, .int .u8 d.at_, .int .u16 d.ln] := hD 0 32 (by kernel_rfl) rfl; rw [if_pos (wanted_none rfl)]; clear hF hD; refine gives_func rfl Tryz.func62 (by kernel_rfl) rfl (by simp only [List.map_toArray, List.map_cons, List.map_nil, evF, h32]) ((HM.out w' ((show TabU W1 from HTT.out).next ((below_drewN (Below.refl W1.heap.size W1) 1).trans gG))).mono ?_)
                rintro e w'' ⟨rfl, hb⟩
                exact ⟨_, rfl, hb, rfl⟩
              · intro f w' gG hF hD; have h33 : f 33 = .bool true := hD 1 33 (by kernel_rfl) rfl; rw [if_pos (wanted_none rfl)]; clear hF hD; exact gives_val (by simp only [execOp, evF, h33]; first | rfl | go_simp) ⟨Gr.refl _, rfl⟩
              · intro f w' gG hF hD; have h34 : f 34 = .bool false := hD 2 34 (by kernel_rfl) rfl; rw [if_pos (wanted_none rfl)]; clear hF hD; exact gives_val (by simp only [execOp, evF, h34]; first | rfl | go_simp) ⟨Gr.refl _, rfl⟩
              · intro f w' gG hF hD; have h5 : f 5 = .bool true := hF 5 (by kernel_rfl); rw [if_pos (wanted_some (d := 35) rfl rfl (hD 3 35 (by kernel_rfl) rfl))]; clear hF hD; exact gives_val (by simp only [execOp, evF, h5]; first | rfl | go_simp) ⟨Gr.refl _, rfl⟩
              · intro f w' gG hF hD; have h4 : f 4 = .pointer (some ⟨g, 0, none⟩) := hF 4 (by kernel_rfl); rw [if_pos (wanted_some (d := 35) rfl rfl (hD 3 35 (by kernel_rfl) rfl))]; clear hF hD; exact gives_val (by simp only [execOp, evF, h4]; first | rfl | go_simp) ⟨Gr.refl _, rfl⟩
              · intro f w' gG hF hD; have h37 : f 37 = .pointer (some ⟨g, 1, none⟩) := hD 5 37 (by kernel_rfl) rfl; rw [if_pos (wanted_some (d := 35) rfl rfl (hD 3 35 (by kernel_rfl) rfl))]; clear hF hD
                have hcs := (show CellsAt W1.drew g 0 d from HN1.out).below (show Below W1.drew.heap.size W1.drew w' from gG) (show g < W1.heap.size by rw [HS1.out]; exact Nat.lt_succ_self g)
                obtain ⟨z0, z1, z2, z3, z4, z5⟩ := hcs; exact gives_val (by simp only [execOp, evF, h37]; go_simp) ⟨Gr.refl _, rfl⟩
              · intro f w' gG hF hD; have h38 : f 38 = .int .u8 d.w := hD 6 38 (by kernel_rfl) rfl; rw [if_pos (wanted_some (d := 35) rfl rfl (hD 3 35 (by kernel_rfl) rfl))]; clear hF hD; exact gives_val (by simp only [execOp, evF, h38]; first | rfl | go_simp) ⟨Gr.refl _, rfl⟩
              · intro f w' gG hF hD; have h36 : f 36 = .bool true := hD 4 36 (by kernel_rfl) rfl; have h39 : f 39 = .bool true := hD 7 39 (by kernel_rfl) rfl; rw [if_pos (wanted_some (d := 35) rfl rfl (hD 3 35 (by kernel_rfl) rfl))]; clear hF hD; exact gives_val (by simp only [execOp, evF, h36, h39]; first | rfl | go_simp) ⟨Gr.refl _, rfl⟩
              · intro f w' gG hF hD; have h35 : f 35 = .bool false := hD 3 35 (by kernel_rfl) rfl; have h40 : f 40 = .bool false := hD 8 40 (by kernel_rfl) rfl; rw [if_pos (wanted_none rfl)]; clear hF hD; exact gives_val (by simp only [execOp, evF, h35, h40]; first | rfl | go_simp) ⟨Gr.refl _, rfl⟩
              · intro f w' gG hF hD; have h41 : f 41 = .bool false := hD 9 41 (by kernel_rfl) rfl; rw [if_pos (wanted_none rfl)]; clear hF hD; exact gives_val (by simp only [execOp, evF, h41]; first | rfl | go_simp) ⟨Gr.refl _, rfl⟩
              · intro f w' gG hF hD; have h5 : f 5 = .bool true := hF 5 (by kernel_rfl); rw [if_pos (wanted_some (d := 42) rfl rfl (hD 10 42 (by kernel_rfl) rfl))]; clear hF hD; exact gives_val (by simp only [execOp, evF, h5]; first | rfl | go_simp) ⟨Gr.refl _, rfl⟩
              · intro f w' gG hF hD; have h43 : f 43 = .bool true := hD 11 43 (by kernel_rfl) rfl; rw [if_pos (wanted_some (d := 42) rfl rfl (hD 10 42 (by kernel_rfl) rfl))]; clear hF hD; exact gives_val (by simp only [execOp, evF, h43]; first | rfl | go_simp) ⟨Gr.refl _, rfl⟩
              · intro f w' gG hF hD; have h0 : f 0 = .slice (some ⟨b, off, none⟩) n c := hF 0 (by kernel_rfl); rw [if_pos (wanted_some (d := 44) rfl rfl (hD 12 44 (by kernel_rfl) rfl))]; clear hF hD; exact gives_val (by simp only [execOp, evF, h0]; first | rfl | go_simp) ⟨Gr.refl _, rfl⟩
              · intro f w' gG hF hD; have h3 : f 3 = .int .i64 (k : Int) := hF 3 (by kernel_rfl); rw [if_pos (wanted_some (d := 44) rfl rfl (hD 12 44 (by kernel_rfl) rfl))]; clear hF hD; exact gives_val (by simp only [execOp, evF, h3]; first | rfl | go_simp) ⟨Gr.refl _, rfl⟩
              · intro f w' gG hF hD; have h46 : f 46 = .int .i64 (k : Int) := hD 14 46 (by kernel_rfl) rfl; rw [if_pos (wanted_some (d := 44) rfl rfl (hD 12 44 (by kernel_rfl) rfl))]; clear hF hD; exact gives_val (by simp only [execOp, evF, h46]; go_simp; exact HWK.out) ⟨Gr.refl _, rfl⟩
              · intro f w' gG hF hD; have h45 : f 45 = .slice (some ⟨b, off, none⟩) n c := hD 13 45 (by kernel_rfl) rfl; have h47 : f 47 = .int .i64 ((k : Int) - 1) := hD 15 47 (by kernel_rfl) rfl; rw [if_pos (wanted_some (d := 44) rfl rfl (hD 12 44 (by kernel_rfl) rfl))]; clear hF hD
                have hk1 : ¬ ((k : Int) < 1) := by have := HK1.out; omega
                exact gives_val (by simp only [execOp, evF, h45, h47]; go_simp) ⟨Gr.refl _, rfl⟩
              · intro f w' gG hF hD; have h48 : f 48 = .pointer (some ⟨b, off + (k - 1) * 6, none⟩) := hD 16 48 (by kernel_rfl) rfl; rw [if_pos (wanted_some (d := 44) rfl rfl (hD 12 44 (by kernel_rfl) rfl))]; clear hF hD; exact gives_val (by simp only [execOp, evF, h48]; first | rfl | go_simp) ⟨Gr.refl _, rfl⟩
              · intro f w' gG hF hD; have h49 : f 49 = .pointer (some ⟨b, off + (k - 1) * 6 + 2, none⟩) := hD 17 49 (by kernel_rfl) rfl; rw [if_pos (wanted_some (d := 44) rfl rfl (hD 12 44 (by kernel_rfl) rfl))]; clear hF hD
                have hcs := (show CellsAt W1.drew b (off + (k - 1) * 6) p from HP1.out).below (show Below W1.drew.heap.size W1.drew w' from gG) (show b < W1.heap.size by rw [HS1.out]; exact Nat.lt_succ_of_lt HBR.out)
                obtain ⟨z0, z1, z2, z3, z4, z5⟩ := hcs; exact gives_val (by simp only [execOp, evF, h49]; go_simp) ⟨Gr.refl _, rfl⟩
              · intro f w' gG hF hD; have h4 : f 4 = .pointer (some ⟨g, 0, none⟩) := hF 4 (by kernel_rfl); rw [if_pos (wanted_some (d := 44) rfl rfl (hD 12 44 (by kernel_rfl) rfl))]; clear hF hD; exact gives_val (by simp only [execOp, evF, h4]; first | rfl | go_simp) ⟨Gr.refl _, rfl⟩
              · intro f w' gG hF hD; have h51 : f 51 = .pointer (some ⟨g, 2, none⟩) := hD 19 51 (by kernel_rfl) rfl; rw [if_pos (wanted_some (d := 44) rfl rfl (hD 12 44 (by kernel_rfl) rfl))]; clear hF hD
                have hcs := (show CellsAt W1.drew g 0 d from HN1.out).below (show Below W1.drew.heap.size W1.drew w' from gG) (show g < W1.heap.size by rw [HS1.out]; exact Nat.lt_succ_self g)
                obtain ⟨z0, z1, z2, z3, z4, z5⟩ := hcs; exact gives_val (by simp only [execOp, evF, h51]; go_simp) ⟨Gr.refl _, rfl⟩
              · intro f w' gG hF hD; have h50 : f 50 = .agg #[.int .u32 p.fg, .int .u32 p.bg, .int .u8 p.at_, .int .u16 p.ln] := hD 18 50 (by kernel_rfl) rfl; have h52 : f 52 = .agg #[.int .u32 d.fg, .int .u32 d.bg, .int .u8 d.at_, .int .u16 d.ln] := hD 20 52 (by kernel_rfl) rfl; rw [if_pos (wanted_some (d := 44) rfl rfl (hD 12 44 (by kernel_rfl) rfl))]; clear hF hD
                have hpe := run_penNe p d
                unfold CeD.pen at hpe
                exact gives_val (by simp only [execOp, evF, h50, h52, hpe, EPE.out]; go_simp; exact EPE.out) ⟨Gr.refl _, rfl⟩
              · intro f w' gG hF hD; have h44 : f 44 = .bool true := hD 12 44 (by kernel_rfl) rfl; have h53 : f 53 = .bool true := hD 21 53 (by kernel_rfl) rfl; rw [if_pos (wanted_some (d := 42) rfl rfl (hD 10 42 (by kernel_rfl) rfl))]; clear hF hD; exact gives_val (by simp only [execOp, evF, h44, h53]; first | rfl | go_simp) ⟨Gr.refl _, rfl⟩
              · intro f w' gG hF hD; have h42 : f 42 = .bool false := hD 10 42 (by kernel_rfl) rfl; have h54 : f 54 = .bool true := hD 22 54 (by kernel_rfl) rfl; rw [if_pos (wanted_none rfl)]; clear hF hD; exact gives_val (by simp only [execOp, evF, h42, h54]; first | rfl | go_simp) ⟨Gr.refl _, rfl⟩
            · intro f w' gG hD; have h55 : f 55 = .bool true := hD 23 55 rfl; simp only [putAll, List.setIfInBounds_toArray, List.set_cons_zero, List.set_cons_succ, h55]; clear hD
              have HRR : Hid (R = false) := Lib.hid (by rw [ER.out, HRO.out, HGf.out]; rfl)
              have hfin : Below w.heap.size w w' := HB1.out.trans (Below.mono ((below_drewN (Below.refl W1.heap.size W1) 1).trans gG) HB1.out.size)
              go_wp2_with (fail)
              go_ret
              exact ⟨by rw [HRR.out] <;> rfl, hfin⟩
          · have HGf : Hid (G = true) := Lib.hid (by rw [← EG.out, goodP, EM.out, HLF.out, ERr.out, HPO.out, EPE.out]; rfl)
            go_wp2_with (fail)
            refine wp_region_rw 65 [Rl.eq (.agg #[.int .i32 d.r, .int .u8 d.w, .int .u32 d.fg, .int .u32 d.bg, .int .u8 d.at_, .int .u16 d.ln]), Rl.eq (.bool true), Rl.eq (.bool false), Rl.eq (.bool false), Rl.eq (.bool true), Rl.eq (.pointer (some ⟨g, 1, none⟩)), Rl.eq (.int .u8 d.w), Rl.eq (.bool true), Rl.eq (.bool false), Rl.eq (.bool false), Rl.eq (.bool false), Rl.eq (.bool true), Rl.eq (.bool true), Rl.eq (.slice (some ⟨b, off, none⟩) n c), Rl.eq (.int .i64 (k : Int)), Rl.eq (.int .i64 ((k : Int) - 1)), Rl.eq (.pointer (some ⟨b, off + (k - 1) * 6, none⟩)), Rl.eq (.pointer (some ⟨b, off + (k - 1) * 6 + 2, none⟩)), Rl.eq (.agg #[.int .u32 p.fg, .int .u32 p.bg, .int .u8 p.at_, .int .u16 p.ln]), Rl.eq (.pointer (some ⟨g, 2, none⟩)), Rl.eq (.agg #[.int .u32 d.fg, .int .u32 d.bg, .int .u8 d.at_, .int .u16 d.ln]), Rl.eq (.bool false), Rl.eq (.bool false), Rl.eq (.bool false)] [32, 33, 34, 35, 36, 37, 38, 39, 40, 41, 42, 43, 44, 45, 46, 47, 48, 49, 50, 51, 52, 53, 54, 55] (by kernel_rfl) rfl (by kernel_rfl) (by kernel_rfl) ?_ ?_
            · repeat (first | exact AllFrom.nil_ | (refine AllFrom.cons_ (by rfl) ?_ ?_; rotate_left))
              · intro f w' gG hF hD; have h4 : f 4 = .pointer (some ⟨g, 0, none⟩) := hF 4 (by kernel_rfl); rw [if_pos (wanted_none rfl)]; clear hF hD
                have hcs := (show CellsAt W1.drew g 0 d from HN1.out).below (show Below W1.drew.heap.size W1.drew w' from gG) (show g < W1.heap.size by rw [HS1.out]; exact Nat.lt_succ_self g)
                obtain ⟨z0, z1, z2, z3, z4, z5⟩ := hcs; exact gives_val (by simp only [execOp, evF, h4]; go_simp) ⟨Gr.refl _, rfl⟩
              · intro f w' gG hF hD; have h32 : f 32 = .agg #[.int .i32 d.r, .int .u8 d.w, .int .u32 d.fg, .int .u32 d.bg, .int .u8 d.at_, .int .u16 d.ln] := hD 0 32 (by kernel_rfl) rfl; rw [if_pos (wanted_none rfl)]; clear hF hD; refine gives_func rfl Tryz.func62 (by kernel_rfl) rfl (by simp only [List.map_toArray, List.map_cons, List.map_nil, evF, h32]) ((HM.out w' ((show TabU W1 from HTT.out).next ((below_drewN (Below.refl W1.heap.size W1) 1).trans gG))).mono ?_)
                rintro e w'' ⟨rfl, hb⟩
                exact ⟨_, rfl, hb, rfl⟩
              · intro f w' gG hF hD; have h33 : f 33 = .bool true := hD 1 33 (by kernel_rfl) rfl; rw [if_pos (wanted_none rfl)]; clear hF hD; exact gives_val (by simp only [execOp, evF, h33]; first | rfl | go_simp) ⟨Gr.refl _, rfl⟩
              · intro f w' gG hF hD; have h34 : f 34 = .bool false := hD 2 34 (by kernel_rfl) rfl; rw [if_pos (wanted_none rfl)]; clear hF hD; exact gives_val (by simp only [execOp, evF, h34]; first | rfl | go_simp) ⟨Gr.refl _, rfl⟩
              · intro f w' gG hF hD; have h5 : f 5 = .bool true := hF 5 (by kernel_rfl); rw [if_pos (wanted_some (d := 35) rfl rfl (hD 3 35 (by kernel_rfl) rfl))]; clear hF hD; exact gives_val (by simp only [execOp, evF, h5]; first | rfl | go_simp) ⟨Gr.refl _, rfl⟩
              · intro f w' gG hF hD; have h4 : f 4 = .pointer (some ⟨g, 0, none⟩) := hF 4 (by kernel_rfl); rw [if_pos (wanted_some (d := 35) rfl rfl (hD 3 35 (by kernel_rfl) rfl))]; clear hF hD; exact gives_val (by simp only [execOp, evF, h4]; first | rfl | go_simp) ⟨Gr.refl _, rfl⟩
              · intro f w' gG hF hD; have h37 : f 37 = .pointer (some ⟨g, 1, none⟩) := hD 5 37 (by kernel_rfl) rfl; rw [if_pos (wanted_some (d := 35) rfl rfl (hD 3 35 (by kernel_rfl) rfl))]; clear hF hD
                have hcs := (show CellsAt W1.drew g 0 d from HN1.out).below (show Below W1.drew.heap.size W1.drew w' from gG) (show g < W1.heap.size by rw [HS1.out]; exact Nat.lt_succ_self g)
                obtain ⟨z0, z1, z2, z3, z4, z5⟩ := hcs; exact gives_val (by simp only [execOp, evF, h37]; go_simp) ⟨Gr.refl _, rfl⟩
              · intro f w' gG hF hD; have h38 : f 38 = .int .u8 d.w := hD 6 38 (by kernel_rfl) rfl; rw [if_pos (wanted_some (d := 35) rfl rfl (hD 3 35 (by kernel_rfl) rfl))]; clear hF hD; exact gives_val (by simp only [execOp, evF, h38]; first | rfl | go_simp) ⟨Gr.refl _, rfl⟩
              · intro f w' gG hF hD; have h36 : f 36 = .bool true := hD 4 36 (by kernel_rfl) rfl; have h39 : f 39 = .bool true := hD 7 39 (by kernel_rfl) rfl; rw [if_pos (wanted_some (d := 35) rfl rfl (hD 3 35 (by kernel_rfl) rfl))]; clear hF hD; exact gives_val (by simp only [execOp, evF, h36, h39]; first | rfl | go_simp) ⟨Gr.refl _, rfl⟩
              · intro f w' gG hF hD; have h35 : f 35 = .bool false := hD 3 35 (by kernel_rfl) rfl; have h40 : f 40 = .bool false := hD 8 40 (by kernel_rfl) rfl; rw [if_pos (wanted_none rfl)]; clear hF hD; exact gives_val (by simp only [execOp, evF, h35, h40]; first | rfl | go_simp) ⟨Gr.refl _, rfl⟩
              · intro f w' gG hF hD; have h41 : f 41 = .bool false := hD 9 41 (by kernel_rfl) rfl; rw [if_pos (wanted_none rfl)]; clear hF hD; exact gives_val (by simp only [execOp, evF, h41]; first | rfl | go_simp) ⟨Gr.refl _, rfl⟩
              · intro f w' gG hF hD; have h5 : f 5 = .bool true := hF 5 (by kernel_rfl); rw [if_pos (wanted_some (d := 42) rfl rfl (hD 10 42 (by kernel_rfl) rfl))]; clear hF hD; exact gives_val (by simp only [execOp, evF, h5]; first | rfl | go_simp) ⟨Gr.refl _, rfl⟩
              · intro f w' gG hF hD; have h43 : f 43 = .bool true := hD 11 43 (by kernel_rfl) rfl; rw [if_pos (wanted_some (d := 42) rfl rfl (hD 10 42 (by kernel_rfl) rfl))]; clear hF hD; exact gives_val (by simp only [execOp, evF, h43]; first | rfl | go_simp) ⟨Gr.refl _, rfl⟩
              · intro f w' gG hF hD; have h0 : f 0 = .slice (some ⟨b, off, none⟩) n c := hF 0 (by kernel_rfl); rw [if_pos (wanted_some (d := 44) rfl rfl (hD 12 44 (by kernel_rfl) rfl))]; clear hF hD; exact gives_val (by simp only [execOp, evF, h0]; first | rfl | go_simp) ⟨Gr.refl _, rfl⟩
              · intro f w' gG hF hD; have h3 : f 3 = .int .i64 (k : Int) := hF 3 (by kernel_rfl); rw [if_pos (wanted_some (d := 44) rfl rfl (hD 12 44 (by kernel_rfl) rfl))]; clear hF hD; exact gives_val (by simp only [execOp, evF, h3]; first | rfl | go_simp) ⟨Gr.refl _, rfl⟩
              · intro f w' gG hF hD; have h46 : f 46 = .int .i64 (k : Int) := hD 14 46 (by kernel_rfl) rfl; rw [if_pos (wanted_some (d := 44) rfl rfl (hD 12 44 (by kernel_rfl) rfl))]; clear hF hD; exact gives_val (by simp only [execOp, evF, h46]; go_simp; exact HWK.out) ⟨Gr.refl _, rfl⟩
              · intro f w' gG hF hD; have h45 : f 45 = .slice (some ⟨b, off, none⟩) n c := hD 13 45 (by kernel_rfl) rfl; have h47 : f 47 = .int .i64 ((k : Int) - 1) := hD 15 47 (by kernel_rfl) rfl; rw [if_pos (wanted_some (d := 44) rfl rfl (hD 12 44 (by kernel_rfl) rfl))]; clear hF hD
                have hk1 : ¬ ((k : Int) < 1) := by have := HK1.out; omega
                exact gives_val (by simp only [execOp, evF, h45, h47]; go_simp) ⟨Gr.refl _, rfl⟩
              · intro f w' gG hF hD; have h48 : f 48 = .pointer (some ⟨b, off + (k - 1) * 6, none⟩) := hD 16 48 (by kernel_rfl) rfl; rw [if_pos (wanted_some (d := 44) rfl rfl (hD 12 44 (by kernel_rfl) rfl))]; clear hF hD; exact gives_val (by simp only [execOp, evF, h48]; first | rfl | go_simp) ⟨Gr.refl _, rfl⟩
              · intro f w' gG hF hD; have h49 : f 49 = .pointer (some ⟨b, off + (k - 1) * 6 + 2, none⟩) := hD 17 49 (by kernel_rfl) rfl; rw [if_pos (wanted_some (d := 44) rfl rfl (hD 12 44 (by kernel_rfl) rfl))]; clear hF hD
                have hcs := (show CellsAt W1.drew b (off + (k - 1) * 6) p from HP1.out).below (show Below W1.drew.heap.size W1.drew w' from gG) (show b < W1.heap.size by rw [HS1.out]; exact Nat.lt_succ_of_lt HBR.out)
                obtain ⟨z0, z1, z2, z3, z4, z5⟩ := hcs; exact gives_val (by simp only [execOp, evF, h49]; go_simp) ⟨Gr.refl _, rfl⟩
              · intro f w' gG hF hD; have h4 : f 4 = .pointer (some ⟨g, 0, none⟩) := hF 4 (by kernel_rfl); rw [if_pos (wanted_some (d := 44) rfl rfl (hD 12 44 (by kernel_rfl) rfl))]; clear hF hD; exact gives_val (by simp only [execOp, evF, h4]; first | rfl | go_simp) ⟨Gr.refl _, rfl⟩
              · intro f w' gG hF hD; have h51 : f 51 = .pointer (some ⟨g, 2, none⟩) := hD 19 51 (by kernel_rfl) rfl; rw [if_pos (wanted_some (d := 44) rfl rfl (hD 12 44 (by kernel_rfl) rfl))]; clear hF hD
                have hcs := (show CellsAt W1.drew g 0 d from HN1.out).below (show Below W1.drew.heap.size W1.drew w' from gG) (show g < W1.heap.size by rw [HS1.out]; exact Nat.lt_succ_self g)
                obtain ⟨z0, z1, z2, z3, z4, z5⟩ := hcs; exact gives_val (by simp only [execOp, evF, h51]; go_simp) ⟨Gr.refl _, rfl⟩
              · intro f w' gG hF hD; have h50 : f 50 = .agg #[.int .u32 p.fg, .int .u32 p.bg, .int .u8 p.at_, .int .u16 p.ln] := hD 18 50 (by kernel_rfl) rfl; have h52 : f 52 = .agg #[.int .u32 d.fg, .int .u32 d.bg, .int .u8 d.at_, .int .u16 d.ln] := hD 20 52 (by kernel_rfl) rfl; rw [if_pos (wanted_some (d := 44) rfl rfl (hD 12 44 (by kernel_rfl) rfl))]; clear hF hD
                have hpe := run_penNe p d
                unfold CeD.pen at hpe
                exact gives_val (by simp only [execOp, evF, h50, h52, hpe, EPE.out]; go_simp; exact EPE.out) ⟨Gr.refl _, rfl⟩
              · intro f w' gG hF hD; have h44 : f 44 = .bool true := hD 12 44 (by kernel_rfl) rfl; have h53 : f 53 = .bool false := hD 21 53 (by kernel_rfl) rfl; rw [if_pos (wanted_some (d := 42) rfl rfl (hD 10 42 (by kernel_rfl) rfl))]; clear hF hD; exact gives_val (by simp only [execOp, evF, h44, h53]; first | rfl | go_simp) ⟨Gr.refl _, rfl⟩
              · intro f w' gG hF hD; have h42 : f 42 = .bool false := hD 10 42 (by kernel_rfl) rfl; have h54 : f 54 = .bool false := hD 22 54 (by kernel_rfl) rfl; rw [if_pos (wanted_none rfl)]; clear hF hD; exact gives_val (by simp only [execOp, evF, h42, h54]; first | rfl | go_simp) ⟨Gr.refl _, rfl⟩
            · intro f w' gG hD; have h55 : f 55 = .bool false := hD 23 55 rfl; simp only [putAll, List.setIfInBounds_toArray, List.set_cons_zero, List.set_cons_succ, h55]; clear hD
              have hrr : rowP none ds = rowP (prevO ds (k + 1)) (ds.drop (k + 1)) := by rw [HRO.out, HGf.out]; rfl
              have HRR := Lib.hid hrr
              have HFIN : Hid (Below w.heap.size w w') := Lib.hid (HB1.out.trans (Below.mono ((below_drewN (Below.refl W1.heap.size W1) 1).trans gG) HB1.out.size))
              clear hrr gG
              go_wp2_with (fail)
              go_roundw
              case rel => exact ⟨k + 1, by omega, by go_num, HRR, HFIN⟩
              case measure => simp [intOf]; omega
    · obtain rfl : n = k := by omega
      have hge' : ¬ ((n : Int) < (n : Int)) := by omega
      have hql : n - 1 < ds.length := by rw [HN.out]; omega
      obtain ⟨p, ep⟩ : ∃ p, p = ds[n - 1] := ⟨_, rfl⟩
      have hpo : prevO ds n = some p := by
        obtain ⟨q, rfl⟩ : ∃ q, n = q + 1 := ⟨n - 1, by omega⟩
        have hq2 : q < ds.length := by omega
        rw [prevO, List.getElem?_eq_getElem hq2, ep]; rfl
      obtain ⟨b', off', rfl, hb, hp0⟩ := HRD.out.cellsAt (n - 1) hql; rw [← ep] at hp0; obtain ⟨p0, p1, p2, p3, p4, p5⟩ := hp0.below HB.out hb; obtain ⟨L, eL⟩ : ∃ L, (p.w == 1) = L := ⟨_, rfl⟩
      have hR : R = !L := by
        rw [ER.out, HG.out, hpo, List.drop_of_length_le (by have := HN.out; omega), rowP, lft, isL, ← beq_int, eL]
      have HRR := Lib.hid hR
      have h1n : (1 : Int) ≤ (n : Int) := by omega
      have eN : (p.w != 1) = (!L) := by rw [bne, eL]
      clear hR hpo ep hp0 hql p0 p2 p3 p4 p5
      cases L <;>
      · go_wp2_with (fail)
        go_ret
        exact ⟨by rw [HRR.out] <;> rfl, HB.out⟩
end Go.Proofs.YtndjggabdajbfaaGreatDoor


