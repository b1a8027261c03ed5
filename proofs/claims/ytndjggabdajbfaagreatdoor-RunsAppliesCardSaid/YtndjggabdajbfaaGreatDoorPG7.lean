/- Parts one behind the other: What grid.fits, grid.row and grid.May answer; cuts of rows of cells; What the reference's Copy of cells and Rows of a grid answer; Plain law: numbers in the order in which they come are what the reference's Canon makes of them; What links.May and the reference's May answer of a link's text; slices.Index, Contains of texts. Conditions: as told at each. -/
import Derived.Test.YtndjggabdajbfaaGreatDoorPG6
import Derived.Laws.CopyOwn
import Derived.Test.YtndjggabdajbfaaGreatDoorPG3

set_option linter.unusedVariables false
set_option linter.unusedSimpArgs false
/- What grid.fits, grid.row and grid.May answer; cuts of rows of cells. Conditions: cells that can be read; the two tables stand. -/
namespace Go.Proofs.YtndjggabdajbfaaGreatDoor
open Go Go.RowKit

theorem RdC.cut {w : World} {A : Option Addr} {ds : List CeD} (hr : RdC w A ds) {l h m : Nat} (hh : h ≤ ds.length) (hl : l ≤ h) (hm : h ≤ m) : RdC w (if m = l then A else A.map (fun x => x.add (l * 6))) ((ds.drop l).take (h - l)) := by
  unfold RdC at hr ⊢
  rw [cellsC_take, cellsC_drop]
  by_cases e : m = l
  · have : h - l = 0 := by omega
    rw [this]; left; simp
  · rw [if_neg e]
    rcases hr with hr | ⟨b, off, rfl, hb, hc⟩
    · left; rw [hr]; simp
    · refine .inr ⟨b, off + l * 6, by simp only [Option.map_some, addr_add], hb, fun j hj => ?_⟩
      rw [List.length_take, List.length_drop] at hj
      rw [Nat.add_assoc, hc (l * 6 + j) (by omega)]
      simp
/-- 's[lo:hi:hi]' of cells. -/
theorem wpList_cutC3 (w w0 : World) {ops : Array Oper} {rest : List Oper} {o : Oper} {a : Act} {Q : Exit → Act → World → Prop} (hgd : o.guard = none) (x y z z2 : Operand) (ho : o.op = .slice 22 x (some y) (some z) (some z2))
    (A : Option Addr) (n c : Nat) (hx : a.eval x = .slice A n c) (ds : List CeD) (hn : ds.length = n) (hr : RdC w0 A ds) (hnc : n ≤ c) (V W W2 : Int) (hy : a.eval y = .int .i64 V) (hz : a.eval z = .int .i64 W) (hz2 : a.eval z2 = .int .i64 W2) (l h : Nat) (hV : V = (l : Int)) (hW : W = (h : Int)) (hW2 : W2 = (h : Int)) (hlh : l ≤ h) (hh : h ≤ n)
    (H : ∀ A', RdC w0 A' ((ds.drop l).take (h - l)) → wpList Tryz.prog ops Q rest (a.put o.dst (.slice A' (h - l) (h - l))) w) : wpList Tryz.prog ops Q (o :: rest) a w := by
  subst hV hW hW2
  refine wpList_plain hgd fun K hK => ?_
  have h1 : (l : Int) ≤ (h : Int) := by omega
  have h2 : (h : Int) ≤ (c : Int) := by omega
  have hc := hr.cut (l := l) (h := h) (m := h) (by omega) hlh (Nat.le_refl _)
  unfold Oper.wp execOp
  simp only [ho, Option.map_some, Option.map_none, hx, hy, hz, hz2]
  go_simp
  exact hK _ _ (H _ hc)
/-- 's[lo:hi]' of cells. -/
theorem wpList_cutC2 (w w0 : World) {ops : Array Oper} {rest : List Oper} {o : Oper} {a : Act} {Q : Exit → Act → World → Prop} (hgd : o.guard = none) (x y z : Operand) (ho : o.op = .slice 22 x (some y) (some z) none)
    (A : Option Addr) (n c : Nat) (hx : a.eval x = .slice A n c) (ds : List CeD) (hn : ds.length = n) (hr : RdC w0 A ds) (hnc : n ≤ c) (V W : Int) (hy : a.eval y = .int .i64 V) (hz : a.eval z = .int .i64 W) (l h : Nat) (hV : V = (l : Int)) (hW : W = (h : Int)) (hlh : l ≤ h) (hh : h ≤ n)
    (H : ∀ A', RdC w0 A' ((ds.drop l).take (h - l)) → wpList Tryz.prog ops Q rest (a.put o.dst (.slice A' (h - l) (c - l))) w) : wpList Tryz.prog ops Q (o :: rest) a w := by
  subst hV hW
  refine wpList_plain hgd fun K hK => ?_
  have h1 : (l : Int) ≤ (h : Int) := by omega
  have h2 : (h : Int) ≤ (c : Int) := by omega
  have hc := hr.cut (l := l) (h := h) (m := c) (by omega) hlh (by omega)
  unfold Oper.wp execOp
  simp only [ho, Option.map_some, Option.map_none, hx, hy, hz]
  go_simp
  exact hK _ _ (H _ hc)
set_option maxRecDepth 100000 in
theorem fits_c (cols rows : Int) (w : World) : Calls Tryz.prog 71 #[.int .i64 cols, .int .i64 rows] w fun e w' => e = .returned (.bool (fitsI cols rows)) ∧ w' = w := by
  unfold fitsI
  obtain ⟨b1, e1⟩ : ∃ b, decide (1 ≤ cols) = b := ⟨_, rfl⟩
  obtain ⟨b2, e2⟩ : ∃ b, decide (cols ≤ 80) = b := ⟨_, rfl⟩
  obtain ⟨b3, e3⟩ : ∃ b, decide (1 ≤ rows) = b := ⟨_, rfl⟩
  obtain ⟨b4, e4⟩ : ∃ b, decide (rows ≤ 24) = b := ⟨_, rfl⟩
  rw [e1, e2, e3, e4]
  cases b1 <;> cases b2 <;> cases b3 <;> cases b4 <;>
  · go_enter Tryz.func71, Tryz.ntmps71
    go_wp2
    go_ret
    exact ⟨rfl, rfl⟩
theorem fitsI_nat {cols rows : Int} (h : fitsI cols rows = true) : ∃ C R : Nat, cols = (C : Int) ∧ rows = (R : Int) ∧ 1 ≤ C ∧ C ≤ 80 ∧ 1 ≤ R ∧ R ≤ 24 := by
  unfold fitsI at h
  simp only [Bool.and_eq_true, decide_eq_true_eq] at h
  exact ⟨cols.toNat, rows.toNat, by omega, by omega, by omega, by omega, by omega, by omega⟩
theorem mul_le (y C R : Nat) (h : y < R) : (y + 1) * C ≤ C * R := by rw [Nat.mul_comm C R]; exact Nat.mul_le_mul_right C h
set_option maxRecDepth 100000 in
set_option maxHeartbeats 2000000 in
theorem row_c (C : Nat) (rows : Int) (A : Option Addr) (n c : Nat) (ds : List CeD) (y l h : Nat) (w : World) (hn : ds.length = n) (hr : RdC w A ds) (hnc : n ≤ c) (hl : l = y * C) (hh : h = (y + 1) * C) (hb : h ≤ n) (hs : n ≤ 140737488355328) (hy : y ≤ 1000) (hC : C ≤ 1000) :
    Calls Tryz.prog 73 #[.agg #[.int .i64 (C : Int), .int .i64 rows, .slice A n c], .int .i64 (y : Int)] w fun e w' => ∃ A', e = .returned (.slice A' C C) ∧ RdC w' A' (rowAt C y ds) ∧ Below w.heap.size w w' := by
  have k0 : Below w.heap.size w (w.alloc (.cells #[.int .i64 (C : Int), .int .i64 rows, .slice A n c] 72)) := (Below.refl _ _).alloc (Nat.le_refl _) _
  have hlh : l ≤ h := by rw [hl, hh]; exact Nat.mul_le_mul_right C (Nat.le_succ y)
  have e1 : (y : Int) * (C : Int) = (l : Int) := by rw [hl]; exact (Int.natCast_mul y C).symm
  have e2 : ((y : Int) + 1) * (C : Int) = (h : Int) := by rw [hh, Int.natCast_mul]; rfl
  have hC2 : h - l = C := by rw [hh, hl, Nat.add_mul]; omega
  have hrow : (ds.drop l).take (h - l) = rowAt C y ds := by rw [rowAt, hC2, hl]
  have HRW := Lib.hid hrow
  have HC2 := Lib.hid hC2
  have HN := Lib.hid hn
  have HR := Lib.hid hr
  clear hl hh hrow hC2 hn hr
  go_enter Tryz.func73, Tryz.ntmps73
  go_wp2_with (refine wpList_cutC3 _ _ rfl (.tmp 6) (.tmp 10) (.tmp 15) (.tmp 20) rfl A n c rfl ds HN.out (HR.out.below k0) hnc _ _ _ rfl rfl rfl l h rfl rfl rfl hlh hb ?_; intro A' hA; rw [HC2.out]; have HA : Hid (RdC _ A' (rowAt C y ds)) := Lib.hid (HRW.out ▸ hA); clear hA)
  go_ret
  exact ⟨A', rfl, HA.out, k0⟩
theorem rowAt_len {C y n : Nat} {ds : List CeD} (hn : ds.length = n) (hb : (y + 1) * C ≤ n) : (rowAt C y ds).length = C := by
  rw [rowAt, List.length_take, List.length_drop]
  have : (y + 1) * C = y * C + C := by rw [Nat.add_mul]; omega
  omega
set_option maxRecDepth 100000 in
set_option maxHeartbeats 4000000 in
theorem gridMay_c (cols rows : Int) (A : Option Addr) (n c : Nat) (ds : List CeD) (w : World) (hn : ds.length = n) (hr : RdC w A ds) (hnc : n ≤ c) (hl : n ≤ 140737488355328) (hT : TabU w) :
    Calls Tryz.prog 52 #[.agg #[.int .i64 cols, .int .i64 rows, .slice A n c]] w fun e w' => e = .returned (.bool (gridP cols rows ds)) ∧ Below w.heap.size w w' := by
  have k0 : Below w.heap.size w (w.alloc (.cells #[.int .i64 cols, .int .i64 rows, .slice A n c] 72)) := (Below.refl _ _).alloc (Nat.le_refl _) _
  obtain ⟨R, eR⟩ : ∃ R, gridP cols rows ds = R := ⟨_, rfl⟩
  rw [eR]
  obtain ⟨F, eF⟩ : ∃ F, fitsI cols rows = F := ⟨_, rfl⟩
  have EF := Lib.hid eF
  cases F
  · have hR : R = false := by rw [← eR, gridP, eF]; rfl
    have HR := Lib.hid hR
    clear hR eR eF
    go_enter Tryz.func52, Tryz.ntmps52
    go_wp2_with (go_at_call 71; refine (fits_c _ _ _).mono ?_; rintro _ _ ⟨rfl, rfl⟩; rw [EF.out])
    go_ret
    exact ⟨by rw [HR.out] <;> rfl, k0⟩
  obtain ⟨C, Rw, rfl, rfl, c1, c2, c3, c4⟩ := fitsI_nat eF
  have m1 : (0 : Int) ≤ (C : Int) * (Rw : Int) := by rw [← Int.natCast_mul]; omega
  have m2 : (C : Int) * (Rw : Int) ≤ 1920 := by
    rw [← Int.natCast_mul]
    have := Nat.mul_le_mul c2 c4
    omega
  obtain ⟨E, eE⟩ : ∃ E, ((n : Int) != (C : Int) * (Rw : Int)) = E := ⟨_, rfl⟩
  cases E
  rotate_left
  · have hne : ¬ ((n : Int) = (C : Int) * (Rw : Int)) := by simpa using eE
    have hR : R = false := by rw [← eR, gridP, eF, hn, decide_eq_false hne]; rfl
    have HR := Lib.hid hR
    clear hR eR eF hne
    go_enter Tryz.func52, Tryz.ntmps52
    go_wp2_with (go_at_call 71; refine (fits_c _ _ _).mono ?_; rintro _ _ ⟨rfl, rfl⟩; rw [EF.out])
    go_ret
    exact ⟨by rw [HR.out] <;> rfl, k0⟩
  have heq : n = C * Rw := by
    have : (n : Int) = (C : Int) * (Rw : Int) := by simpa using eE
    rw [← Int.natCast_mul] at this
    omega
  have ER : Hid (R = rowsGo C 0 Rw ds) := Lib.hid (by
    rw [← eR, gridP, eF, hn, heq, Int.natCast_mul, decide_eq_true rfl, Int.toNat_natCast, Int.toNat_natCast]; rfl)
  have HEQ := Lib.hid heq
  have HN := Lib.hid hn
  have HRD := Lib.hid hr
  have HT := Lib.hid hT
  obtain ⟨g, eg⟩ : ∃ g, g = w.heap.size := ⟨_, rfl⟩
  have HG3 : Hid ((w.alloc (.cells #[.int .i64 (C : Int), .int .i64 (Rw : Int), .slice A n c] 72)).heap[g]? = some (.cells #[.int .i64 (C : Int), .int .i64 (Rw : Int), .slice A n c] 72 (0, 0))) := Lib.hid (by rw [eg]; exact heap_alloc_new _ _)
  have HK0 := Lib.hid k0
  have HGL : Hid (g < (w.alloc (.cells #[.int .i64 (C : Int), .int .i64 (Rw : Int), .slice A n c] 72)).heap.size) := Lib.hid (heap_lt HG3.out)
  clear eR eF heq hn hr hT k0
  go_enter Tryz.func52, Tryz.ntmps52
  go_wp2_with (go_at_call 71; refine (fits_c _ _ _).mono ?_; rintro _ _ ⟨rfl, rfl⟩; rw [EF.out])
  rw [← eg]
  clear m1 m2 eE
  have EG := Lib.hid eg
  clear eg
  go_loopw [23] (fun i wr => ∃ y : Nat, y ≤ Rw ∧ i = .int .i64 y ∧ Hid (rowsGo C 0 Rw ds = rowsGo C y (Rw - y) ds) ∧ Hid (Below w.heap.size w wr) ∧ Hid (wr.heap[g]? = some (.cells #[.int .i64 (C : Int), .int .i64 (Rw : Int), .slice A n c] 72 (0, 0)))) (fun i _ => Rw - (intOf i).toNat)
  case atStart => exact ⟨0, Nat.zero_le _, rfl, Lib.hid rfl, HK0, HG3⟩
  case round =>
    obtain ⟨y, hy, rfl, HG, HB, HGG⟩ := hrel
    have g0 : wr.cell? ⟨g, 0, none⟩ = some (.int .i64 (C : Int)) := by rw [heap_cell HGG.out]; rfl
    have g1 : wr.cell? ⟨g, 1, none⟩ = some (.int .i64 (Rw : Int)) := by rw [heap_cell HGG.out]; rfl
    have g2 : wr.cell? ⟨g, 2, none⟩ = some (.slice A n c) := by rw [heap_cell HGG.out]; rfl
    rcases Nat.lt_or_ge y Rw with hlt | hge
    · have hlt' : (y : Int) < (Rw : Int) := by omega
      have hb : (y + 1) * C ≤ n := by rw [HEQ.out]; exact mul_le y C Rw hlt
      have hlen := rowAt_len HN.out hb
      have HLEN := Lib.hid hlen
      have HRO : Hid (rowsGo C y (Rw - y) ds = (rowMayP (rowAt C y ds) && rowsGo C (y + 1) (Rw - (y + 1)) ds)) := Lib.hid (by rw [show Rw - y = (Rw - (y + 1)) + 1 by omega, rowsGo])
      have hrow := row_c C (Rw : Int) A n c ds y _ _ wr HN.out (HRD.out.below HB.out) hnc rfl rfl hb hl (by omega) (by omega)
      have HROW := Lib.hid hrow
      have HSZ : Hid (g < wr.heap.size) := Lib.hid (heap_lt HGG.out)
      clear hrow hlen hb
      obtain ⟨RB, eRB⟩ : ∃ RB, rowMayP (rowAt C y ds) = RB := ⟨_, rfl⟩
      have ERB := Lib.hid eRB
      clear eRB
      cases RB
      · have HRR : Hid (R = false) := Lib.hid (by rw [ER.out, HG.out, HRO.out, ERB.out]; rfl)
        go_wp2_with (first
          | (go_at_call 73; (with_reducible refine HROW.out.mono ?_); rintro _ w1 ⟨A1, rfl, hr1, hb1⟩; have HR1 := Lib.hid hr1; have HB1 := Lib.hid (HB.out.trans (hb1.mono HB.out.size)); clear hr1 hb1)
          | (go_at_call 72; (with_reducible refine (RowMay_c A1 C C (rowAt C y ds) w1 HLEN.out HR1.out (by omega) (HT.out.next HB1.out)).mono ?_); rintro _ w2 ⟨rfl, hb2⟩; rw [ERB.out]; have HB2 := Lib.hid (HB1.out.trans (hb2.mono HB1.out.size)); clear hb2))
        go_ret
        exact ⟨by rw [HRR.out] <;> rfl, HB2.out⟩
      · go_wp2_with (first
          | (go_at_call 73; (with_reducible refine HROW.out.mono ?_); rintro _ w1 ⟨A1, rfl, hr1, hb1⟩; have HR1 := Lib.hid hr1; have HB1 := Lib.hid (HB.out.trans (hb1.mono HB.out.size)); have HH1 := Lib.hid ((hb1.block g HSZ.out).trans HGG.out); have HS1 := Lib.hid (Nat.lt_of_lt_of_le HSZ.out hb1.size); clear hr1 hb1)
          | (go_at_call 72; (with_reducible refine (RowMay_c A1 C C (rowAt C y ds) w1 HLEN.out HR1.out (by omega) (HT.out.next HB1.out)).mono ?_); rintro _ w2 ⟨rfl, hb2⟩; rw [ERB.out]; have HB2 := Lib.hid (HB1.out.trans (hb2.mono HB1.out.size)); have HH2 := Lib.hid ((hb2.block g HS1.out).trans HH1.out); clear hb2))
        go_roundw
        case rel => exact ⟨y + 1, by omega, by go_num, Lib.hid (by rw [HG.out, HRO.out, ERB.out]; rfl), HB2, HH2⟩
        case measure => simp [intOf]; omega
    · obtain rfl : Rw = y := by omega
      have hge' : ¬ ((Rw : Int) < (Rw : Int)) := by omega
      have HRR : Hid (R = true) := Lib.hid (by rw [ER.out, HG.out, Nat.sub_self, rowsGo])
      go_wp2_with (fail)
      go_ret
      exact ⟨by rw [HRR.out] <;> rfl, HB.out⟩
end Go.Proofs.YtndjggabdajbfaaGreatDoor



/- What the reference's Copy of cells and Rows of a grid answer. Conditions: cells that can be read. -/
namespace Go.Proofs.YtndjggabdajbfaaGreatDoor
open Go Go.RowKit

/-- 'copy(dst, src)' on cells, as many as dst has, dst a row of the call's own. -/
theorem wpList_copyC (w : World) {ops : Array Oper} {rest : List Oper} {o : Oper} {a : Act} {Q : Exit → Act → World → Prop} (hgd : o.guard = none) (d s : Operand)
    (ho : o.op = .call { callee := .builtin .copy, args := #[d, s], argTypes := #[22, 22] })
    (B g n c : Nat) (ds0 : List CeD) (hd : a.eval d = .slice (some ⟨g, 0, none⟩) n c) (hown : OwnC w B (.slice (some ⟨g, 0, none⟩) n c) ds0)
    (A : Option Addr) (k : Nat) (ns : List CeD) (hs : a.eval s = .slice A n k) (hm : ns.length = n) (hr : RdC w A ns)
    (h : ∀ w', OwnC w' B (.slice (some ⟨g, 0, none⟩) n c) ns → Below B w w' → w.grownBy w' (some g) → wpList Tryz.prog ops Q rest (a.put o.dst (goInt (n : Int))) w') : wpList Tryz.prog ops Q (o :: rest) a w := by
  have hlen := hown.len
  obtain ⟨_, ⟨hbad, _⟩ | ⟨g', cap, cur, hv, hgB, hg, hnc, hcm, hcs, htk⟩⟩ := hown
  · cases hbad
  injection hv with hv1 hv2 hv3
  subst hv3
  injection hv1 with hv1
  injection hv1 with hv1
  subst hv1
  have hcl : (cellsC ns).length = n * 6 := by rw [cellsC_length, hm]
  obtain ⟨i0, hi, hz0, hz1, hz2⟩ := info_parts info_ce
  refine wpList_plain hgd fun K hK => ?_
  have hfirst : (Builtin.firstCells 6 n (.slice A n k)).run Tryz.prog w = .ok (cellsC ns).toArray w := by
    rcases A with _ | ad
    · have : cellsC ns = [] := by
        rcases hr with h | ⟨_, _, h, _⟩
        · exact h
        · cases h
      rw [run_firstCells_none, this]
    · exact run_firstCells_some w 6 n ad n k (cellsC ns) hcl (Rd.cellsAt hr ad rfl)
  have hstore := run_storeCells_at Tryz.prog g 0 43 (cellsC ns) 0 cur w hg (by rw [hcl, hcs]; have := hlen.2.1; omega) (cellsC_one ns)
  obtain ⟨w', ew'⟩ : ∃ w', w' = w.setRow g (cur.toList.take (0 + 0) ++ cellsC ns ++ cur.toList.drop (0 + 0 + (cellsC ns).length)).toArray := ⟨_, rfl⟩
  rw [← ew'] at hstore
  have hrun : (Builtin.copy_ #[22, 22] o.type #[.slice (some ⟨g, 0, none⟩) n c, .slice A n k]).run Tryz.prog w = .ok (goInt (n : Int)) w' := by
    unfold Builtin.copy_
    simp only [Sem.run_bind, run_underlying Tryz.underlying22, Result.andThen_ok, Builtin.lenOf, Sem.run_pure, sizeOf, typeInfo, hi, hz1]
    simp [Sem.run_bind, Result.andThen_ok, hi, hz1, hfirst, hstore]
  unfold Oper.wp execOp
  simp only [ho, resolve, invoke, builtin, Sem.run_bind, Sem.run_pure, Result.andThen_ok, List.map_toArray, List.map_cons, List.map_nil, hd, hs, hrun]
  refine hK _ _ (h w' ?_ ?_ ?_)
  · rw [ew']
    refine ⟨by rw [cellsC_length], .inr ⟨g, c, _, by rw [hm], hgB, setRow_heap w g cur _ 43 _ hg, by omega, hcm, ?_, ?_⟩⟩
    · simp [hcl]; have := hlen.2.1; omega
    · rw [hm, ← hcl]; simp
  · rw [ew']; exact ⟨rfl, rfl, rfl, by simp, fun q hq => setRow_other w g q _ (by omega)⟩
  · rw [ew']; exact ⟨rfl, rfl, rfl, by simp, fun q _ hq => setRow_other w g q _ (fun e => hq (by rw [e]))⟩
set_option maxRecDepth 100000 in
set_option maxHeartbeats 2000000 in
theorem copyC_c (A : Option Addr) (n c : Nat) (ds : List CeD) (w : World) (hn : ds.length = n) (hr : RdC w A ds) (hl : n ≤ 7000000000000) :
    Calls Tryz.prog 83 #[.slice A n c] w fun e w' => ∃ v, e = .returned v ∧ OwnC w' w.heap.size v ds ∧ Below w.heap.size w w' := by
  have HN := Lib.hid hn
  clear hn
  go_enter Tryz.func83, Tryz.ntmps83
  go_wp2_with (first
    | (at_make; refine wpList_makeC _ rfl (.tmp 5) (.tmp 5) rfl _ _ _ _ n rfl rfl rfl rfl hl ?_; intro w1 h1 h2 _; have H1 := Lib.hid h1; clear h1)
    | ((with_reducible refine wpList_copyC _ rfl (.tmp 7) (.tmp 8) rfl w.heap.size w.heap.size n n _ rfl H1.out A c ds rfl HN.out (hr.below h2) ?_); intro w2 h3 h4 _; have H3 := Lib.hid h3; clear h3))
  go_ret
  exact ⟨_, rfl, H3.out, h2.trans h4⟩
/-- Rows of cells, each a slice somewhere. -/
theorem info_rw : (Tryz.prog.info? 22).map (fun i => (i.zero, i.size, i.bytes)) = some (some (.slice none 0 0), 1, 24) := by kernel_rfl
/-- 'append(v, x)' of one row of cells, laid in a new block. -/
theorem wpList_appRw1 (w : World) {ops : Array Oper} {rest : List Oper} {o : Oper} {a : Act} {Q : Exit → Act → World → Prop} (hgd : o.guard = none) (s x : Operand)
    (ho : o.op = .call { callee := .builtin .append, args := #[s, x], argTypes := #[91, 91] })
    (B : Nat) (v : Value) (vs : List Value) (hs : a.eval s = v) (hown : Own w B 22 v vs) (X : Value) (hx : a.eval x = .slice (some ⟨w.heap.size, 0, none⟩) 1 1) (h1 : X.oneCell' = true)
    (hlen : vs.length + 1 ≤ 1000000000000) (hB : B ≤ w.heap.size)
    (h : ∀ v' w', Own w' B 22 v' (vs ++ [X]) → (w.alloc (.cells #[X] 22)).grownBy w' v.ownBlock → wpList Tryz.prog ops Q rest (a.put o.dst v') w') : wpList Tryz.prog ops Q (o :: rest) a (w.alloc (.cells #[X] 22)) := by
  obtain ⟨i0, hi, hz0, hz1, hz2⟩ := info_parts info_rw
  refine wpList_app _ hgd s x 91 ho B 22 i0 (.slice none 0 0) 24 Tryz.underlying91 hi hz0 hz1 hz2 rfl v vs hs (Own.alloc hown _) _ 1 1 [X] hx rfl (.inr ⟨w.heap.size, 0, rfl, by simp, fun k hk => ?_⟩) (fun u hu => by simp at hu; subst hu; exact h1) (by unfold maxLen; omega) (by omega) (by simp; omega) (fun v' w' g1 g2 _ => h v' w' g1 g2)
  have : k = 0 := by simp at hk; omega
  subst this
  exact cell_of_row _ _ 0 _ _ (0, 0) (heap_alloc_new w _)
set_option maxRecDepth 100000 in
set_option maxHeartbeats 8000000 in
theorem refRows_c (cols rows : Int) (A : Option Addr) (n c : Nat) (ds : List CeD) (w : World) (hn : ds.length = n) (hr : RdC w A ds) (hnc : n ≤ c) (hl : n ≤ 7000000000000) :
    Calls Tryz.prog 63 #[.agg #[.int .i64 cols, .int .i64 rows, .slice A n c]] w fun e w' => ∃ v, e = .returned (.tuple #[v, .bool (gridP cols rows ds)]) ∧ Below w.heap.size w w' := by
  have k0 : Below w.heap.size w (w.alloc (.cells #[.int .i64 cols, .int .i64 rows, .slice A n c] 72)) := (Below.refl _ _).alloc (Nat.le_refl _) _
  obtain ⟨R, eR⟩ : ∃ R, gridP cols rows ds = R := ⟨_, rfl⟩
  rw [eR]
  obtain ⟨F, eF⟩ : ∃ F, fitsI cols rows = F := ⟨_, rfl⟩
  cases F
  · have hR : R = false := by rw [← eR, gridP, eF]; rfl
    have HR := Lib.hid hR
    unfold fitsI at eF
    have f1 : decide (cols < 1) = !decide (1 ≤ cols) := by rw [← decide_not]; exact decide_eq_decide.2 (by omega)
    have f2 : decide (80 < cols) = !decide (cols ≤ 80) := by rw [← decide_not]; exact decide_eq_decide.2 (by omega)
    have f3 : decide (rows < 1) = !decide (1 ≤ rows) := by rw [← decide_not]; exact decide_eq_decide.2 (by omega)
    have f4 : decide (24 < rows) = !decide (rows ≤ 24) := by rw [← decide_not]; exact decide_eq_decide.2 (by omega)
    obtain ⟨b1, e1⟩ : ∃ b, decide (1 ≤ cols) = b := ⟨_, rfl⟩
    obtain ⟨b2, e2⟩ : ∃ b, decide (cols ≤ 80) = b := ⟨_, rfl⟩
    obtain ⟨b3, e3⟩ : ∃ b, decide (1 ≤ rows) = b := ⟨_, rfl⟩
    obtain ⟨b4, e4⟩ : ∃ b, decide (rows ≤ 24) = b := ⟨_, rfl⟩
    rw [e1] at f1; rw [e2] at f2; rw [e3] at f3; rw [e4] at f4
    rw [e1, e2, e3, e4] at eF
    clear hR eR
    cases b1
    · clear eF
      go_enter Tryz.func63, Tryz.ntmps63
      go_wp2_with (fail)
      go_ret2
      exact ⟨_, by rw [HR.out] <;> rfl, k0⟩
    cases b2
    · clear eF
      go_enter Tryz.func63, Tryz.ntmps63
      go_wp2_with (fail)
      go_ret2
      exact ⟨_, by rw [HR.out] <;> rfl, k0⟩
    cases b3
    · clear eF
      go_enter Tryz.func63, Tryz.ntmps63
      go_wp2_with (fail)
      go_ret2
      exact ⟨_, by rw [HR.out] <;> rfl, k0⟩
    cases b4
    · clear eF
      go_enter Tryz.func63, Tryz.ntmps63
      go_wp2_with (fail)
      go_ret2
      exact ⟨_, by rw [HR.out] <;> rfl, k0⟩
    · cases eF
  obtain ⟨C, Rw, rfl, rfl, c1, c2, c3, c4⟩ := fitsI_nat eF
  have f1 : decide ((C : Int) < 1) = false := decide_eq_false (by omega)
  have f2 : decide (80 < (C : Int)) = false := decide_eq_false (by omega)
  have f3 : decide ((Rw : Int) < 1) = false := decide_eq_false (by omega)
  have f4 : decide (24 < (Rw : Int)) = false := decide_eq_false (by omega)
  have m1 : (0 : Int) ≤ (C : Int) * (Rw : Int) := by rw [← Int.natCast_mul]; omega
  have m2 : (C : Int) * (Rw : Int) ≤ 1920 := by
    rw [← Int.natCast_mul]
    have := Nat.mul_le_mul c2 c4
    omega
  obtain ⟨E, eE⟩ : ∃ E, ((n : Int) != (C : Int) * (Rw : Int)) = E := ⟨_, rfl⟩
  cases E
  rotate_left
  · have hne : ¬ ((n : Int) = (C : Int) * (Rw : Int)) := by simpa using eE
    have hR : R = false := by rw [← eR, gridP, eF, hn, decide_eq_false hne]; rfl
    have HR := Lib.hid hR
    clear hR eR eF hne
    go_enter Tryz.func63, Tryz.ntmps63
    go_wp2_with (fail)
    go_ret2
    exact ⟨_, by rw [HR.out] <;> rfl, k0⟩
  have heq : n = C * Rw := by
    have : (n : Int) = (C : Int) * (Rw : Int) := by simpa using eE
    rw [← Int.natCast_mul] at this
    omega
  have ER : Hid (R = rowsGo C 0 Rw ds) := Lib.hid (by
    rw [← eR, gridP, eF, hn, heq, Int.natCast_mul, decide_eq_true rfl, Int.toNat_natCast, Int.toNat_natCast]; rfl)
  have HEQ := Lib.hid heq
  have HN := Lib.hid hn
  have HRD := Lib.hid hr
  obtain ⟨g, eg⟩ : ∃ g, g = w.heap.size := ⟨_, rfl⟩
  have HG3 : Hid ((w.alloc (.cells #[.int .i64 (C : Int), .int .i64 (Rw : Int), .slice A n c] 72)).heap[g]? = some (.cells #[.int .i64 (C : Int), .int .i64 (Rw : Int), .slice A n c] 72 (0, 0))) := Lib.hid (by rw [eg]; exact heap_alloc_new _ _)
  obtain ⟨W1, eW1⟩ : ∃ W1, W1 = w.alloc (.cells #[.int .i64 (C : Int), .int .i64 (Rw : Int), .slice A n c] 72) := ⟨_, rfl⟩
  rw [← eW1] at HG3 k0
  have HK0 := Lib.hid k0
  have HGB : Hid (w.heap.size ≤ g) := Lib.hid (by rw [eg]; exact Nat.le_refl _)
  have EW := Lib.hid eW1
  clear eR eF heq hn hr k0 eW1
  go_enter Tryz.func63, Tryz.ntmps63
  go_wp2_with (fail)
  rw [← EW.out, ← eg]
  clear m1 m2 eE f1 f2 f3 f4
  have EG := Lib.hid eg
  clear eg
  go_loopw [4, 5] (fun v i wr => ∃ (y : Nat) (vs : List Value), y ≤ Rw ∧ i = .int .i64 y ∧ Hid (rowsGo C 0 Rw ds = rowsGo C y (Rw - y) ds) ∧ Hid (Below w.heap.size w wr) ∧ Hid (wr.heap[g]? = some (.cells #[.int .i64 (C : Int), .int .i64 (Rw : Int), .slice A n c] 72 (0, 0))) ∧ Hid (Own wr (g + 1) 22 v vs) ∧ Hid (vs.length = y)) (fun _ i _ => Rw - (intOf i).toNat)
  case atStart =>
    refine ⟨0, [], Nat.zero_le _, rfl, Lib.hid rfl, Lib.hid (HK0.out.alloc HK0.out.size _), Lib.hid ((Below.heap_alloc _ _ _ (heap_lt HG3.out)).trans HG3.out), Lib.hid ?_, Lib.hid rfl⟩
    have hz : W1.heap.size = g + 1 := by rw [EW.out, EG.out]; simp
    have := World.ownsRow_made W1 (e := 22) (base := g + 1) (size := 1) #[] 0 (by rw [hz]; exact Nat.le_refl _) (Nat.zero_le _) rfl
    rw [hz] at this
    simpa [Own] using this
  case round =>
    obtain ⟨y, vs, hy, rfl, HG, HB, HGG, HO, HL⟩ := hrel
    have g0 : wr.cell? ⟨g, 0, none⟩ = some (.int .i64 (C : Int)) := by rw [heap_cell HGG.out]; rfl
    have g1 : wr.cell? ⟨g, 1, none⟩ = some (.int .i64 (Rw : Int)) := by rw [heap_cell HGG.out]; rfl
    have g2 : wr.cell? ⟨g, 2, none⟩ = some (.slice A n c) := by rw [heap_cell HGG.out]; rfl
    rcases Nat.lt_or_ge y Rw with hlt | hge
    · have hlt' : (y : Int) < (Rw : Int) := by omega
      have hb : (y + 1) * C ≤ n := by rw [HEQ.out]; exact mul_le y C Rw hlt
      have hlen := rowAt_len HN.out hb
      have HLEN := Lib.hid hlen
      have HRO : Hid (rowsGo C y (Rw - y) ds = (rowMayP (rowAt C y ds) && rowsGo C (y + 1) (Rw - (y + 1)) ds)) := Lib.hid (by rw [show Rw - y = (Rw - (y + 1)) + 1 by omega, rowsGo])
      have HSZ : Hid (g < wr.heap.size) := Lib.hid (heap_lt HGG.out)
      obtain ⟨l, el⟩ : ∃ l, l = y * C := ⟨_, rfl⟩
      have hlh : l + C ≤ n := by rw [el, ← Nat.succ_mul]; exact hb
      have e1 : (y : Int) * (C : Int) = (l : Int) := by rw [el]; exact (Int.natCast_mul y C).symm
      have hrow : (ds.drop l).take (l + C - l) = rowAt C y ds := by rw [rowAt, el]; congr 1; omega
      have HRW := Lib.hid hrow
      have HLC : Hid (l + C - l = C) := Lib.hid (by omega)
      have HBL : Hid (C ≤ 80) := Lib.hid c2
      obtain ⟨RB, eRB⟩ : ∃ RB, rowMayP (rowAt C y ds) = RB := ⟨_, rfl⟩
      have ERB := Lib.hid eRB
      clear eRB hrow el hlen hb
      cases RB
      · have HRR : Hid (R = false) := Lib.hid (by rw [ER.out, HG.out, HRO.out, ERB.out]; rfl)
        go_wp2_with (first
          | (refine wpList_cutC2 _ wr rfl (.tmp 44) (.tmp 48) (.tmp 55) rfl A n c rfl ds HN.out (HRD.out.below HB.out) hnc _ _ rfl rfl l (l + C) rfl (by push_cast; rfl) (Nat.le_add_right _ _) hlh ?_; intro A1 hA1; rw [HRW.out] at hA1; rw [HLC.out]; have HA1 := Lib.hid hA1; clear hA1)
          | (go_at_call 83; (refine (copyC_c A1 C _ (rowAt C y ds) wr HLEN.out HA1.out (by have := HBL.out; omega)).mono ?_); rintro _ w1 ⟨v1, rfl, ho1, hb1⟩; obtain ⟨A2, k2, rfl, q1, q2, q3, _⟩ := ho1.form; have HR1 := Lib.hid q3; have HB1 := Lib.hid (HB.out.trans (hb1.mono HB.out.size)); rw [HLEN.out]; clear ho1 hb1 q1 q2 q3)
          | (go_at_call 84; (refine (refRowMay_c A2 C k2 (rowAt C y ds) w1 HLEN.out HR1.out (by have := HBL.out; omega)).mono ?_); rintro _ w2 ⟨rfl, hb2⟩; rw [ERB.out]; have HB2 := Lib.hid (HB1.out.trans (hb2.mono HB1.out.size)); clear hb2))
        go_ret2
        exact ⟨_, by rw [HRR.out] <;> rfl, HB2.out⟩
      · go_wp2_with (first
          | (refine wpList_cutC2 _ wr rfl (.tmp 44) (.tmp 48) (.tmp 55) rfl A n c rfl ds HN.out (HRD.out.below HB.out) hnc _ _ rfl rfl l (l + C) rfl (by push_cast; rfl) (Nat.le_add_right _ _) hlh ?_; intro A1 hA1; rw [HRW.out] at hA1; rw [HLC.out]; have HA1 := Lib.hid hA1; clear hA1)
          | (go_at_call 83; (refine (copyC_c A1 C _ (rowAt C y ds) wr HLEN.out HA1.out (by have := HBL.out; omega)).mono ?_); rintro _ w1 ⟨v1, rfl, ho1, hb1⟩; obtain ⟨A2, k2, rfl, q1, q2, q3, _⟩ := ho1.form; have HR1 := Lib.hid q3; have HB1 := Lib.hid (HB.out.trans (hb1.mono HB.out.size)); have HH1 := Lib.hid ((hb1.block g HSZ.out).trans HGG.out); have HS1 := Lib.hid (Nat.lt_of_lt_of_le HSZ.out hb1.size); have HO1 := Lib.hid (Own.below HO.out hb1); rw [HLEN.out]; clear ho1 hb1 q1 q2 q3)
          | (go_at_call 84; (refine (refRowMay_c A2 C k2 (rowAt C y ds) w1 HLEN.out HR1.out (by have := HBL.out; omega)).mono ?_); rintro _ w2 ⟨rfl, hb2⟩; rw [ERB.out]; have HB2 := Lib.hid (HB1.out.trans (hb2.mono HB1.out.size)); have HH2 := Lib.hid ((hb2.block g HS1.out).trans HH1.out); have HS2 := Lib.hid (Nat.lt_of_lt_of_le HS1.out hb2.size); have HO2 := Lib.hid (Own.below HO1.out hb2); clear hb2)
          | (at_builtin; go_must (refine wpList_appRw1 w2 rfl (.tmp 61) (.tmp 63) rfl (g + 1) u4 vs rfl HO2.out (.slice A2 C k2) rfl rfl (by have := HL.out; omega) (by have := HS2.out; omega) ?_); intro v3 w3 h3 hg3; have hA : Below (g + 1) w2 (w2.alloc (.cells #[.slice A2 C k2] 22)) := (Below.refl _ _).alloc (by have := HS2.out; omega) _; have HB3 := Lib.hid (hA.grown hg3 (by have := HS2.out; simp; omega) (fun k hk => (Own.lt HO2.out k hk).1)); have HO3 := Lib.hid h3; clear h3 hg3 hA))
        go_roundw
        case rel => exact ⟨y + 1, _, by omega, by go_num, Lib.hid (by rw [HG.out, HRO.out, ERB.out]; rfl), Lib.hid (HB2.out.trans (HB3.out.mono (Nat.le_trans HGB.out (Nat.le_succ g)))), Lib.hid ((HB3.out.block g (Nat.lt_succ_self g)).trans HH2.out), HO3, Lib.hid (by rw [List.length_append, HL.out]; rfl)⟩
        case measure => simp [intOf]; omega
    · obtain rfl : Rw = y := by omega
      have hge' : ¬ ((Rw : Int) < (Rw : Int)) := by omega
      have HRR : Hid (R = true) := Lib.hid (by rw [ER.out, HG.out, Nat.sub_self, rowsGo])
      go_wp2_with (fail)
      go_ret2
      first | exact ⟨_, by rw [HRR.out] <;> rfl, HB.out⟩ | exact ⟨⟨_, by rw [HRR.out] <;> rfl⟩, HB.out⟩
end Go.Proofs.YtndjggabdajbfaaGreatDoor



/- Plain law: numbers in the order in which they come are what the reference's Canon makes of them. Conditions: numbers not below 0. -/
namespace Go.Proofs.YtndjggabdajbfaaGreatDoor
open Go Go.Lib

/-- None stands there twice. -/
def dst (ls : List ByteArray) : Prop := ∀ (i j : Nat) (u : ByteArray), i < j → ls[i]? = some u → ls[j]? ≠ some u
def allMay (ls : List ByteArray) : Prop := ∀ (i : Nat) (u : ByteArray), ls[i]? = some u → uriMay u = true
theorem uriMay_pos {u : ByteArray} (h : uriMay u = true) : 0 < u.size := by
  unfold uriMay at h
  simp only [Bool.and_eq_true, decide_eq_true_eq] at h
  exact h.2.1
theorem mem_get? {u : ByteArray} : ∀ {l : List ByteArray}, u ∈ l ↔ ∃ i : Nat, l[i]? = some u := by
  intro l
  exact List.mem_iff_getElem?
theorem lksGo_iff : ∀ (l a : List ByteArray), lksGo a l = true ↔ (allMay l ∧ (∀ (j : Nat) (u : ByteArray), l[j]? = some u → u ∉ a) ∧ dst l)
  | [], a => by
    simp only [lksGo, true_iff]
    exact ⟨fun i u h => by simp at h, fun i u h => by simp at h, fun i j u _ h => by simp at h⟩
  | u :: l, a => by
    rw [lksGo]
    simp only [Bool.and_eq_true, Bool.not_eq_true', memT_no]
    rw [lksGo_iff l (a ++ [u])]
    constructor
    · rintro ⟨h1, h2, h3, h4, h5⟩
      refine ⟨fun i x hx => ?_, fun i x hx => ?_, fun i j x hij hx hy => ?_⟩
      · cases i with
        | zero => injection hx with hx; subst hx; exact h1
        | succ i => exact h3 i x hx
      · cases i with
        | zero => injection hx with hx; subst hx; exact h2
        | succ i => exact fun hm => h4 i x hx (List.mem_append.2 (.inl hm))
      · cases j with
        | zero => omega
        | succ j =>
          cases i with
          | zero =>
            injection hx with hx; subst hx
            exact h4 j u hy (List.mem_append.2 (.inr (List.mem_singleton.2 rfl)))
          | succ i => exact h5 i j x (by omega) hx hy
    · rintro ⟨h1, h2, h3⟩
      refine ⟨h1 0 u rfl, h2 0 u rfl, fun i x hx => h1 (i + 1) x hx, fun i x hx hm => ?_, fun i j x hij hx hy => h3 (i + 1) (j + 1) x (by omega) hx hy⟩
      rcases List.mem_append.1 hm with hm | hm
      · exact h2 (i + 1) x hx hm
      · rw [List.mem_singleton] at hm
        subst hm
        exact h3 0 (i + 1) x (by omega) rfl hx

theorem size_empty : (⟨#[]⟩ : ByteArray).size = 0 := rfl
theorem leads_pos {ls : List ByteArray} {n : Int} (h0 : 0 ≤ n) (h : 0 < (leadsL ls n).size) : 1 ≤ n ∧ ls[(n - 1).toNat]? = some (leadsL ls n) ∧ uriMay (leadsL ls n) = true ∧ n ≤ ls.length := by
  unfold leadsL at h ⊢
  split at h
  · rw [size_empty] at h; omega
  · rename_i h1
    rw [if_neg h1]
    split at h
    · rename_i u hu
      rw [hu]
      split at h
      · rename_i hm
        simp only [if_pos hm]
        have := (List.getElem?_eq_some_iff.1 hu).1
        exact ⟨by omega, trivial, hm, by omega⟩
      · rw [size_empty] at h; omega
    · rw [size_empty] at h; omega
theorem leads_some {ls : List ByteArray} {n : Int} {u : ByteArray} (h1 : 1 ≤ n) (hu : ls[(n - 1).toNat]? = some u) (hm : uriMay u = true) : leadsL ls n = u := by
  unfold leadsL
  rw [if_neg (by omega), hu]
  simp only [if_pos hm]
theorem leads_zero (ls : List ByteArray) : (leadsL ls 0).size = 0 := rfl
theorem placeL_le (s : ByteArray) : ∀ l, placeL s l ≤ l.length
  | [] => Nat.le_refl _
  | u :: l => by
    have := placeL_le s l
    rw [placeL]; split <;> simp <;> omega
theorem placeL_get {s : ByteArray} : ∀ {l : List ByteArray}, placeL s l < l.length → l[placeL s l]? = some s
  | [], h => by simp [placeL] at h
  | u :: l, h => by
    rw [placeL] at h ⊢
    split at h
    · rename_i e; rw [if_pos e, e]; rfl
    · rename_i e
      rw [if_neg e]
      simp only [List.getElem?_cons_succ]
      exact placeL_get (by simpa using h)
theorem placeL_none {s : ByteArray} : ∀ {l : List ByteArray}, placeL s l = l.length → s ∉ l
  | [], _ => by simp
  | u :: l, h => by
    rw [placeL] at h
    split at h
    · simp at h
    · rename_i e
      simp only [List.length_cons, Nat.add_right_cancel_iff] at h
      intro hm
      rcases List.mem_cons.1 hm with rfl | hm
      · exact e rfl
      · exact placeL_none h hm
theorem placeL_mem {s : ByteArray} {l : List ByteArray} (h : s ∈ l) : placeL s l < l.length := by
  have h1 := placeL_le s l
  rcases Nat.lt_or_ge (placeL s l) l.length with h2 | h2
  · exact h2
  · exact absurd h (placeL_none (by omega))
theorem placeL_dst {ls : List ByteArray} (hd : dst ls) {i : Nat} {u : ByteArray} (h : ls[i]? = some u) : placeL u ls = i := by
  have hm : u ∈ ls := mem_get?.2 ⟨i, h⟩
  have h1 := placeL_get (placeL_mem hm)
  rcases Nat.lt_trichotomy (placeL u ls) i with h2 | h2 | h2
  · exact absurd h (hd _ _ _ h2 h1)
  · exact h2
  · exact absurd h1 (hd _ _ _ h2 h)
/-- The list that Canon makes begins with the one that it has. -/
theorem canGo_pre (ls : List ByteArray) : ∀ (l : List CeD) (m : List ByteArray), ∃ r, canGo ls m l = m ++ r
  | [], m => ⟨[], by simp [canGo]⟩
  | c :: l, m => by
    rw [canGo]
    split
    · obtain ⟨r, h⟩ := canGo_pre ls l (m ++ [leadsL ls c.ln])
      exact ⟨leadsL ls c.ln :: r, by rw [h]; simp⟩
    · exact canGo_pre ls l m
theorem dst_snoc {m : List ByteArray} {u : ByteArray} (h : dst m) (hu : u ∉ m) : dst (m ++ [u]) := by
  intro i j x hij hx hy
  have hj := (List.getElem?_eq_some_iff.1 hy).1
  simp only [List.length_append, List.length_cons, List.length_nil] at hj
  rw [List.getElem?_append_left (by omega)] at hx
  rcases Nat.lt_or_ge j m.length with h1 | h1
  · rw [List.getElem?_append_left h1] at hy
    exact h i j x hij hx hy
  · have : j = m.length := by omega
    subst this
    rw [List.getElem?_append_right (Nat.le_refl _), Nat.sub_self] at hy
    injection hy with hy
    subst hy
    exact hu (mem_get?.2 ⟨i, hx⟩)
theorem allMay_snoc {m : List ByteArray} {u : ByteArray} (h : allMay m) (hu : uriMay u = true) : allMay (m ++ [u]) := by
  intro i x hx
  have hj := (List.getElem?_eq_some_iff.1 hx).1
  simp only [List.length_append, List.length_cons, List.length_nil] at hj
  rcases Nat.lt_or_ge i m.length with h1 | h1
  · rw [List.getElem?_append_left h1] at hx
    exact h i x hx
  · have : i = m.length := by omega
    subst this
    rw [List.getElem?_append_right (Nat.le_refl _), Nat.sub_self] at hx
    injection hx with hx
    subst hx
    exact hu
theorem canGo_good (ls : List ByteArray) : ∀ (l : List CeD) (m : List ByteArray), (∀ c ∈ l, 0 ≤ c.ln) → allMay m → dst m → allMay (canGo ls m l) ∧ dst (canGo ls m l)
  | [], m, _, h1, h2 => ⟨h1, h2⟩
  | c :: l, m, h0, h1, h2 => by
    rw [canGo]
    have h0' := fun c' hc => h0 c' (List.mem_cons_of_mem c hc)
    split
    · rename_i h
      obtain ⟨q1, q2, q3, q4⟩ := leads_pos (h0 c (List.mem_cons_self ..)) h.1
      exact canGo_good ls l _ h0' (allMay_snoc h1 q3) (dst_snoc h2 (placeL_none h.2))
    · exact canGo_good ls l m h0' h1 h2
theorem take_snoc {ls : List ByteArray} {t : Nat} {u : ByteArray} (h : ls[t]? = some u) : ls.take (t + 1) = ls.take t ++ [u] := by
  have ht := (List.getElem?_eq_some_iff.1 h).1
  rw [List.take_succ_eq_append_getElem ht]
  rw [List.getElem?_eq_getElem ht] at h
  injection h with h
  rw [h]
/-- What is right by the program's way is what Canon makes of it. -/
theorem top_can {ls : List ByteArray} (ha : allMay ls) (hd : dst ls) : ∀ (l : List CeD) (t : Nat), (∀ c ∈ l, 0 ≤ c.ln) → t ≤ ls.length → topGo ls.length t l = some (ls.length : Int) → canGo ls (ls.take t) l = ls ∧ ∀ c ∈ l, c.ln ≤ ls.length
  | [], t, _, ht, h => by
    rw [topGo] at h
    injection h with h
    have : t = ls.length := by omega
    subst this
    exact ⟨by rw [canGo, List.take_length], by simp⟩
  | c :: l, t, h0, ht, h => by
    rw [topGo] at h
    have hc := h0 c (List.mem_cons_self ..)
    have h0' := fun c' hc => h0 c' (List.mem_cons_of_mem c hc)
    split at h
    · cases h
    rename_i hn
    rw [canGo]
    have hall : ∀ (P : Prop), (∀ c' ∈ l, c'.ln ≤ ls.length) → ∀ c' ∈ c :: l, c'.ln ≤ ls.length := by
      intro _ hl c' hc'
      rcases List.mem_cons.1 hc' with rfl | hc'
      · omega
      · exact hl c' hc'
    split at h
    · rename_i hlt
      have e : c.ln = ((t + 1 : Nat) : Int) := by omega
      have hT : t < ls.length := by omega
      have hu : ls[t]? = some ls[t] := List.getElem?_eq_getElem hT
      have hl : leadsL ls c.ln = ls[t] := leads_some (by omega) (by rw [e, show (((t + 1 : Nat) : Int) - 1).toNat = t by omega]; exact hu) (ha t _ hu)
      have hnot : ls[t] ∉ ls.take t := by
        intro hm
        obtain ⟨i, hi⟩ := mem_get?.1 hm
        have hit := (List.getElem?_eq_some_iff.1 hi).1
        rw [List.length_take] at hit
        rw [List.getElem?_take, if_pos (by omega)] at hi
        exact hd i t _ (by omega) hi hu
      have hp : placeL ls[t] (ls.take t) = (ls.take t).length := by
        have h1 := placeL_le ls[t] (ls.take t)
        rcases Nat.lt_or_ge (placeL ls[t] (ls.take t)) (ls.take t).length with h2 | h2
        · exact absurd (mem_get?.2 ⟨_, placeL_get h2⟩) hnot
        · omega
      rw [hl, if_pos ⟨uriMay_pos (ha t _ hu), hp⟩, ← take_snoc hu]
      rw [e] at h
      obtain ⟨r1, r2⟩ := top_can ha hd l (t + 1) h0' (by omega) h
      exact ⟨r1, hall True r2⟩
    · rename_i hge
      obtain ⟨r1, r2⟩ := top_can ha hd l t h0' ht h
      refine ⟨?_, hall True r2⟩
      rw [if_neg, r1]
      rintro ⟨q1, q2⟩
      obtain ⟨p1, p2, p3, p4⟩ := leads_pos hc q1
      refine placeL_none q2 (mem_get?.2 ⟨(c.ln - 1).toNat, ?_⟩)
      rw [List.getElem?_take, if_pos (by omega)]
      exact p2
theorem numC_self {ls : List ByteArray} (ha : allMay ls) (hd : dst ls) {n : Int} (h0 : 0 ≤ n) (hn : n ≤ ls.length) : numC ls ls n = n := by
  unfold numC
  rcases Int.lt_or_le n 1 with h1 | h1
  · have : n = 0 := by omega
    subst this
    rw [if_neg (by rw [leads_zero]; omega)]
  · have hT : (n - 1).toNat < ls.length := by omega
    have hu : ls[(n - 1).toNat]? = some ls[(n - 1).toNat] := List.getElem?_eq_getElem hT
    have hl := leads_some h1 hu (ha _ _ hu)
    rw [hl, if_pos (uriMay_pos (ha _ _ hu)), placeL_dst hd hu, if_neg (by omega)]
    omega
/-- .. and the other way round. -/
theorem can_top {ls : List ByteArray} (hd : dst ls) : ∀ (l : List CeD) (t : Nat), (∀ c ∈ l, 0 ≤ c.ln) → t ≤ ls.length → canGo ls (ls.take t) l = ls → (∀ c ∈ l, numC ls ls c.ln = c.ln) → topGo ls.length t l = some (ls.length : Int)
  | [], t, _, ht, h, _ => by
    rw [canGo] at h
    have h1 := congrArg List.length h
    rw [List.length_take] at h1
    rw [topGo]; congr 1; omega
  | c :: l, t, h0, ht, h, hn => by
    have hc := h0 c (List.mem_cons_self ..)
    have h0' := fun c' hc => h0 c' (List.mem_cons_of_mem c hc)
    have hn' := fun c' hc => hn c' (List.mem_cons_of_mem c hc)
    have hcn := hn c (List.mem_cons_self ..)
    rw [canGo] at h
    rw [topGo]
    have htl : (ls.take t).length = t := by rw [List.length_take]; omega
    rcases Int.lt_or_le c.ln 1 with h1 | h1
    · have e : c.ln = 0 := by omega
      rw [e] at h ⊢
      rw [if_neg (by rw [leads_zero]; omega)] at h
      rw [if_neg (by omega), if_neg (by omega)]
      exact can_top hd l t h0' ht h hn'
    · unfold numC at hcn
      split at hcn
      · rename_i hp
        obtain ⟨p1, p2, p3, p4⟩ := leads_pos hc hp
        split at h
        · rename_i hq
          obtain ⟨r, hr⟩ := canGo_pre ls l (ls.take t ++ [leadsL ls c.ln])
          rw [h] at hr
          have hg : ls[t]? = some (leadsL ls c.ln) := by
            obtain ⟨u, hu⟩ : ∃ u, u = leadsL ls c.ln := ⟨_, rfl⟩
            rw [← hu] at hr ⊢
            have h7 : (ls.take t ++ [u] ++ r)[t]? = some u := by
              rw [List.append_assoc, List.getElem?_append_right (by omega), htl, Nat.sub_self]; rfl
            rw [← hr] at h7
            exact h7
          have e : (c.ln - 1).toNat = t := by
            rcases Nat.lt_trichotomy (c.ln - 1).toNat t with h2 | h2 | h2
            · exact absurd hg (hd _ _ _ h2 p2)
            · exact h2
            · exact absurd p2 (hd _ _ _ h2 hg)
          rw [if_neg (by omega), if_pos (by omega)]
          have e2 : c.ln = ((t + 1 : Nat) : Int) := by omega
          rw [e2]
          refine can_top hd l (t + 1) h0' (by omega) ?_ hn'
          rw [take_snoc hg]; exact h
        · rename_i hq
          have hlt : placeL (leadsL ls c.ln) (ls.take t) < (ls.take t).length := by
            have := placeL_le (leadsL ls c.ln) (ls.take t)
            rcases Nat.lt_or_ge (placeL (leadsL ls c.ln) (ls.take t)) (ls.take t).length with h2 | h2
            · exact h2
            · exact absurd ⟨hp, by omega⟩ hq
          have hg := placeL_get hlt
          rw [htl] at hlt
          rw [List.getElem?_take, if_pos hlt] at hg
          have e : (c.ln - 1).toNat < t := by
            rcases Nat.lt_trichotomy (c.ln - 1).toNat (placeL (leadsL ls c.ln) (ls.take t)) with h2 | h2 | h2
            · omega
            · omega
            · exact absurd p2 (hd _ _ _ h2 hg)
          rw [if_neg (by omega), if_neg (by omega)]
          exact can_top hd l t h0' ht h hn'
      · omega
theorem lnk_eq (l : List CeD) (ls : List ByteArray) (h0 : ∀ c ∈ l, 0 ≤ c.ln) : lnkP l ls = lnkR l ls := by
  rw [lnkP, lnkR]
  congr 1
  rw [Bool.eq_iff_iff]
  simp only [Bool.and_eq_true, decide_eq_true_eq, List.all_eq_true]
  constructor
  · rintro ⟨h1, h2⟩
    obtain ⟨ha, -, hd⟩ := (lksGo_iff ls []).1 h1
    obtain ⟨r1, r2⟩ := top_can ha hd l 0 h0 (Nat.zero_le _) h2
    rw [List.take_zero] at r1
    refine ⟨fun c hc => ?_, r1⟩
    rw [r1]
    exact numC_self ha hd (h0 c hc) (r2 c hc)
  · rintro ⟨h1, h2⟩
    obtain ⟨ha, hd⟩ := canGo_good ls l [] h0 (fun i u h => by simp at h) (fun i j u _ h => by simp at h)
    rw [h2] at ha hd h1
    refine ⟨(lksGo_iff ls []).2 ⟨ha, fun _ _ _ h => by simp at h, hd⟩, ?_⟩
    exact can_top hd l 0 h0 (Nat.zero_le _) (by rw [List.take_zero]; exact h2) h1
end Go.Proofs.YtndjggabdajbfaaGreatDoor



/- What links.May and the reference's May answer of a link's text; slices.Index, Contains of texts. Conditions: lengths that fit. -/
namespace Go.Proofs.YtndjggabdajbfaaGreatDoor
open Go Go.RowKit

theorem bytesOf_len (s : ByteArray) : (bytesOf s).length = s.size := by rw [bytesOf, Array.length_toList]; rfl
theorem drop_byte {s : ByteArray} {k : Nat} (h : k < s.size) : (bytesOf s).drop k = s[k]'h :: (bytesOf s).drop (k + 1) := by
  rw [List.drop_eq_getElem_cons (by rw [bytesOf_len]; exact h)]
  rfl
set_option maxRecDepth 100000 in
set_option maxHeartbeats 4000000 in
theorem uriMay_c (s : ByteArray) (w : World) (hs : s.size ≤ 140737488355328) : Calls Tryz.prog 74 #[.string s] w fun e w' => e = .returned (.bool (uriMay s)) ∧ w' = w := by
  obtain ⟨R, eR⟩ : ∃ R, uriMay s = R := ⟨_, rfl⟩
  rw [eR]
  have ER := Lib.hid eR
  obtain ⟨n, en⟩ : ∃ n, s.size = n := ⟨_, rfl⟩
  have EN := Lib.hid en
  rw [en] at hs
  clear eR
  go_enter Tryz.func74, Tryz.ntmps74
  go_wp2_with (fail)
  go_loopw [6] (fun i wr => ∃ k : Nat, k ≤ n ∧ i = .int .i64 k ∧ Hid ((bytesOf s).all uriByte = ((bytesOf s).drop k).all uriByte) ∧ wr = w) (fun i _ => n - (intOf i).toNat)
  case atStart => exact ⟨0, Nat.zero_le _, rfl, Lib.hid rfl, rfl⟩
  case round =>
    obtain ⟨k, hk, rfl, HG, rfl⟩ := hrel
    rcases Nat.lt_or_ge k n with hlt | hge
    · have hlt' : (k : Int) < (n : Int) := by omega
      have hks : k < s.size := by omega
      obtain ⟨x, ex⟩ : ∃ x, x = s[k]'hks := ⟨_, rfl⟩
      have hd := drop_byte hks
      rw [← ex] at hd
      obtain ⟨b1, e1⟩ : ∃ b, decide (((x.toNat : Nat) : Int) < 33) = b := ⟨_, rfl⟩
      obtain ⟨b2, e2⟩ : ∃ b, decide (126 < ((x.toNat : Nat) : Int)) = b := ⟨_, rfl⟩
      have hu : Hid (uriByte x = (!b1 && !b2)) := Lib.hid (by
        rw [← e1, ← e2, uriByte, ← decide_not, ← decide_not]
        congr 1 <;> exact decide_eq_decide.2 (by omega))
      have HG2 : Hid ((bytesOf s).all uriByte = (uriByte x && ((bytesOf s).drop (k + 1)).all uriByte)) := Lib.hid (by rw [HG.out, hd, List.all_cons])
      rw [ex] at e1 e2
      have EX := Lib.hid ex
      clear hd HG ex
      cases b1
      · cases b2
        · go_wp2_with (fail)
          go_roundw
          case rel => exact ⟨k + 1, by omega, by go_num, Lib.hid (by rw [HG2.out, hu.out]; rfl), trivial⟩
          case measure => simp [intOf]; omega
        · have HR : Hid (R = false) := Lib.hid (by rw [← ER.out, uriMay, HG2.out, hu.out]; rfl)
          go_wp2_with (fail)
          go_ret
          exact ⟨by rw [HR.out] <;> rfl, rfl⟩
      · have HR : Hid (R = false) := Lib.hid (by rw [← ER.out, uriMay, HG2.out, hu.out]; rfl)
        go_wp2_with (fail)
        go_ret
        exact ⟨by rw [HR.out] <;> rfl, rfl⟩
    · obtain rfl : n = k := by omega
      have hge' : ¬ ((n : Int) < (n : Int)) := by omega
      have ht : (bytesOf s).all uriByte = true := by rw [HG.out, List.drop_of_length_le (by rw [bytesOf_len]; omega)]; rfl
      obtain ⟨b1, e1⟩ : ∃ b, decide ((1 : Int) ≤ (n : Int)) = b := ⟨_, rfl⟩
      obtain ⟨b2, e2⟩ : ∃ b, decide ((n : Int) ≤ 64) = b := ⟨_, rfl⟩
      have HR : Hid (R = (b1 && b2)) := Lib.hid (by
        rw [← ER.out, uriMay, ht, EN.out, ← e1, ← e2, Bool.true_and]
        congr 1 <;> exact decide_eq_decide.2 (by omega))
      clear ht
      cases b1 <;> cases b2 <;>
      · go_wp2_with (fail)
        go_ret
        exact ⟨by rw [HR.out] <;> rfl, rfl⟩
set_option maxRecDepth 100000 in
set_option maxHeartbeats 4000000 in
theorem refUri_c (s : ByteArray) (w : World) (hs : s.size ≤ 140737488355328) : Calls Tryz.prog 98 #[.string s] w fun e w' => e = .returned (.bool (uriMay s)) ∧ w' = w := by
  obtain ⟨R, eR⟩ : ∃ R, uriMay s = R := ⟨_, rfl⟩
  rw [eR]
  have ER := Lib.hid eR
  obtain ⟨n, en⟩ : ∃ n, s.size = n := ⟨_, rfl⟩
  have EN := Lib.hid en
  rw [en] at hs
  rcases Nat.eq_zero_or_pos n with h0 | h0
  · have HR : Hid (R = false) := Lib.hid (by rw [← ER.out, uriMay, en, decide_eq_false (p := 1 ≤ n) (by omega)]; simp)
    have d0 : ((n : Int) == 0) = true := by rw [beq_iff_eq]; omega
    clear eR h0
    go_enter Tryz.func98, Tryz.ntmps98
    go_wp2_with (fail)
    go_ret
    exact ⟨by rw [HR.out] <;> rfl, rfl⟩
  have d0 : ((n : Int) == 0) = false := by rw [beq_eq_false_iff_ne]; omega
  rcases Nat.lt_or_ge 64 n with h6 | h6
  · have HR : Hid (R = false) := Lib.hid (by rw [← ER.out, uriMay, en, decide_eq_false (p := n ≤ 64) (by omega)]; simp)
    have d1 : decide (64 < (n : Int)) = true := decide_eq_true (by omega)
    clear eR h0 h6
    go_enter Tryz.func98, Tryz.ntmps98
    go_wp2_with (fail)
    go_ret
    exact ⟨by rw [HR.out] <;> rfl, rfl⟩
  have d1 : decide (64 < (n : Int)) = false := decide_eq_false (by omega)
  clear eR
  go_enter Tryz.func98, Tryz.ntmps98
  go_wp2_with (fail)
  go_loopw [3] (fun i wr => ∃ k : Nat, k ≤ n ∧ i = .int .i64 k ∧ Hid ((bytesOf s).all uriByte = ((bytesOf s).drop k).all uriByte) ∧ wr = w) (fun i _ => n - (intOf i).toNat)
  case atStart => exact ⟨0, Nat.zero_le _, rfl, Lib.hid rfl, rfl⟩
  case round =>
    obtain ⟨k, hk, rfl, HG, rfl⟩ := hrel
    rcases Nat.lt_or_ge k n with hlt | hge
    · have hlt' : (k : Int) < (n : Int) := by omega
      have hks : k < s.size := by omega
      obtain ⟨x, ex⟩ : ∃ x, x = s[k]'hks := ⟨_, rfl⟩
      have hd := drop_byte hks
      rw [← ex] at hd
      obtain ⟨b1, e1⟩ : ∃ b, decide (((x.toNat : Nat) : Int) ≤ 32) = b := ⟨_, rfl⟩
      obtain ⟨b2, e2⟩ : ∃ b, decide (127 ≤ ((x.toNat : Nat) : Int)) = b := ⟨_, rfl⟩
      have hu : Hid (uriByte x = (!b1 && !b2)) := Lib.hid (by
        rw [← e1, ← e2, uriByte, ← decide_not, ← decide_not]
        congr 1 <;> exact decide_eq_decide.2 (by omega))
      have HG2 : Hid ((bytesOf s).all uriByte = (uriByte x && ((bytesOf s).drop (k + 1)).all uriByte)) := Lib.hid (by rw [HG.out, hd, List.all_cons])
      rw [ex] at e1 e2
      have EX := Lib.hid ex
      clear hd HG ex
      cases b1
      · cases b2
        · go_wp2_with (fail)
          go_roundw
          case rel => exact ⟨k + 1, by omega, by go_num, Lib.hid (by rw [HG2.out, hu.out]; rfl), trivial⟩
          case measure => simp [intOf]; omega
        · have HR : Hid (R = false) := Lib.hid (by rw [← ER.out, uriMay, HG2.out, hu.out]; rfl)
          go_wp2_with (fail)
          go_ret
          exact ⟨by rw [HR.out] <;> rfl, rfl⟩
      · have HR : Hid (R = false) := Lib.hid (by rw [← ER.out, uriMay, HG2.out, hu.out]; rfl)
        go_wp2_with (fail)
        go_ret
        exact ⟨by rw [HR.out] <;> rfl, rfl⟩
    · obtain rfl : n = k := by omega
      have hge' : ¬ ((n : Int) < (n : Int)) := by omega
      have ht : (bytesOf s).all uriByte = true := by rw [HG.out, List.drop_of_length_le (by rw [bytesOf_len]; omega)]; rfl
      have HR : Hid (R = true) := Lib.hid (by
        rw [← ER.out, uriMay, ht, EN.out, decide_eq_true (by omega), decide_eq_true (by omega)]; rfl)
      clear ht
      go_wp2_with (fail)
      go_ret
      exact ⟨by rw [HR.out] <;> rfl, rfl⟩
/-! ### Texts in rows -/
theorem run_txtEq (a b : ByteArray) (w : World) : (binOp .eql 9 (.string a) (.string b)).run Tryz.prog w = .ok (.bool (decide (a = b))) w := by
  have : (a.toList == b.toList) = decide (a = b) := by
    rw [← beq_toListBytes]
    by_cases h : a = b
    · subst h; rw [decide_eq_true rfl, beq_toListBytes]; exact beq_self_eq_true _
    · rw [decide_eq_false h, beq_toListBytes, beq_eq_false_iff_ne]
      intro e
      apply h
      rw [ByteArray.toList_eq, ByteArray.toList_eq] at e
      cases a; cases b
      congr 1
      exact Array.toList_inj.1 e
  rw [← this]
  simp [go_sem]
theorem txt_ne {a b : ByteArray} (h : a ≠ b) : (a == b) = false := by
  rw [beq_toListBytes, beq_eq_false_iff_ne]
  intro e
  apply h
  rw [ByteArray.toList_eq, ByteArray.toList_eq] at e
  cases a; cases b
  congr 1
  exact Array.toList_inj.1 e
/-- Where a text stands first; -1: nowhere. -/
def posT (u : ByteArray) (ss : List ByteArray) : Int := if placeL u ss = ss.length then -1 else (placeL u ss : Int)
theorem posT_mem (u : ByteArray) (ss : List ByteArray) : decide (0 ≤ posT u ss) = memT u ss := by
  unfold posT
  cases h : memT u ss with
  | true =>
    have hm : u ∈ ss := by
      by_cases hm : u ∈ ss
      · exact hm
      · rw [(memT_no u ss).2 hm] at h; cases h
    have := placeL_mem hm
    rw [if_neg (by omega)]
    exact decide_eq_true (by omega)
  | false =>
    have hm := (memT_no u ss).1 h
    have h1 := placeL_le u ss
    have : placeL u ss = ss.length := by
      rcases Nat.lt_or_ge (placeL u ss) ss.length with h2 | h2
      · exact absurd (mem_get?.2 ⟨_, placeL_get h2⟩) hm
      · omega
    rw [if_pos this]; rfl
set_option maxRecDepth 100000 in
set_option maxHeartbeats 4000000 in
theorem IndexT_c (A : Option Addr) (n c : Nat) (ss : List ByteArray) (u : ByteArray) (w : World) (hn : ss.length = n) (hr : RdT w A ss) (hl : n ≤ 140737488355328) :
    Calls Tryz.prog 91 #[.slice A n c, .string u] w fun e w' => e = .returned (.int .i64 (posT u ss)) ∧ w' = w := by
  obtain ⟨R, eR⟩ : ∃ R, posT u ss = R := ⟨_, rfl⟩
  rw [eR]
  have ER := Lib.hid eR
  have HN := Lib.hid hn
  have HRD := Lib.hid hr
  clear eR hn hr
  go_enter Tryz.func91, Tryz.ntmps91
  go_wp2_with (fail)
  go_loopw [8] (fun i wr => ∃ k : Nat, k ≤ n ∧ i = .int .i64 k ∧ Hid (placeL u ss = k + placeL u (ss.drop k)) ∧ wr = w) (fun i _ => n - (intOf i).toNat)
  case atStart => exact ⟨0, Nat.zero_le _, rfl, Lib.hid (by simp), rfl⟩
  case round =>
    obtain ⟨k, hk, rfl, HG, rfl⟩ := hrel
    rcases Nat.lt_or_ge k n with hlt | hge
    · have hlt' : (k : Int) < (n : Int) := by omega
      have hkl : k < ss.length := by rw [HN.out]; exact hlt
      obtain ⟨b, off, rfl, hb, hc⟩ := HRD.out.addr (by omega)
      have c0 := hc k hkl
      obtain ⟨x, ex⟩ : ∃ x, x = ss[k] := ⟨_, rfl⟩
      have hd : ss.drop k = x :: ss.drop (k + 1) := by rw [List.drop_eq_getElem_cons hkl, ex]
      rw [← ex] at c0
      have HD := Lib.hid hd
      clear hd hc ex
      by_cases he : x = u
      · have HRR : Hid (R = (k : Int)) := Lib.hid (by
          have h0 : placeL u ss = k := by rw [HG.out, HD.out, placeL, if_pos he]; rfl
          rw [← ER.out, posT, h0, if_neg (by omega)])
        subst he
        go_wp2_with (fail)
        go_ret
        exact ⟨by rw [HRR.out] <;> rfl, rfl⟩
      · have e1 : (u.toList == x.toList) = false := by rw [← beq_toListBytes]; exact txt_ne (fun e => he e.symm)
        have e2 : (x.toList == u.toList) = false := by rw [← beq_toListBytes]; exact txt_ne he
        have HG2 : Hid (placeL u ss = (k + 1) + placeL u (ss.drop (k + 1))) := Lib.hid (by rw [HG.out, HD.out, placeL, if_neg he]; omega)
        clear he
        go_wp2_with (fail)
        go_roundw
        case rel => exact ⟨k + 1, by omega, by go_num, HG2, trivial⟩
        case measure => simp [intOf]; omega
    · obtain rfl : n = k := by omega
      have hge' : ¬ ((n : Int) < (n : Int)) := by omega
      have HRR : Hid (R = -1) := Lib.hid (by
        have h0 : placeL u ss = ss.length := by rw [HG.out, List.drop_of_length_le (by have := HN.out; omega), placeL, HN.out]; rfl
        rw [← ER.out, posT, if_pos h0])
      go_wp2_with (fail)
      go_ret
      exact ⟨by rw [HRR.out] <;> rfl, rfl⟩
set_option maxRecDepth 100000 in
set_option maxHeartbeats 4000000 in
theorem refPlace_c (A : Option Addr) (n c : Nat) (ss : List ByteArray) (u : ByteArray) (w : World) (hn : ss.length = n) (hr : RdT w A ss) (hl : n ≤ 140737488355328) :
    Calls Tryz.prog 95 #[.slice A n c, .string u] w fun e w' => e = .returned (.int .i64 (posT u ss)) ∧ w' = w := by
  obtain ⟨R, eR⟩ : ∃ R, posT u ss = R := ⟨_, rfl⟩
  rw [eR]
  have ER := Lib.hid eR
  have HN := Lib.hid hn
  have HRD := Lib.hid hr
  clear eR hn hr
  go_enter Tryz.func95, Tryz.ntmps95
  go_wp2_with (fail)
  go_loopw [5] (fun i wr => ∃ k : Nat, k ≤ n ∧ i = .int .i64 k ∧ Hid (placeL u ss = k + placeL u (ss.drop k)) ∧ wr = w) (fun i _ => n - (intOf i).toNat)
  case atStart => exact ⟨0, Nat.zero_le _, rfl, Lib.hid (by simp), rfl⟩
  case round =>
    obtain ⟨k, hk, rfl, HG, rfl⟩ := hrel
    rcases Nat.lt_or_ge k n with hlt | hge
    · have hlt' : (k : Int) < (n : Int) := by omega
      have hkl : k < ss.length := by rw [HN.out]; exact hlt
      obtain ⟨b, off, rfl, hb, hc⟩ := HRD.out.addr (by omega)
      have c0 := hc k hkl
      obtain ⟨x, ex⟩ : ∃ x, x = ss[k] := ⟨_, rfl⟩
      have hd : ss.drop k = x :: ss.drop (k + 1) := by rw [List.drop_eq_getElem_cons hkl, ex]
      rw [← ex] at c0
      have HD := Lib.hid hd
      clear hd hc ex
      by_cases he : x = u
      · have HRR : Hid (R = (k : Int)) := Lib.hid (by
          have h0 : placeL u ss = k := by rw [HG.out, HD.out, placeL, if_pos he]; rfl
          rw [← ER.out, posT, h0, if_neg (by omega)])
        subst he
        go_wp2_with (fail)
        go_ret
        exact ⟨by rw [HRR.out] <;> rfl, rfl⟩
      · have e1 : (u.toList == x.toList) = false := by rw [← beq_toListBytes]; exact txt_ne (fun e => he e.symm)
        have e2 : (x.toList == u.toList) = false := by rw [← beq_toListBytes]; exact txt_ne he
        have HG2 : Hid (placeL u ss = (k + 1) + placeL u (ss.drop (k + 1))) := Lib.hid (by rw [HG.out, HD.out, placeL, if_neg he]; omega)
        clear he
        go_wp2_with (fail)
        go_roundw
        case rel => exact ⟨k + 1, by omega, by go_num, HG2, trivial⟩
        case measure => simp [intOf]; omega
    · obtain rfl : n = k := by omega
      have hge' : ¬ ((n : Int) < (n : Int)) := by omega
      have HRR : Hid (R = -1) := Lib.hid (by
        have h0 : placeL u ss = ss.length := by rw [HG.out, List.drop_of_length_le (by have := HN.out; omega), placeL, HN.out]; rfl
        rw [← ER.out, posT, if_pos h0])
      go_wp2_with (fail)
      go_ret
      exact ⟨by rw [HRR.out] <;> rfl, rfl⟩
set_option maxRecDepth 100000 in
set_option maxHeartbeats 4000000 in
theorem ContainsT_c (A : Option Addr) (n c : Nat) (ss : List ByteArray) (u : ByteArray) (w : World) (hn : ss.length = n) (hr : RdT w A ss) (hl : n ≤ 140737488355328) :
    Calls Tryz.prog 75 #[.slice A n c, .string u] w fun e w' => e = .returned (.bool (memT u ss)) ∧ w' = w := by
  have ix := IndexT_c A n c ss u w hn hr hl
  have hm := posT_mem u ss
  obtain ⟨P, eP⟩ : ∃ P, posT u ss = P := ⟨_, rfl⟩
  obtain ⟨B, eB⟩ : ∃ B, memT u ss = B := ⟨_, rfl⟩
  rw [eP] at ix hm
  rw [eB] at hm ⊢
  have IX := Lib.hid ix
  clear ix hn hr eP eB
  go_enter Tryz.func75, Tryz.ntmps75
  go_wp2_with (go_at_call 91; refine IX.out.mono ?_; rintro _ _ ⟨rfl, rfl⟩)
  go_ret
  exact ⟨rfl, rfl⟩
end Go.Proofs.YtndjggabdajbfaaGreatDoor


