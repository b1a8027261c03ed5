/- Parts one behind the other: What utf.Width and the reference's Width answer: how many columns a rune takes. Conditions: as told at each. -/
import Derived.Test.YtndjggabdajbfaaGreatDoorPG1

set_option linter.unusedVariables false
set_option linter.unusedSimpArgs false
/- What utf.Width and the reference's Width answer: how many columns a rune takes. Conditions: the two tables stand. -/
namespace Go.Proofs.YtndjggabdajbfaaGreatDoor
open Go Go.RowKit

/-- A table as it lies. -/
def TabAt (w : World) (g : Nat) (vs : List Value) : Prop := g < w.heap.size ∧ ∀ i (h : i < vs.length), w.cell? ⟨g, i, none⟩ = some vs[i]
theorem TabAt.below {w w' : World} {B g : Nat} {vs : List Value} (h : TabAt w g vs) (hb : Below B w w') (hB : g < B) : TabAt w' g vs :=
  ⟨Nat.lt_of_lt_of_le h.1 hb.size, fun i hi => (World.cell?_of_block (w := w) (a := ⟨g, i, none⟩) (hb.block g hB)).trans (h.2 i hi)⟩
def rngV (l : List (Int × Int)) : List Value := l.flatMap fun p => [.int .i32 p.1, .int .i32 p.2]
def TabU (w : World) : Prop := TabAt w 0 (rngV noneL) ∧ TabAt w 1 (rngV wideL)
theorem TabU.below {w w' : World} {B : Nat} (h : TabU w) (hb : Below B w w') (hB : 1 < B) : TabU w' := ⟨h.1.below hb (by omega), h.2.below hb hB⟩
theorem TabU.next {w w' : World} (h : TabU w) (hb : Below w.heap.size w w') : TabU w' := h.below hb h.2.1
theorem TabU.size {w : World} (h : TabU w) : 1 < w.heap.size := h.2.1

/-- A load of a whole struct or array, out of what its cells read as. -/
theorem wpList_load_cells {P : Program} {ops : Array Oper} {rest : List Oper} {o : Oper} {a : Act} {w : World} {Q : Exit → Act → World → Prop} (hgd : o.guard = none) (ty : TypeId) (x : Operand) (ho : o.op = .load ty x)
    (ad : Addr) (hx : a.eval x = .pointer (some ad)) (vs : List Value) (V : Value) (hV : V = .agg vs.toArray) (d : TypeDesc) (hc : ∀ j v, vs[j]? = some v → w.cell? (ad.add j) = some v)
    (hu : P.underlying ty = some d) (hd : (match d with | .struct _ | .array _ _ => true | _ => false) = true) (hi : (P.info? ty).map (·.size) = some vs.length)
    (h : wpList P ops Q rest (a.put o.dst V) w) : wpList P ops Q (o :: rest) a w := by
  refine wpList_plain hgd fun K hK => ?_
  have hl : (loadCells ad vs.length).run P w = .ok vs.toArray w := run_loadCells_list (P := P) w ad vs hc
  have hv : (loadVar ty ad).run P w = .ok (.agg vs.toArray) w := by
    cases hq : P.info? ty with
    | none => simp [hq] at hi
    | some i =>
      have hs : i.size = vs.length := by simpa [hq] using hi
      have hagg : (isAgg ty).run P w = .ok true w := by
        unfold isAgg
        rw [Sem.run_bind, run_underlying hu w]
        cases d <;> simp_all
      simp [loadVar, Sem.run_bind, hagg, sizeOf, typeInfo, hq, hs, hl]
  unfold Oper.wp execOp
  simp only [ho, hx, Instr.loadAt, Instr.sureAddr, Sem.run_bind, Sem.run_pure, Result.andThen_ok, hv]
  exact hK _ _ (hV ▸ h)
theorem TabAt.cellsAt {w : World} {g : Nat} {vs : List Value} (h : TabAt w g vs) : ∀ j v, vs[j]? = some v → w.cell? ((⟨g, 0, none⟩ : Addr).add j) = some v := by
  intro j v hv
  obtain ⟨hj, e⟩ := List.getElem?_eq_some_iff.1 hv
  have hadd : (⟨g, 0, none⟩ : Addr).add j = ⟨g, j, none⟩ := by unfold Addr.add; split <;> simp_all
  rw [hadd, h.2 j hj, e]
def noneG : Value := .agg (rngV noneL).toArray
def wideG : Value := .agg (rngV wideL).toArray

set_option maxRecDepth 100000 in
theorem refIn_c (r lo hi : Int) (w : World) : Calls Tryz.prog 90 #[.int .i32 r, .int .i32 lo, .int .i32 hi] w fun e w' => e = .returned (.bool (inR r lo hi)) ∧ w' = w := by
  unfold inR
  obtain ⟨b1, e1⟩ : ∃ b, decide (lo ≤ r) = b := ⟨_, rfl⟩
  obtain ⟨b2, e2⟩ : ∃ b, decide (r ≤ hi) = b := ⟨_, rfl⟩
  rw [e1, e2]
  cases b1 <;> cases b2 <;>
  · go_enter Tryz.func90, Tryz.ntmps90
    go_wp2
    go_ret
    exact ⟨rfl, rfl⟩
set_option maxRecDepth 100000 in
theorem refMayR_c (r : Int) (w : World) : Calls Tryz.prog 89 #[.int .i32 r] w fun e w' => e = .returned (.bool (mayR r)) ∧ w' = w := by
  unfold mayR inR
  obtain ⟨b1, e1⟩ : ∃ b, decide (0 ≤ r) = b := ⟨_, rfl⟩
  obtain ⟨b2, e2⟩ : ∃ b, decide (r ≤ 55295) = b := ⟨_, rfl⟩
  obtain ⟨b3, e3⟩ : ∃ b, decide (57344 ≤ r) = b := ⟨_, rfl⟩
  obtain ⟨b4, e4⟩ : ∃ b, decide (r ≤ 1114111) = b := ⟨_, rfl⟩
  rw [e1, e2, e3, e4]
  cases b1 <;> cases b2 <;> cases b3 <;> cases b4 <;>
  · go_enter Tryz.func89, Tryz.ntmps89
    go_wp2
    go_ret
    exact ⟨rfl, rfl⟩
/-! ### The walks -/
theorem widI_ref (r : Int) : widI r = if !mayR r || (inR r 0 31 || inR r 127 159 || inR r 768 879 || inR r 8203 8207 || inR r 65024 65039) then 0 else if inR r 4352 4447 || inR r 11904 12350 || inR r 12353 42191 || inR r 44032 55203 || inR r 63744 64255 || inR r 65072 65135 || inR r 65280 65376 || inR r 65504 65510 || inR r 127744 128591 || inR r 131072 262141 then 2 else 1 := by
  have h1 : (badW r || anyR r noneL) = (!mayR r || (inR r 0 31 || inR r 127 159 || inR r 768 879 || inR r 8203 8207 || inR r 65024 65039)) := by
    rw [Bool.eq_iff_iff]
    simp only [badW, anyR, noneL, mayR, inR, List.any_cons, List.any_nil, Bool.or_eq_true, Bool.and_eq_true, Bool.not_eq_true', Bool.or_eq_false_iff, Bool.and_eq_false_iff, decide_eq_true_eq, decide_eq_false_iff_not, Bool.false_eq_true, or_false]
    omega
  have h2 : anyR r wideL = (inR r 4352 4447 || inR r 11904 12350 || inR r 12353 42191 || inR r 44032 55203 || inR r 63744 64255 || inR r 65072 65135 || inR r 65280 65376 || inR r 65504 65510 || inR r 127744 128591 || inR r 131072 262141) := by
    simp only [anyR, wideL, List.any_cons, List.any_nil, Bool.or_false, Bool.or_assoc]
  rw [widI, h1, h2]
set_option maxRecDepth 100000 in
set_option maxHeartbeats 4000000 in
theorem refWidth_c (r : Int) (w : World) : Calls Tryz.prog 67 #[.int .i32 r] w fun e w' => e = .returned (.int .i64 (widI r)) ∧ w' = w := by
  rw [widI_ref]
  rcases hM : mayR r with _ | _
  · simp only [hM, Bool.not_false, Bool.true_or, if_true]
    go_enter Tryz.func67, Tryz.ntmps67
    go_wp2_with (first | (go_at_call 89; refine (refMayR_c r _).mono ?_; rintro _ _ ⟨rfl, rfl⟩) | (go_at_call 90; refine (refIn_c r _ _ _).mono ?_; rintro _ _ ⟨rfl, rfl⟩))
    go_ret
    exact ⟨by first | rfl | simp only [Bool.not_true, Bool.not_false, Bool.true_or, Bool.or_true, Bool.false_or, Bool.or_false, if_true, if_false, Bool.false_eq_true], rfl⟩
  rcases h0 : inR r 0 31 with _ | _
  rotate_left
  · simp only [hM, h0, Bool.not_true, Bool.true_or, Bool.or_true, Bool.false_or, Bool.or_false, if_true, if_false, Bool.false_eq_true]
    go_enter Tryz.func67, Tryz.ntmps67
    go_wp2_with (first | (go_at_call 89; refine (refMayR_c r _).mono ?_; rintro _ _ ⟨rfl, rfl⟩) | (go_at_call 90; refine (refIn_c r _ _ _).mono ?_; rintro _ _ ⟨rfl, rfl⟩))
    go_ret
    exact ⟨by first | rfl | simp only [Bool.not_true, Bool.not_false, Bool.true_or, Bool.or_true, Bool.false_or, Bool.or_false, if_true, if_false, Bool.false_eq_true], rfl⟩
  rcases h127 : inR r 127 159 with _ | _
  rotate_left
  · simp only [hM, h0, h127, Bool.not_true, Bool.true_or, Bool.or_true, Bool.false_or, Bool.or_false, if_true, if_false, Bool.false_eq_true]
    go_enter Tryz.func67, Tryz.ntmps67
    go_wp2_with (first | (go_at_call 89; refine (refMayR_c r _).mono ?_; rintro _ _ ⟨rfl, rfl⟩) | (go_at_call 90; refine (refIn_c r _ _ _).mono ?_; rintro _ _ ⟨rfl, rfl⟩))
    go_ret
    exact ⟨by first | rfl | simp only [Bool.not_true, Bool.not_false, Bool.true_or, Bool.or_true, Bool.false_or, Bool.or_false, if_true, if_false, Bool.false_eq_true], rfl⟩
  rcases h768 : inR r 768 879 with _ | _
  rotate_left
  · simp only [hM, h0, h127, h768, Bool.not_true, Bool.true_or, Bool.or_true, Bool.false_or, Bool.or_false, if_true, if_false, Bool.false_eq_true]
    go_enter Tryz.func67, Tryz.ntmps67
    go_wp2_with (first | (go_at_call 89; refine (refMayR_c r _).mono ?_; rintro _ _ ⟨rfl, rfl⟩) | (go_at_call 90; refine (refIn_c r _ _ _).mono ?_; rintro _ _ ⟨rfl, rfl⟩))
    go_ret
    exact ⟨by first | rfl | simp only [Bool.not_true, Bool.not_false, Bool.true_or, Bool.or_true, Bool.false_or, Bool.or_false, if_true, if_false, Bool.false_eq_true], rfl⟩
  rcases h8203 : inR r 8203 8207 with _ | _
  rotate_left
  · simp only [hM, h0, h127, h768, h8203, Bool.not_true, Bool.true_or, Bool.or_true, Bool.false_or, Bool.or_false, if_true, if_false, Bool.false_eq_true]
    go_enter Tryz.func67, Tryz.ntmps67
    go_wp2_with (first | (go_at_call 89; refine (refMayR_c r _).mono ?_; rintro _ _ ⟨rfl, rfl⟩) | (go_at_call 90; refine (refIn_c r _ _ _).mono ?_; rintro _ _ ⟨rfl, rfl⟩))
    go_ret
    exact ⟨by first | rfl | simp only [Bool.not_true, Bool.not_false, Bool.true_or, Bool.or_true, Bool.false_or, Bool.or_false, if_true, if_false, Bool.false_eq_true], rfl⟩
  rcases h65024 : inR r 65024 65039 with _ | _
  rotate_left
  · simp only [hM, h0, h127, h768, h8203, h65024, Bool.not_true, Bool.true_or, Bool.or_true, Bool.false_or, Bool.or_false, if_true, if_false, Bool.false_eq_true]
    go_enter Tryz.func67, Tryz.ntmps67
    go_wp2_with (first | (go_at_call 89; refine (refMayR_c r _).mono ?_; rintro _ _ ⟨rfl, rfl⟩) | (go_at_call 90; refine (refIn_c r _ _ _).mono ?_; rintro _ _ ⟨rfl, rfl⟩))
    go_ret
    exact ⟨by first | rfl | simp only [Bool.not_true, Bool.not_false, Bool.true_or, Bool.or_true, Bool.false_or, Bool.or_false, if_true, if_false, Bool.false_eq_true], rfl⟩
  rcases h4352 : inR r 4352 4447 with _ | _
  rotate_left
  · simp only [hM, h0, h127, h768, h8203, h65024, h4352, Bool.not_true, Bool.true_or, Bool.or_true, Bool.false_or, Bool.or_false, if_true, if_false, Bool.false_eq_true]
    go_enter Tryz.func67, Tryz.ntmps67
    go_wp2_with (first | (go_at_call 89; refine (refMayR_c r _).mono ?_; rintro _ _ ⟨rfl, rfl⟩) | (go_at_call 90; refine (refIn_c r _ _ _).mono ?_; rintro _ _ ⟨rfl, rfl⟩))
    go_ret
    exact ⟨by first | rfl | simp only [Bool.not_true, Bool.not_false, Bool.true_or, Bool.or_true, Bool.false_or, Bool.or_false, if_true, if_false, Bool.false_eq_true], rfl⟩
  rcases h11904 : inR r 11904 12350 with _ | _
  rotate_left
  · simp only [hM, h0, h127, h768, h8203, h65024, h4352, h11904, Bool.not_true, Bool.true_or, Bool.or_true, Bool.false_or, Bool.or_false, if_true, if_false, Bool.false_eq_true]
    go_enter Tryz.func67, Tryz.ntmps67
    go_wp2_with (first | (go_at_call 89; refine (refMayR_c r _).mono ?_; rintro _ _ ⟨rfl, rfl⟩) | (go_at_call 90; refine (refIn_c r _ _ _).mono ?_; rintro _ _ ⟨rfl, rfl⟩))
    go_ret
    exact ⟨by first | rfl | simp only [Bool.not_true, Bool.not_false, Bool.true_or, Bool.or_true, Bool.false_or, Bool.or_false, if_true, if_false, Bool.false_eq_true], rfl⟩
  rcases h12353 : inR r 12353 42191 with _ | _
  rotate_left
  · simp only [hM, h0, h127, h768, h8203, h65024, h4352, h11904, h12353, Bool.not_true, Bool.true_or, Bool.or_true, Bool.false_or, Bool.or_false, if_true, if_false, Bool.false_eq_true]
    go_enter Tryz.func67, Tryz.ntmps67
    go_wp2_with (first | (go_at_call 89; refine (refMayR_c r _).mono ?_; rintro _ _ ⟨rfl, rfl⟩) | (go_at_call 90; refine (refIn_c r _ _ _).mono ?_; rintro _ _ ⟨rfl, rfl⟩))
    go_ret
    exact ⟨by first | rfl | simp only [Bool.not_true, Bool.not_false, Bool.true_or, Bool.or_true, Bool.false_or, Bool.or_false, if_true, if_false, Bool.false_eq_true], rfl⟩
  rcases h44032 : inR r 44032 55203 with _ | _
  rotate_left
  · simp only [hM, h0, h127, h768, h8203, h65024, h4352, h11904, h12353, h44032, Bool.not_true, Bool.true_or, Bool.or_true, Bool.false_or, Bool.or_false, if_true, if_false, Bool.false_eq_true]
    go_enter Tryz.func67, Tryz.ntmps67
    go_wp2_with (first | (go_at_call 89; refine (refMayR_c r _).mono ?_; rintro _ _ ⟨rfl, rfl⟩) | (go_at_call 90; refine (refIn_c r _ _ _).mono ?_; rintro _ _ ⟨rfl, rfl⟩))
    go_ret
    exact ⟨by first | rfl | simp only [Bool.not_true, Bool.not_false, Bool.true_or, Bool.or_true, Bool.false_or, Bool.or_false, if_true, if_false, Bool.false_eq_true], rfl⟩
  rcases h63744 : inR r 63744 64255 with _ | _
  rotate_left
  · simp only [hM, h0, h127, h768, h8203, h65024, h4352, h11904, h12353, h44032, h63744, Bool.not_true, Bool.true_or, Bool.or_true, Bool.false_or, Bool.or_false, if_true, if_false, Bool.false_eq_true]
    go_enter Tryz.func67, Tryz.ntmps67
    go_wp2_with (first | (go_at_call 89; refine (refMayR_c r _).mono ?_; rintro _ _ ⟨rfl, rfl⟩) | (go_at_call 90; refine (refIn_c r _ _ _).mono ?_; rintro _ _ ⟨rfl, rfl⟩))
    go_ret
    exact ⟨by first | rfl | simp only [Bool.not_true, Bool.not_false, Bool.true_or, Bool.or_true, Bool.false_or, Bool.or_false, if_true, if_false, Bool.false_eq_true], rfl⟩
  rcases h65072 : inR r 65072 65135 with _ | _
  rotate_left
  · simp only [hM, h0, h127, h768, h8203, h65024, h4352, h11904, h12353, h44032, h63744, h65072, Bool.not_true, Bool.true_or, Bool.or_true, Bool.false_or, Bool.or_false, if_true, if_false, Bool.false_eq_true]
    go_enter Tryz.func67, Tryz.ntmps67
    go_wp2_with (first | (go_at_call 89; refine (refMayR_c r _).mono ?_; rintro _ _ ⟨rfl, rfl⟩) | (go_at_call 90; refine (refIn_c r _ _ _).mono ?_; rintro _ _ ⟨rfl, rfl⟩))
    go_ret
    exact ⟨by first | rfl | simp only [Bool.not_true, Bool.not_false, Bool.true_or, Bool.or_true, Bool.false_or, Bool.or_false, if_true, if_false, Bool.false_eq_true], rfl⟩
  rcases h65280 : inR r 65280 65376 with _ | _
  rotate_left
  · simp only [hM, h0, h127, h768, h8203, h65024, h4352, h11904, h12353, h44032, h63744, h65072, h65280, Bool.not_true, Bool.true_or, Bool.or_true, Bool.false_or, Bool.or_false, if_true, if_false, Bool.false_eq_true]
    go_enter Tryz.func67, Tryz.ntmps67
    go_wp2_with (first | (go_at_call 89; refine (refMayR_c r _).mono ?_; rintro _ _ ⟨rfl, rfl⟩) | (go_at_call 90; refine (refIn_c r _ _ _).mono ?_; rintro _ _ ⟨rfl, rfl⟩))
    go_ret
    exact ⟨by first | rfl | simp only [Bool.not_true, Bool.not_false, Bool.true_or, Bool.or_true, Bool.false_or, Bool.or_false, if_true, if_false, Bool.false_eq_true], rfl⟩
  rcases h65504 : inR r 65504 65510 with _ | _
  rotate_left
  · simp only [hM, h0, h127, h768, h8203, h65024, h4352, h11904, h12353, h44032, h63744, h65072, h65280, h65504, Bool.not_true, Bool.true_or, Bool.or_true, Bool.false_or, Bool.or_false, if_true, if_false, Bool.false_eq_true]
    go_enter Tryz.func67, Tryz.ntmps67
    go_wp2_with (first | (go_at_call 89; refine (refMayR_c r _).mono ?_; rintro _ _ ⟨rfl, rfl⟩) | (go_at_call 90; refine (refIn_c r _ _ _).mono ?_; rintro _ _ ⟨rfl, rfl⟩))
    go_ret
    exact ⟨by first | rfl | simp only [Bool.not_true, Bool.not_false, Bool.true_or, Bool.or_true, Bool.false_or, Bool.or_false, if_true, if_false, Bool.false_eq_true], rfl⟩
  rcases h127744 : inR r 127744 128591 with _ | _
  rotate_left
  · simp only [hM, h0, h127, h768, h8203, h65024, h4352, h11904, h12353, h44032, h63744, h65072, h65280, h65504, h127744, Bool.not_true, Bool.true_or, Bool.or_true, Bool.false_or, Bool.or_false, if_true, if_false, Bool.false_eq_true]
    go_enter Tryz.func67, Tryz.ntmps67
    go_wp2_with (first | (go_at_call 89; refine (refMayR_c r _).mono ?_; rintro _ _ ⟨rfl, rfl⟩) | (go_at_call 90; refine (refIn_c r _ _ _).mono ?_; rintro _ _ ⟨rfl, rfl⟩))
    go_ret
    exact ⟨by first | rfl | simp only [Bool.not_true, Bool.not_false, Bool.true_or, Bool.or_true, Bool.false_or, Bool.or_false, if_true, if_false, Bool.false_eq_true], rfl⟩
  rcases h131072 : inR r 131072 262141 with _ | _
  rotate_left
  · simp only [hM, h0, h127, h768, h8203, h65024, h4352, h11904, h12353, h44032, h63744, h65072, h65280, h65504, h127744, h131072, Bool.not_true, Bool.true_or, Bool.or_true, Bool.false_or, Bool.or_false, if_true, if_false, Bool.false_eq_true]
    go_enter Tryz.func67, Tryz.ntmps67
    go_wp2_with (first | (go_at_call 89; refine (refMayR_c r _).mono ?_; rintro _ _ ⟨rfl, rfl⟩) | (go_at_call 90; refine (refIn_c r _ _ _).mono ?_; rintro _ _ ⟨rfl, rfl⟩))
    go_ret
    exact ⟨by first | rfl | simp only [Bool.not_true, Bool.not_false, Bool.true_or, Bool.or_true, Bool.false_or, Bool.or_false, if_true, if_false, Bool.false_eq_true], rfl⟩
  simp only [hM, h0, h127, h768, h8203, h65024, h4352, h11904, h12353, h44032, h63744, h65072, h65280, h65504, h127744, h131072, Bool.not_true, Bool.true_or, Bool.or_true, Bool.false_or, Bool.or_false, if_true, if_false, Bool.false_eq_true]
  go_enter Tryz.func67, Tryz.ntmps67
  go_wp2_with (first | (go_at_call 89; refine (refMayR_c r _).mono ?_; rintro _ _ ⟨rfl, rfl⟩) | (go_at_call 90; refine (refIn_c r _ _ _).mono ?_; rintro _ _ ⟨rfl, rfl⟩))
  go_ret
  exact ⟨by first | rfl | simp only [Bool.not_true, Bool.not_false, Bool.true_or, Bool.or_true, Bool.false_or, Bool.or_false, if_true, if_false, Bool.false_eq_true], rfl⟩

theorem noneLHit (r : Int) (k : Nat) (hk : k < 3) (h : inR r (noneL.getD k (0, 0)).1 (noneL.getD k (0, 0)).2 = true) : anyR r noneL = true := by
  have key : ∀ k, k < 3 → noneL.getD k (0, 0) ∈ noneL := by decide
  unfold anyR
  exact List.any_eq_true.2 ⟨_, key k hk, h⟩
theorem wideLHit (r : Int) (k : Nat) (hk : k < 10) (h : inR r (wideL.getD k (0, 0)).1 (wideL.getD k (0, 0)).2 = true) : anyR r wideL = true := by
  have key : ∀ k, k < 10 → wideL.getD k (0, 0) ∈ wideL := by decide
  unfold anyR
  exact List.any_eq_true.2 ⟨_, key k hk, h⟩
theorem anyR_no (r : Int) (l : List (Int × Int)) (h : ∀ k, k < l.length → inR r (l.getD k (0, 0)).1 (l.getD k (0, 0)).2 = false) : anyR r l = false := by
  unfold anyR
  rw [List.any_eq_false]
  intro p hp hc
  obtain ⟨k, hk, rfl⟩ := List.mem_iff_getElem.1 hp
  have := h k hk
  rw [List.getD_eq_getElem?_getD, List.getElem?_eq_getElem hk] at this
  simp only [Option.getD_some] at this
  rw [this] at hc; cases hc
theorem ix_none0 (w : World) : (Instr.index 123 noneG (.int .i64 0)).run Tryz.prog w = .ok (.agg #[.int .i32 768, .int .i32 879]) w := by kernel_rfl
theorem ix_none1 (w : World) : (Instr.index 123 noneG (.int .i64 1)).run Tryz.prog w = .ok (.agg #[.int .i32 8203, .int .i32 8207]) w := by kernel_rfl
theorem ix_none2 (w : World) : (Instr.index 123 noneG (.int .i64 2)).run Tryz.prog w = .ok (.agg #[.int .i32 65024, .int .i32 65039]) w := by kernel_rfl
theorem ix_wide0 (w : World) : (Instr.index 124 wideG (.int .i64 0)).run Tryz.prog w = .ok (.agg #[.int .i32 4352, .int .i32 4447]) w := by kernel_rfl
theorem ix_wide1 (w : World) : (Instr.index 124 wideG (.int .i64 1)).run Tryz.prog w = .ok (.agg #[.int .i32 11904, .int .i32 12350]) w := by kernel_rfl
theorem ix_wide2 (w : World) : (Instr.index 124 wideG (.int .i64 2)).run Tryz.prog w = .ok (.agg #[.int .i32 12353, .int .i32 42191]) w := by kernel_rfl
theorem ix_wide3 (w : World) : (Instr.index 124 wideG (.int .i64 3)).run Tryz.prog w = .ok (.agg #[.int .i32 44032, .int .i32 55203]) w := by kernel_rfl
theorem ix_wide4 (w : World) : (Instr.index 124 wideG (.int .i64 4)).run Tryz.prog w = .ok (.agg #[.int .i32 63744, .int .i32 64255]) w := by kernel_rfl
theorem ix_wide5 (w : World) : (Instr.index 124 wideG (.int .i64 5)).run Tryz.prog w = .ok (.agg #[.int .i32 65072, .int .i32 65135]) w := by kernel_rfl
theorem ix_wide6 (w : World) : (Instr.index 124 wideG (.int .i64 6)).run Tryz.prog w = .ok (.agg #[.int .i32 65280, .int .i32 65376]) w := by kernel_rfl
theorem ix_wide7 (w : World) : (Instr.index 124 wideG (.int .i64 7)).run Tryz.prog w = .ok (.agg #[.int .i32 65504, .int .i32 65510]) w := by kernel_rfl
theorem ix_wide8 (w : World) : (Instr.index 124 wideG (.int .i64 8)).run Tryz.prog w = .ok (.agg #[.int .i32 127744, .int .i32 128591]) w := by kernel_rfl
theorem ix_wide9 (w : World) : (Instr.index 124 wideG (.int .i64 9)).run Tryz.prog w = .ok (.agg #[.int .i32 131072, .int .i32 262141]) w := by kernel_rfl
theorem inf_none : (Tryz.prog.info? 123).map (·.size) = some (rngV noneL).length := by kernel_rfl
theorem inf_wide : (Tryz.prog.info? 124).map (·.size) = some (rngV wideL).length := by kernel_rfl
theorem idx_none (k : Nat) (hk : k < 3) : ∃ X Y, noneL.getD k (0, 0) = (X, Y) ∧ ∀ w : World, (Instr.index 123 noneG (.int .i64 (k : Int))).run Tryz.prog w = .ok (.agg #[.int .i32 X, .int .i32 Y]) w := by
  match k, hk with
  | 0, _ => exact ⟨768, 879, rfl, fun w => ix_none0 w⟩
  | 1, _ => exact ⟨8203, 8207, rfl, fun w => ix_none1 w⟩
  | 2, _ => exact ⟨65024, 65039, rfl, fun w => ix_none2 w⟩
theorem idx_wide (k : Nat) (hk : k < 10) : ∃ X Y, wideL.getD k (0, 0) = (X, Y) ∧ ∀ w : World, (Instr.index 124 wideG (.int .i64 (k : Int))).run Tryz.prog w = .ok (.agg #[.int .i32 X, .int .i32 Y]) w := by
  match k, hk with
  | 0, _ => exact ⟨4352, 4447, rfl, fun w => ix_wide0 w⟩
  | 1, _ => exact ⟨11904, 12350, rfl, fun w => ix_wide1 w⟩
  | 2, _ => exact ⟨12353, 42191, rfl, fun w => ix_wide2 w⟩
  | 3, _ => exact ⟨44032, 55203, rfl, fun w => ix_wide3 w⟩
  | 4, _ => exact ⟨63744, 64255, rfl, fun w => ix_wide4 w⟩
  | 5, _ => exact ⟨65072, 65135, rfl, fun w => ix_wide5 w⟩
  | 6, _ => exact ⟨65280, 65376, rfl, fun w => ix_wide6 w⟩
  | 7, _ => exact ⟨65504, 65510, rfl, fun w => ix_wide7 w⟩
  | 8, _ => exact ⟨127744, 128591, rfl, fun w => ix_wide8 w⟩
  | 9, _ => exact ⟨131072, 262141, rfl, fun w => ix_wide9 w⟩
set_option maxRecDepth 100000 in
set_option maxHeartbeats 8000000 in
theorem Width_in1 (r : Int) (w : World) (R : Int) (hT : TabU w) (eR : widI r = R) (hbw : badW r = false) (d1 : decide (r < 32) = false) (d2 : decide (127 ≤ r) = false) (d3 : decide (r ≤ 159) = true) (d4 : decide (55296 ≤ r) = false) (d5 : decide (r ≤ 57343) = true) (d6 : decide (1114111 < r) = false) :
    Calls Tryz.prog 55 #[.int .i32 r] w fun e w' => e = .returned (.int .i64 R) ∧ Below w.heap.size w w' := by
  have ER : Hid (R = if anyR r noneL then 0 else if anyR r wideL then 2 else 1) := Lib.hid (by rw [← eR, widI, hbw, Bool.false_or])
  have HT := Lib.hid hT
  have H1 := Lib.hid hT.1.1
  have H2 := Lib.hid hT.2.1
  clear hT eR hbw
  go_enter Tryz.func55, Tryz.ntmps55
  go_upto_region 3 with (fail)
  go_wp2_with (refine wpList_load_cells rfl 123 (.global 0) rfl ⟨0, 0, none⟩ rfl (rngV noneL) noneG rfl _ (HT.out.1.cellsAt) Tryz.underlying123 rfl inf_none ?_)
  go_loopw [30] (fun i wr => ∃ k : Nat, k ≤ 3 ∧ i = .int .i64 k ∧ Hid (∀ j, j < k → inR r (noneL.getD j (0, 0)).1 (noneL.getD j (0, 0)).2 = false) ∧ Below w.heap.size w wr) (fun i _ => 3 - (intOf i).toNat)
  case atStart => exact ⟨0, Nat.zero_le _, rfl, Lib.hid (fun j h => absurd h (Nat.not_lt_zero _)), Below.refl _ _⟩
  case round =>
    obtain ⟨k, hk, rfl, HNnone, kbnone⟩ := hrel
    rcases Nat.lt_or_ge k 3 with hlt | hge
    · obtain ⟨X, Y, hXY, ix⟩ := idx_none k hlt
      have hlt' : (k : Int) < 3 := by omega
      obtain ⟨c1, e1⟩ : ∃ b, decide (X ≤ r) = b := ⟨_, rfl⟩
      obtain ⟨c2, e2⟩ : ∃ b, decide (r ≤ Y) = b := ⟨_, rfl⟩
      have hin : Hid (inR r (noneL.getD k (0, 0)).1 (noneL.getD k (0, 0)).2 = (c1 && c2)) := Lib.hid (by rw [hXY, inR, e1, e2])
      have k2 : Below w.heap.size w (wr.alloc (.cells #[.int .i32 X, .int .i32 Y] 122)) := kbnone.alloc kbnone.size _
      clear hXY
      cases c1 <;> cases c2
      · go_wp2_with (fail)
        go_roundw
        case rel => exact ⟨k + 1, by omega, by go_num, Lib.hid (fun j hj => by
          rcases Nat.lt_or_ge j k with q | q
          · exact HNnone.out j q
          · obtain rfl : j = k := by omega
            exact hin.out), k2⟩
        case measure => simp [intOf]; omega
      · go_wp2_with (fail)
        go_roundw
        case rel => exact ⟨k + 1, by omega, by go_num, Lib.hid (fun j hj => by
          rcases Nat.lt_or_ge j k with q | q
          · exact HNnone.out j q
          · obtain rfl : j = k := by omega
            exact hin.out), k2⟩
        case measure => simp [intOf]; omega
      · go_wp2_with (fail)
        go_roundw
        case rel => exact ⟨k + 1, by omega, by go_num, Lib.hid (fun j hj => by
          rcases Nat.lt_or_ge j k with q | q
          · exact HNnone.out j q
          · obtain rfl : j = k := by omega
            exact hin.out), k2⟩
        case measure => simp [intOf]; omega
      · have hR : R = 0 := by rw [ER.out, noneLHit r k hlt hin.out]; rfl
        have HR := Lib.hid hR
        clear hR
        go_wp2_with (fail)
        go_ret
        exact ⟨by rw [HR.out] <;> rfl, k2⟩
    · have hge' : (3 : Int) ≤ (k : Int) := by omega
      have hk3 : k = 3 := by omega
      subst hk3
      go_wp2_with (refine wpList_load_cells rfl 124 (.global 1) rfl ⟨1, 0, none⟩ rfl (rngV wideL) wideG rfl _ ((HT.out.next kbnone).2.cellsAt) Tryz.underlying124 rfl inf_wide ?_)
      go_loopw [45] (fun i wr => ∃ k : Nat, k ≤ 10 ∧ i = .int .i64 k ∧ Hid (∀ j, j < k → inR r (wideL.getD j (0, 0)).1 (wideL.getD j (0, 0)).2 = false) ∧ Below w.heap.size w wr) (fun i _ => 10 - (intOf i).toNat)
      case atStart => exact ⟨0, Nat.zero_le _, rfl, Lib.hid (fun j h => absurd h (Nat.not_lt_zero _)), kbnone⟩
      case round =>
        obtain ⟨k, hk, rfl, HNwide, kbwide⟩ := hrel
        rcases Nat.lt_or_ge k 10 with hlt | hge
        · obtain ⟨X, Y, hXY, ix⟩ := idx_wide k hlt
          have hlt' : (k : Int) < 10 := by omega
          obtain ⟨c1, e1⟩ : ∃ b, decide (X ≤ r) = b := ⟨_, rfl⟩
          obtain ⟨c2, e2⟩ : ∃ b, decide (r ≤ Y) = b := ⟨_, rfl⟩
          have hin : Hid (inR r (wideL.getD k (0, 0)).1 (wideL.getD k (0, 0)).2 = (c1 && c2)) := Lib.hid (by rw [hXY, inR, e1, e2])
          have k2 : Below w.heap.size w (wr.alloc (.cells #[.int .i32 X, .int .i32 Y] 122)) := kbwide.alloc kbwide.size _
          clear hXY
          cases c1 <;> cases c2
          · go_wp2_with (fail)
            go_roundw
            case rel => exact ⟨k + 1, by omega, by go_num, Lib.hid (fun j hj => by
              rcases Nat.lt_or_ge j k with q | q
              · exact HNwide.out j q
              · obtain rfl : j = k := by omega
                exact hin.out), k2⟩
            case measure => simp [intOf]; omega
          · go_wp2_with (fail)
            go_roundw
            case rel => exact ⟨k + 1, by omega, by go_num, Lib.hid (fun j hj => by
              rcases Nat.lt_or_ge j k with q | q
              · exact HNwide.out j q
              · obtain rfl : j = k := by omega
                exact hin.out), k2⟩
            case measure => simp [intOf]; omega
          · go_wp2_with (fail)
            go_roundw
            case rel => exact ⟨k + 1, by omega, by go_num, Lib.hid (fun j hj => by
              rcases Nat.lt_or_ge j k with q | q
              · exact HNwide.out j q
              · obtain rfl : j = k := by omega
                exact hin.out), k2⟩
            case measure => simp [intOf]; omega
          · have hR : R = 2 := by rw [ER.out, anyR_no r noneL HNnone.out, wideLHit r k hlt hin.out]; rfl
            have HR := Lib.hid hR
            clear hR
            go_wp2_with (fail)
            go_ret
            exact ⟨by rw [HR.out] <;> rfl, k2⟩
        · have hge' : (10 : Int) ≤ (k : Int) := by omega
          have hk3 : k = 10 := by omega
          subst hk3
          have hR : R = 1 := by rw [ER.out, anyR_no r noneL HNnone.out, anyR_no r wideL HNwide.out]; rfl
          have HR := Lib.hid hR
          clear hR
          go_wp2_with (fail)
          go_ret
          exact ⟨by rw [HR.out] <;> rfl, kbwide⟩
set_option maxRecDepth 100000 in
set_option maxHeartbeats 8000000 in
theorem Width_in2 (r : Int) (w : World) (R : Int) (hT : TabU w) (eR : widI r = R) (hbw : badW r = false) (d1 : decide (r < 32) = false) (d2 : decide (127 ≤ r) = true) (d3 : decide (r ≤ 159) = false) (d4 : decide (55296 ≤ r) = false) (d5 : decide (r ≤ 57343) = true) (d6 : decide (1114111 < r) = false) :
    Calls Tryz.prog 55 #[.int .i32 r] w fun e w' => e = .returned (.int .i64 R) ∧ Below w.heap.size w w' := by
  have ER : Hid (R = if anyR r noneL then 0 else if anyR r wideL then 2 else 1) := Lib.hid (by rw [← eR, widI, hbw, Bool.false_or])
  have HT := Lib.hid hT
  have H1 := Lib.hid hT.1.1
  have H2 := Lib.hid hT.2.1
  clear hT eR hbw
  go_enter Tryz.func55, Tryz.ntmps55
  go_upto_region 3 with (fail)
  go_wp2_with (refine wpList_load_cells rfl 123 (.global 0) rfl ⟨0, 0, none⟩ rfl (rngV noneL) noneG rfl _ (HT.out.1.cellsAt) Tryz.underlying123 rfl inf_none ?_)
  go_loopw [30] (fun i wr => ∃ k : Nat, k ≤ 3 ∧ i = .int .i64 k ∧ Hid (∀ j, j < k → inR r (noneL.getD j (0, 0)).1 (noneL.getD j (0, 0)).2 = false) ∧ Below w.heap.size w wr) (fun i _ => 3 - (intOf i).toNat)
  case atStart => exact ⟨0, Nat.zero_le _, rfl, Lib.hid (fun j h => absurd h (Nat.not_lt_zero _)), Below.refl _ _⟩
  case round =>
    obtain ⟨k, hk, rfl, HNnone, kbnone⟩ := hrel
    rcases Nat.lt_or_ge k 3 with hlt | hge
    · obtain ⟨X, Y, hXY, ix⟩ := idx_none k hlt
      have hlt' : (k : Int) < 3 := by omega
      obtain ⟨c1, e1⟩ : ∃ b, decide (X ≤ r) = b := ⟨_, rfl⟩
      obtain ⟨c2, e2⟩ : ∃ b, decide (r ≤ Y) = b := ⟨_, rfl⟩
      have hin : Hid (inR r (noneL.getD k (0, 0)).1 (noneL.getD k (0, 0)).2 = (c1 && c2)) := Lib.hid (by rw [hXY, inR, e1, e2])
      have k2 : Below w.heap.size w (wr.alloc (.cells #[.int .i32 X, .int .i32 Y] 122)) := kbnone.alloc kbnone.size _
      clear hXY
      cases c1 <;> cases c2
      · go_wp2_with (fail)
        go_roundw
        case rel => exact ⟨k + 1, by omega, by go_num, Lib.hid (fun j hj => by
          rcases Nat.lt_or_ge j k with q | q
          · exact HNnone.out j q
          · obtain rfl : j = k := by omega
            exact hin.out), k2⟩
        case measure => simp [intOf]; omega
      · go_wp2_with (fail)
        go_roundw
        case rel => exact ⟨k + 1, by omega, by go_num, Lib.hid (fun j hj => by
          rcases Nat.lt_or_ge j k with q | q
          · exact HNnone.out j q
          · obtain rfl : j = k := by omega
            exact hin.out), k2⟩
        case measure => simp [intOf]; omega
      · go_wp2_with (fail)
        go_roundw
        case rel => exact ⟨k + 1, by omega, by go_num, Lib.hid (fun j hj => by
          rcases Nat.lt_or_ge j k with q | q
          · exact HNnone.out j q
          · obtain rfl : j = k := by omega
            exact hin.out), k2⟩
        case measure => simp [intOf]; omega
      · have hR : R = 0 := by rw [ER.out, noneLHit r k hlt hin.out]; rfl
        have HR := Lib.hid hR
        clear hR
        go_wp2_with (fail)
        go_ret
        exact ⟨by rw [HR.out] <;> rfl, k2⟩
    · have hge' : (3 : Int) ≤ (k : Int) := by omega
      have hk3 : k = 3 := by omega
      subst hk3
      go_wp2_with (refine wpList_load_cells rfl 124 (.global 1) rfl ⟨1, 0, none⟩ rfl (rngV wideL) wideG rfl _ ((HT.out.next kbnone).2.cellsAt) Tryz.underlying124 rfl inf_wide ?_)
      go_loopw [45] (fun i wr => ∃ k : Nat, k ≤ 10 ∧ i = .int .i64 k ∧ Hid (∀ j, j < k → inR r (wideL.getD j (0, 0)).1 (wideL.getD j (0, 0)).2 = false) ∧ Below w.heap.size w wr) (fun i _ => 10 - (intOf i).toNat)
      case atStart => exact ⟨0, Nat.zero_le _, rfl, Lib.hid (fun j h => absurd h (Nat.not_lt_zero _)), kbnone⟩
      case round =>
        obtain ⟨k, hk, rfl, HNwide, kbwide⟩ := hrel
        rcases Nat.lt_or_ge k 10 with hlt | hge
        · obtain ⟨X, Y, hXY, ix⟩ := idx_wide k hlt
          have hlt' : (k : Int) < 10 := by omega
          obtain ⟨c1, e1⟩ : ∃ b, decide (X ≤ r) = b := ⟨_, rfl⟩
          obtain ⟨c2, e2⟩ : ∃ b, decide (r ≤ Y) = b := ⟨_, rfl⟩
          have hin : Hid (inR r (wideL.getD k (0, 0)).1 (wideL.getD k (0, 0)).2 = (c1 && c2)) := Lib.hid (by rw [hXY, inR, e1, e2])
          have k2 : Below w.heap.size w (wr.alloc (.cells #[.int .i32 X, .int .i32 Y] 122)) := kbwide.alloc kbwide.size _
          clear hXY
          cases c1 <;> cases c2
          · go_wp2_with (fail)
            go_roundw
            case rel => exact ⟨k + 1, by omega, by go_num, Lib.hid (fun j hj => by
              rcases Nat.lt_or_ge j k with q | q
              · exact HNwide.out j q
              · obtain rfl : j = k := by omega
                exact hin.out), k2⟩
            case measure => simp [intOf]; omega
          · go_wp2_with (fail)
            go_roundw
            case rel => exact ⟨k + 1, by omega, by go_num, Lib.hid (fun j hj => by
              rcases Nat.lt_or_ge j k with q | q
              · exact HNwide.out j q
              · obtain rfl : j = k := by omega
                exact hin.out), k2⟩
            case measure => simp [intOf]; omega
          · go_wp2_with (fail)
            go_roundw
            case rel => exact ⟨k + 1, by omega, by go_num, Lib.hid (fun j hj => by
              rcases Nat.lt_or_ge j k with q | q
              · exact HNwide.out j q
              · obtain rfl : j = k := by omega
                exact hin.out), k2⟩
            case measure => simp [intOf]; omega
          · have hR : R = 2 := by rw [ER.out, anyR_no r noneL HNnone.out, wideLHit r k hlt hin.out]; rfl
            have HR := Lib.hid hR
            clear hR
            go_wp2_with (fail)
            go_ret
            exact ⟨by rw [HR.out] <;> rfl, k2⟩
        · have hge' : (10 : Int) ≤ (k : Int) := by omega
          have hk3 : k = 10 := by omega
          subst hk3
          have hR : R = 1 := by rw [ER.out, anyR_no r noneL HNnone.out, anyR_no r wideL HNwide.out]; rfl
          have HR := Lib.hid hR
          clear hR
          go_wp2_with (fail)
          go_ret
          exact ⟨by rw [HR.out] <;> rfl, kbwide⟩
set_option maxRecDepth 100000 in
set_option maxHeartbeats 8000000 in
theorem Width_in3 (r : Int) (w : World) (R : Int) (hT : TabU w) (eR : widI r = R) (hbw : badW r = false) (d1 : decide (r < 32) = false) (d2 : decide (127 ≤ r) = true) (d3 : decide (r ≤ 159) = false) (d4 : decide (55296 ≤ r) = true) (d5 : decide (r ≤ 57343) = false) (d6 : decide (1114111 < r) = false) :
    Calls Tryz.prog 55 #[.int .i32 r] w fun e w' => e = .returned (.int .i64 R) ∧ Below w.heap.size w w' := by
  have ER : Hid (R = if anyR r noneL then 0 else if anyR r wideL then 2 else 1) := Lib.hid (by rw [← eR, widI, hbw, Bool.false_or])
  have HT := Lib.hid hT
  have H1 := Lib.hid hT.1.1
  have H2 := Lib.hid hT.2.1
  clear hT eR hbw
  go_enter Tryz.func55, Tryz.ntmps55
  go_upto_region 3 with (fail)
  go_wp2_with (refine wpList_load_cells rfl 123 (.global 0) rfl ⟨0, 0, none⟩ rfl (rngV noneL) noneG rfl _ (HT.out.1.cellsAt) Tryz.underlying123 rfl inf_none ?_)
  go_loopw [30] (fun i wr => ∃ k : Nat, k ≤ 3 ∧ i = .int .i64 k ∧ Hid (∀ j, j < k → inR r (noneL.getD j (0, 0)).1 (noneL.getD j (0, 0)).2 = false) ∧ Below w.heap.size w wr) (fun i _ => 3 - (intOf i).toNat)
  case atStart => exact ⟨0, Nat.zero_le _, rfl, Lib.hid (fun j h => absurd h (Nat.not_lt_zero _)), Below.refl _ _⟩
  case round =>
    obtain ⟨k, hk, rfl, HNnone, kbnone⟩ := hrel
    rcases Nat.lt_or_ge k 3 with hlt | hge
    · obtain ⟨X, Y, hXY, ix⟩ := idx_none k hlt
      have hlt' : (k : Int) < 3 := by omega
      obtain ⟨c1, e1⟩ : ∃ b, decide (X ≤ r) = b := ⟨_, rfl⟩
      obtain ⟨c2, e2⟩ : ∃ b, decide (r ≤ Y) = b := ⟨_, rfl⟩
      have hin : Hid (inR r (noneL.getD k (0, 0)).1 (noneL.getD k (0, 0)).2 = (c1 && c2)) := Lib.hid (by rw [hXY, inR, e1, e2])
      have k2 : Below w.heap.size w (wr.alloc (.cells #[.int .i32 X, .int .i32 Y] 122)) := kbnone.alloc kbnone.size _
      clear hXY
      cases c1 <;> cases c2
      · go_wp2_with (fail)
        go_roundw
        case rel => exact ⟨k + 1, by omega, by go_num, Lib.hid (fun j hj => by
          rcases Nat.lt_or_ge j k with q | q
          · exact HNnone.out j q
          · obtain rfl : j = k := by omega
            exact hin.out), k2⟩
        case measure => simp [intOf]; omega
      · go_wp2_with (fail)
        go_roundw
        case rel => exact ⟨k + 1, by omega, by go_num, Lib.hid (fun j hj => by
          rcases Nat.lt_or_ge j k with q | q
          · exact HNnone.out j q
          · obtain rfl : j = k := by omega
            exact hin.out), k2⟩
        case measure => simp [intOf]; omega
      · go_wp2_with (fail)
        go_roundw
        case rel => exact ⟨k + 1, by omega, by go_num, Lib.hid (fun j hj => by
          rcases Nat.lt_or_ge j k with q | q
          · exact HNnone.out j q
          · obtain rfl : j = k := by omega
            exact hin.out), k2⟩
        case measure => simp [intOf]; omega
      · have hR : R = 0 := by rw [ER.out, noneLHit r k hlt hin.out]; rfl
        have HR := Lib.hid hR
        clear hR
        go_wp2_with (fail)
        go_ret
        exact ⟨by rw [HR.out] <;> rfl, k2⟩
    · have hge' : (3 : Int) ≤ (k : Int) := by omega
      have hk3 : k = 3 := by omega
      subst hk3
      go_wp2_with (refine wpList_load_cells rfl 124 (.global 1) rfl ⟨1, 0, none⟩ rfl (rngV wideL) wideG rfl _ ((HT.out.next kbnone).2.cellsAt) Tryz.underlying124 rfl inf_wide ?_)
      go_loopw [45] (fun i wr => ∃ k : Nat, k ≤ 10 ∧ i = .int .i64 k ∧ Hid (∀ j, j < k → inR r (wideL.getD j (0, 0)).1 (wideL.getD j (0, 0)).2 = false) ∧ Below w.heap.size w wr) (fun i _ => 10 - (intOf i).toNat)
      case atStart => exact ⟨0, Nat.zero_le _, rfl, Lib.hid (fun j h => absurd h (Nat.not_lt_zero _)), kbnone⟩
      case round =>
        obtain ⟨k, hk, rfl, HNwide, kbwide⟩ := hrel
        rcases Nat.lt_or_ge k 10 with hlt | hge
        · obtain ⟨X, Y, hXY, ix⟩ := idx_wide k hlt
          have hlt' : (k : Int) < 10 := by omega
          obtain ⟨c1, e1⟩ : ∃ b, decide (X ≤ r) = b := ⟨_, rfl⟩
          obtain ⟨c2, e2⟩ : ∃ b, decide (r ≤ Y) = b := ⟨_, rfl⟩
          have hin : Hid (inR r (wideL.getD k (0, 0)).1 (wideL.getD k (0, 0)).2 = (c1 && c2)) := Lib.hid (by rw [hXY, inR, e1, e2])
          have k2 : Below w.heap.size w (wr.alloc (.cells #[.int .i32 X, .int .i32 Y] 122)) := kbwide.alloc kbwide.size _
          clear hXY
          cases c1 <;> cases c2
          · go_wp2_with (fail)
            go_roundw
            case rel => exact ⟨k + 1, by omega, by go_num, Lib.hid (fun j hj => by
              rcases Nat.lt_or_ge j k with q | q
              · exact HNwide.out j q
              · obtain rfl : j = k := by omega
                exact hin.out), k2⟩
            case measure => simp [intOf]; omega
          · go_wp2_with (fail)
            go_roundw
            case rel => exact ⟨k + 1, by omega, by go_num, Lib.hid (fun j hj => by
              rcases Nat.lt_or_ge j k with q | q
              · exact HNwide.out j q
              · obtain rfl : j = k := by omega
                exact hin.out), k2⟩
            case measure => simp [intOf]; omega
          · go_wp2_with (fail)
            go_roundw
            case rel => exact ⟨k + 1, by omega, by go_num, Lib.hid (fun j hj => by
              rcases Nat.lt_or_ge j k with q | q
              · exact HNwide.out j q
              · obtain rfl : j = k := by omega
                exact hin.out), k2⟩
            case measure => simp [intOf]; omega
          · have hR : R = 2 := by rw [ER.out, anyR_no r noneL HNnone.out, wideLHit r k hlt hin.out]; rfl
            have HR := Lib.hid hR
            clear hR
            go_wp2_with (fail)
            go_ret
            exact ⟨by rw [HR.out] <;> rfl, k2⟩
        · have hge' : (10 : Int) ≤ (k : Int) := by omega
          have hk3 : k = 10 := by omega
          subst hk3
          have hR : R = 1 := by rw [ER.out, anyR_no r noneL HNnone.out, anyR_no r wideL HNwide.out]; rfl
          have HR := Lib.hid hR
          clear hR
          go_wp2_with (fail)
          go_ret
          exact ⟨by rw [HR.out] <;> rfl, kbwide⟩
set_option maxRecDepth 100000 in
set_option maxHeartbeats 8000000 in
theorem Width_c (r : Int) (w : World) (hT : TabU w) : Calls Tryz.prog 55 #[.int .i32 r] w fun e w' => e = .returned (.int .i64 (widI r)) ∧ Below w.heap.size w w' := by
  have HT := Lib.hid hT; clear hT
  obtain ⟨R, eR⟩ : ∃ R, widI r = R := ⟨_, rfl⟩
  rw [eR]
  have iv : r < 32 ∨ (32 ≤ r ∧ r < 127) ∨ (127 ≤ r ∧ r ≤ 159) ∨ (160 ≤ r ∧ r ≤ 55295) ∨ (55296 ≤ r ∧ r ≤ 57343) ∨ (57344 ≤ r ∧ r ≤ 1114111) ∨ 1114111 < r := by omega
  have bad : badW r = true → R = 0 := by intro h; rw [← eR, widI, h]; rfl
  rcases iv with h | h | h | h | h | h | h
  · have d1 : decide (r < 32) = true := decide_eq_true (by omega)
    have d2 : decide (127 ≤ r) = false := decide_eq_false (by omega)
    have d3 : decide (r ≤ 159) = true := decide_eq_true (by omega)
    have d4 : decide (55296 ≤ r) = false := decide_eq_false (by omega)
    have d5 : decide (r ≤ 57343) = true := decide_eq_true (by omega)
    have d6 : decide (1114111 < r) = false := decide_eq_false (by omega)
    have hbw : badW r = true := by simp only [badW, inR, d1, d2, d3, d4, d5, d6]; first | rfl | (simp; omega)
    have hR := bad hbw
    subst hR
    clear bad hbw h eR
    go_enter Tryz.func55, Tryz.ntmps55
    go_wp2
    go_ret
    exact ⟨rfl, Below.refl _ _⟩
  · have d1 : decide (r < 32) = false := decide_eq_false (by omega)
    have d2 : decide (127 ≤ r) = false := decide_eq_false (by omega)
    have d3 : decide (r ≤ 159) = true := decide_eq_true (by omega)
    have d4 : decide (55296 ≤ r) = false := decide_eq_false (by omega)
    have d5 : decide (r ≤ 57343) = true := decide_eq_true (by omega)
    have d6 : decide (1114111 < r) = false := decide_eq_false (by omega)
    have hbw : badW r = false := by simp only [badW, inR, d1, d2, d3, d4, d5, d6]; first | rfl | (simp; omega)
    exact Width_in1 r w R HT.out eR hbw d1 d2 d3 d4 d5 d6
  · have d1 : decide (r < 32) = false := decide_eq_false (by omega)
    have d2 : decide (127 ≤ r) = true := decide_eq_true (by omega)
    have d3 : decide (r ≤ 159) = true := decide_eq_true (by omega)
    have d4 : decide (55296 ≤ r) = false := decide_eq_false (by omega)
    have d5 : decide (r ≤ 57343) = true := decide_eq_true (by omega)
    have d6 : decide (1114111 < r) = false := decide_eq_false (by omega)
    have hbw : badW r = true := by simp only [badW, inR, d1, d2, d3, d4, d5, d6]; first | rfl | (simp; omega)
    have hR := bad hbw
    subst hR
    clear bad hbw h eR
    go_enter Tryz.func55, Tryz.ntmps55
    go_wp2
    go_ret
    exact ⟨rfl, Below.refl _ _⟩
  · have d1 : decide (r < 32) = false := decide_eq_false (by omega)
    have d2 : decide (127 ≤ r) = true := decide_eq_true (by omega)
    have d3 : decide (r ≤ 159) = false := decide_eq_false (by omega)
    have d4 : decide (55296 ≤ r) = false := decide_eq_false (by omega)
    have d5 : decide (r ≤ 57343) = true := decide_eq_true (by omega)
    have d6 : decide (1114111 < r) = false := decide_eq_false (by omega)
    have hbw : badW r = false := by simp only [badW, inR, d1, d2, d3, d4, d5, d6]; first | rfl | (simp; omega)
    exact Width_in2 r w R HT.out eR hbw d1 d2 d3 d4 d5 d6
  · have d1 : decide (r < 32) = false := decide_eq_false (by omega)
    have d2 : decide (127 ≤ r) = true := decide_eq_true (by omega)
    have d3 : decide (r ≤ 159) = false := decide_eq_false (by omega)
    have d4 : decide (55296 ≤ r) = true := decide_eq_true (by omega)
    have d5 : decide (r ≤ 57343) = true := decide_eq_true (by omega)
    have d6 : decide (1114111 < r) = false := decide_eq_false (by omega)
    have hbw : badW r = true := by simp only [badW, inR, d1, d2, d3, d4, d5, d6]; first | rfl | (simp; omega)
    have hR := bad hbw
    subst hR
    clear bad hbw h eR
    go_enter Tryz.func55, Tryz.ntmps55
    go_wp2
    go_ret
    exact ⟨rfl, Below.refl _ _⟩
  · have d1 : decide (r < 32) = false := decide_eq_false (by omega)
    have d2 : decide (127 ≤ r) = true := decide_eq_true (by omega)
    have d3 : decide (r ≤ 159) = false := decide_eq_false (by omega)
    have d4 : decide (55296 ≤ r) = true := decide_eq_true (by omega)
    have d5 : decide (r ≤ 57343) = false := decide_eq_false (by omega)
    have d6 : decide (1114111 < r) = false := decide_eq_false (by omega)
    have hbw : badW r = false := by simp only [badW, inR, d1, d2, d3, d4, d5, d6]; first | rfl | (simp; omega)
    exact Width_in3 r w R HT.out eR hbw d1 d2 d3 d4 d5 d6
  · have d1 : decide (r < 32) = false := decide_eq_false (by omega)
    have d2 : decide (127 ≤ r) = true := decide_eq_true (by omega)
    have d3 : decide (r ≤ 159) = false := decide_eq_false (by omega)
    have d4 : decide (55296 ≤ r) = true := decide_eq_true (by omega)
    have d5 : decide (r ≤ 57343) = false := decide_eq_false (by omega)
    have d6 : decide (1114111 < r) = true := decide_eq_true (by omega)
    have hbw : badW r = true := by simp only [badW, inR, d1, d2, d3, d4, d5, d6]; first | rfl | (simp; omega)
    have hR := bad hbw
    subst hR
    clear bad hbw h eR
    go_enter Tryz.func55, Tryz.ntmps55
    go_wp2
    go_ret
    exact ⟨rfl, Below.refl _ _⟩
end Go.Proofs.YtndjggabdajbfaaGreatDoor


