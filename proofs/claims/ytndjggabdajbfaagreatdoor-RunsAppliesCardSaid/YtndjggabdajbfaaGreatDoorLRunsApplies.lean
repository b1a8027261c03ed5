/- The statement 'RunsApplies': the row's step around the walk, and the card: whatever the input, the law returns true, and its arguments read as before. Condition: the tables start as the program's text lays them (the card ties them). -/
import Derived.Test.YtndjggabdajbfaaGreatDoorCards
import Derived.Test.YtndjggabdajbfaaGreatDoorTie
import Derived.Test.YtndjggabdajbfaaGreatDoorPG13
import Derived.Test.YtndjggabdajbfaaGreatDoorPG31
import Derived.Test.YtndjggabdajbfaaGreatDoorPG16
import Derived.ProofKit
import Derived.SevenTiedAt
namespace Go.Proofs.YtndjggabdajbfaaGreatDoor.runsAppliesDone
open Go.ChangeShapes Go.WideShapes Go.ChangeAt Go.RowKit
set_option linter.unusedVariables false

theorem own : ownKnob Tryz.prog.godebug = none := by kernel_rfl
theorem laidOut : laidOutB Tryz.prog = true := by kernel_rfl

theorem laid_met (os : Os) : laidMet Tryz.prog Rows.runsAppliesRow.laid ((laidWorld2 os).forCall (fun _ _ => 0) ⟨#[], #[.agg #[.int .i64 0, .int .i64 0, .slice none 0 0, .int .i64 0, .int .i64 0, .bool false, .int .u8 0, .string ⟨#[]⟩, .slice none 0 0], .slice none 0 0], []⟩).memory :=
  laidMet_of_run' 8 (by kernel_rfl) (by kernel_rfl)
theorem reads (os : Os) {H : Type} (enc : TypeId × Value → H) : ∃ places, DataW.whole enc Tryz.prog ((laidWorld2 os).forCall (fun _ _ => 0) ⟨#[], #[.agg #[.int .i64 0, .int .i64 0, .slice none 0 0, .int .i64 0, .int .i64 0, .bool false, .int .u8 0, .string ⟨#[]⟩, .slice none 0 0], .slice none 0 0], []⟩).memory Tryz.f3.params.toList Rows.runsAppliesSpec.vars false (#[.agg #[.int .i64 0, .int .i64 0, .slice none 0 0, .int .i64 0, .int .i64 0, .bool false, .int .u8 0, .string ⟨#[]⟩, .slice none 0 0], .slice none 0 0] : Array Value).toList 8 = some ([.agg [.lit (.int .i64 0), .lit (.int .i64 0), .nil, .lit (.int .i64 0), .lit (.int .i64 0), .lit (.bool false), .lit (.int .u8 0), .lit (.string []), .nil], .nil], [], places) :=
  ⟨[], by kernel_rfl⟩

set_option maxRecDepth 100000 in
theorem contract (H : Type) (enc : TypeId × Value → H) (W : World) (base : Nat) (args : Array Value) (ds gs : List (DataW H)) (before : List MemPlace)
    (hval0 : ∀ (j : Nat) t v, Tryz.f3.params[j]? = some t → args[j]? = some v → Value.okWide Tryz.prog W .any base t v)
    (hW : DataW.Whole enc Tryz.prog Tryz.f3.params.toList Rows.runsAppliesSpec.vars false W args.toList ds gs before)
    (hsz0 : (DataW.weightsEach Tryz.prog (Tryz.f3.params.toList ++ (OpenSpec.ofChange Rows.runsAppliesSpec).bare.plain.varTypes Tryz.prog) (ds ++ gs)).all (· ≤ reachBytes) = true) (hL : laidMetH Tryz.prog Rows.runsAppliesRow.laid W) :
    Calls Tryz.prog 3 args W fun e W' => ∃ v, e = .returned v ∧ Rows.runsAppliesSpec.post enc Tryz.prog Tryz.f3 false true false false W args v W' := by
  have hU := tabs2_of hL
  have hval : ∀ (j : Nat) t v, Tryz.f3.params[j]? = some t → args[j]? = some v → Value.okWide Tryz.prog W .any base t v := hval0
  have hW' := hW
  obtain ⟨p, q, hA0, hV, rfl, hfz, hnd⟩ := hW
  have hA : DataW.TrodAll enc Tryz.prog W 0 (fun _ => true) true Tryz.f3.params.toList args.toList ds p := hA0
  have hsz : (DataW.weightsEach Tryz.prog (Tryz.f3.params.toList ++ (OpenSpec.ofChange Rows.runsAppliesSpec).bare.plain.varTypes Tryz.prog) (ds ++ gs)).all (· ≤ reachBytes) = true := hsz0
  rw [Tryz.params3] at hA hval hsz
  obtain ⟨v0, vs0, d0, ds0, p0, q0, hargs, rfl, rfl, h0, r0⟩ := trodAll_cons hA
  obtain ⟨v1, vs1, d1, ds1, p1, q1, rfl, rfl, rfl, h1, r1⟩ := trodAll_cons r0
  obtain ⟨rfl, rfl, rfl⟩ := trodAll_nil r1
  obtain rfl : args = #[v0, v1] := by cases args; simp_all
  obtain ⟨rfl, rfl⟩ := trodVars_none hV
  have lt0 : ∀ x ∈ p0, x.block < W.heap.size := by obtain ⟨m, hm⟩ := h0; exact DataW.trod_lt m _ _ _ hm
  have lt1 : ∀ x ∈ p1, x.block < W.heap.size := by obtain ⟨m, hm⟩ := h1; exact DataW.trod_lt m _ _ _ hm
  obtain ⟨s0, a0, n0, c0, L0, m0, k0, rfl, w0⟩ := opn_scr (⟨Tryz.underlying25, by kernel_rfl, by kernel_rfl, Tryz.underlying3, Tryz.underlying3, Tryz.underlying22, by kernel_rfl, ⟨Tryz.underlying43, by kernel_rfl, rfl, rfl, rfl, by kernel_rfl, by kernel_rfl, Tryz.underlying21, Tryz.underlying5, rfl, ⟨Tryz.underlying41, by kernel_rfl, by kernel_rfl, Tryz.underlying38, Tryz.underlying38, Tryz.underlying5, Tryz.underlying39⟩⟩, Tryz.underlying3, Tryz.underlying3, Tryz.underlying4, Tryz.underlying5, Tryz.underlying9, Tryz.underlying23, Tryz.underlying9, by kernel_rfl, by kernel_rfl⟩ : ScT _ _ _ _ _ _ _ _ _ _ _ _ _ _ _ _ _ _ _ _ _) (hval 0 25 v0 rfl rfl) h0 hsz (j := 0) rfl rfl
  obtain ⟨a1, n1, c1, bs1, rfl, hn1, hr1, hc1, hm1, hl1⟩ := opn_bytes Tryz.underlying26 Tryz.underlying5 (by kernel_rfl) (by kernel_rfl) (hval 1 26 v1 rfl rfl) h1 hsz (j := 1) rfl rfl
  clear hA0 hval0
  refine (RunsApplies_walk W s0 a0 n0 c0 L0 m0 k0 w0 a1 n1 c1 bs1 hn1 hr1 hc1 hm1 hl1 hU).mono fun e W' ⟨he, bel⟩ => ?_
  subst he
  exact ⟨_, rfl, _, _, _, [], _, [], hW', trodAll_mk1 (shut_bool Tryz.underlying4 _), (trodAll_cons_mk (Below.trod laidOut (by kernel_rfl) (of_decide_eq_true (by kernel_rfl)) h0 bel lt0) (trodAll_cons_mk (Below.trod laidOut (by kernel_rfl) (of_decide_eq_true (by kernel_rfl)) h1 bel lt1) trodAll_mk0)), rfl, bel.frame _, fun h => by cases h⟩

set_option maxRecDepth 100000 in
theorem lifted (os : Os) (started : os.Started) (H : Type) (enc : TypeId × Value → H) (F : Stop.Interp) :
    ReturnsInHanded {} Tryz.checked os 3 .any ((OpenSpec.ofChange Rows.runsAppliesSpec).preRow enc Tryz.prog Tryz.f3 Rows.runsAppliesRow.domain false Rows.runsAppliesRow.laid) (((OpenSpec.ofChange Rows.runsAppliesSpec).at F).post enc Tryz.prog Tryz.f3 false true false false) := by
  obtain ⟨places, hx⟩ := reads os enc
  refine returnsInHanded_of_row (C := Tryz.checked) (s := OpenSpec.ofChange Rows.runsAppliesSpec) own started (by kernel_rfl) Tryz.func3
    (witness_row_at (enc := enc) (C := Tryz.checked) false (laidWorld2 os) #[.agg #[.int .i64 0, .int .i64 0, .slice none 0 0, .int .i64 0, .int .i64 0, .bool false, .int .u8 0, .string ⟨#[]⟩, .slice none 0 0], .slice none 0 0] rfl (by kernel_rfl) (by kernel_rfl) (by kernel_rfl)
      (OpenSpec.preRow_of_cond 8 hx (by kernel_rfl) (fun k hk => by cases hk) (by kernel_rfl) (laid_met os))) ?_
  intro W base args ds gs before hval hW _ _ hsz hL _ _
  exact contract H enc W base args ds gs before hval hW hsz hL

theorem said : Rows.RunsAppliesSaid :=
  OpenClaim.holds_of_cond 3 Tryz.f3 rfl rfl rfl rfl rfl rfl rfl ⟨rfl, rfl, rfl, rfl, rfl⟩ rfl rfl rfl rfl rfl (by kernel_rfl) Tryz.func3 (by kernel_rfl)
    (of_decide_eq_true (by kernel_rfl)) (by unfold Func.isWrapper; first | (rw [if_pos (by decide +kernel)]; kernel_rfl) | (rw [if_neg (by decide +kernel)]; exact ⟨rfl, rfl⟩))
    (fun os started H enc _ F => by rw [OpenClaim.pre_eq_preRow]; exact lifted os started H enc F)

theorem plain (f : FuncId) (fn : Func) (hf : Tryz.pinned.checked.prog.funcNamed "spyglass/spyglasslaw17.RunsApplies" = some f) (hfn : Tryz.pinned.checked.prog.funcs[f]? = some fn) :
    true = Tryz.pinned.checked.prog.looks [] ∧ ∀ (j : Nat) t, fn.params[j]? = some t → Tryz.pinned.checked.prog.wantsStandIn t = false := by
  obtain rfl : f = 3 := Option.some.inj ((show Tryz.prog.funcNamed "spyglass/spyglasslaw17.RunsApplies" = some 3 by kernel_rfl).symm.trans hf) |>.symm
  obtain rfl : fn = Tryz.f3 := (Option.some.inj (Tryz.func3.symm.trans hfn)).symm
  refine ⟨by kernel_rfl, fun j t ht => ?_⟩
  rw [Tryz.params3] at ht
  have hm := Array.mem_of_getElem? ht
  have hall : (#[25, 26] : Array Nat).all (fun t => Tryz.prog.wantsStandIn t == false) = true := by kernel_rfl
  have := Array.all_eq_true_iff_forall_mem.1 hall t hm
  exact beq_iff_eq.1 this

theorem proved : Rows.RunsAppliesCardSaid :=
  Claim7.holds_tied_plain_at .later [] _ _ _ _ said (fun _ h => by cases h) (by kernel_rfl) (fun _ h => by cases h) runsApplies_row_tie rfl ⟨rfl, rfl⟩ (by kernel_rfl) rfl plain (by kernel_rfl)
#print axioms proved
end Go.Proofs.YtndjggabdajbfaaGreatDoor.runsAppliesDone


