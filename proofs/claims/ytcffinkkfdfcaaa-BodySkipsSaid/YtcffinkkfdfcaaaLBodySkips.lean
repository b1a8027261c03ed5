/- The statement 'BodySkips': the row's step around the walk: whatever the input, the law returns true, and its arguments read as before. -/
import Derived.Test.YtcffinkkfdfcaaaRows
import Derived.Test.YtcffinkkfdfcaaaPBBodySkips2
import Derived.Test.YtcffinkkfdfcaaaPB11
import Derived.Test.YtcffinkkfdfcaaaPBBodySkips1
import Derived.Test.YtcffinkkfdfcaaaPB23
import Derived.Test.YtcffinkkfdfcaaaPB24
namespace Go.Proofs.Ytcffinkkfdfcaaa.bodySkipsDone
open Go.ChangeShapes Go.WideShapes Go.ChangeAt Go.RowKit
set_option linter.unusedVariables false

theorem own : ownKnob Try.prog.godebug = none := by kernel_rfl
theorem laidOut : laidOutB Try.prog = true := by kernel_rfl

set_option maxRecDepth 100000 in
theorem lifted (os : Os) (started : os.Started) (H : Type) (enc : TypeId × Value → H) :
    ReturnsInHanded {} Try.checked os 7 .any (Rows.bodySkipsSpec.pre6 enc Try.prog Try.f7 Rows.bodySkipsRow.domain false) (Rows.bodySkipsSpec.post enc Try.prog Try.f7 false true false false) := by
  refine returnsInHanded_of_change_sized (C := Try.checked) own started (by kernel_rfl) Try.func7
    (ChangeSpec.witness6 (enc := enc) (C := Try.checked) false ⟨#[], #[.agg #[.int .i64 0, .int .u32 0, .int .u8 0, .int .u8 0, .int .u8 0, .int .u8 0, .int .u8 0, .int .u8 0, .int .u8 0, .int .u8 0, .int .u8 0, .int .u8 0, .int .u8 0, .int .u8 0, .int .u8 0, .int .u8 0, .int .u8 0, .int .u8 0], .int .i64 0, .agg #[.int .u16 0, .int .u16 0, .int .u64 0, .int .u64 0, .bool false, .int .u32 0, .int .i64 0, .int .i64 0, .slice none 0 0], .agg #[.int .i64 0, .bool false, .bool false, .slice none 0 0, .slice none 0 0]], []⟩ 8 (by kernel_rfl) (by kernel_rfl) (by kernel_rfl) (by kernel_rfl)) ?_
  intro W base args ds gs before hval0 hW hcnd hsz0 _
  have hval : ∀ (j : Nat) t v, Try.f7.params[j]? = some t → args[j]? = some v → Value.okWide Try.prog W .any base t v := hval0
  have hW' := hW
  obtain ⟨p, q, hA0, hV, rfl, hfz, hnd⟩ := hW
  have hA : DataW.TrodAll enc Try.prog W 0 (fun _ => true) true Try.f7.params.toList args.toList ds p := hA0
  have hsz : (DataW.weightsEach Try.prog (Try.f7.params.toList ++ Rows.bodySkipsSpec.plain.varTypes Try.prog) (ds ++ gs)).all (· ≤ reachBytes) = true := hsz0
  rw [Try.params7] at hA hval hsz
  obtain ⟨v0, vs0, d0, ds0, p0, q0, hargs, rfl, rfl, h0, r0⟩ := trodAll_cons hA
  obtain ⟨v1, vs1, d1, ds1, p1, q1, rfl, rfl, rfl, h1, r1⟩ := trodAll_cons r0
  obtain ⟨v2, vs2, d2, ds2, p2, q2, rfl, rfl, rfl, h2, r2⟩ := trodAll_cons r1
  obtain ⟨v3, vs3, d3, ds3, p3, q3, rfl, rfl, rfl, h3, r3⟩ := trodAll_cons r2
  obtain ⟨rfl, rfl, rfl⟩ := trodAll_nil r3
  obtain rfl : args = #[v0, v1, v2, v3] := by cases args; simp_all
  obtain ⟨rfl, rfl⟩ := trodVars_none hV
  have lt0 : ∀ x ∈ p0, x.block < W.heap.size := by obtain ⟨m, hm⟩ := h0; exact DataW.trod_lt m _ _ _ hm
  have lt1 : ∀ x ∈ p1, x.block < W.heap.size := by obtain ⟨m, hm⟩ := h1; exact DataW.trod_lt m _ _ _ hm
  have lt2 : ∀ x ∈ p2, x.block < W.heap.size := by obtain ⟨m, hm⟩ := h2; exact DataW.trod_lt m _ _ _ hm
  have lt3 : ∀ x ∈ p3, x.block < W.heap.size := by obtain ⟨m, hm⟩ := h3; exact DataW.trod_lt m _ _ _ hm
  obtain ⟨mx0, ft0, l0, rfl, w0⟩ := opn_hel (⟨Try.underlying44, by kernel_rfl, by kernel_rfl, by kernel_rfl, ⟨Try.underlying41, by kernel_rfl, by kernel_rfl, Try.underlying3, Try.underlying24⟩, ⟨Try.underlying42, Try.underlying5, by kernel_rfl, by kernel_rfl⟩⟩ : HeT _ _ _ _ _ _ _) (hval 0 44 v0 rfl rfl) h0
  obtain ⟨a1, rfl, w1⟩ := opn_int Try.underlying3 (hval 1 3 v1 rfl rfl) h1
  obtain ⟨st2, ec2, ak2, th2, has2, id2, ix2, ct2, a2, n2, c2, bs2, rfl, w2⟩ := opn_dat (⟨Try.underlying29, by kernel_rfl, by kernel_rfl, by kernel_rfl, by kernel_rfl, by kernel_rfl, by kernel_rfl, by kernel_rfl, by kernel_rfl, by kernel_rfl, by kernel_rfl, by kernel_rfl, by kernel_rfl, Try.underlying22, Try.underlying22, Try.underlying23, Try.underlying23, Try.underlying4, rfl, ⟨Try.underlying27, by kernel_rfl, by kernel_rfl, Try.underlying24, Try.underlying3, Try.underlying3, Try.underlying25, Try.underlying5, by kernel_rfl, by kernel_rfl⟩⟩ : DaT _ _ _ _ _ _ _ _ _ _ _ _ _ _) (hval 2 29 v2 rfl rfl) h2 hsz (j := 2) rfl rfl
  obtain ⟨k3, cr3, li3, a3, n3, c3, bs3, as3, ns3, cs3, sub3, rfl, w3⟩ := opn_it (⟨Try.underlying74, Try.underlying76, by kernel_rfl, by kernel_rfl, by kernel_rfl, Try.underlying3, Try.underlying4, Try.underlying4, rfl, Try.underlying25, rfl, Try.underlying5, by kernel_rfl, by kernel_rfl⟩ : ItT _ _ _ _ _ _ _ _ _ _) (hval 3 76 v3 rfl rfl) h3 hsz (j := 3) rfl rfl
  clear hA0 hval0
  refine (BodySkips_walk W mx0 ft0 l0 w0 a1 w1 st2 ec2 ak2 th2 has2 id2 ix2 ct2 a2 n2 c2 bs2 w2 k3 cr3 li3 a3 n3 c3 bs3 as3 ns3 cs3 sub3 w3).mono fun e W' ⟨he, bel⟩ => ?_
  subst he
  exact ⟨_, rfl, _, _, _, [], _, [], hW', trodAll_mk1 (shut_bool Try.underlying4 _), (trodAll_cons_mk (Below.trod laidOut (by kernel_rfl) (of_decide_eq_true (by kernel_rfl)) h0 bel lt0) (trodAll_cons_mk (Below.trod laidOut (by kernel_rfl) (of_decide_eq_true (by kernel_rfl)) h1 bel lt1) (trodAll_cons_mk (Below.trod laidOut (by kernel_rfl) (of_decide_eq_true (by kernel_rfl)) h2 bel lt2) (trodAll_cons_mk (Below.trod laidOut (by kernel_rfl) (of_decide_eq_true (by kernel_rfl)) h3 bel lt3) trodAll_mk0)))), rfl, bel.frame _, fun h => by cases h⟩

theorem over : Rows.bodySkipsRow.holds Try.pinned (OpenSpec.ofChange Rows.bodySkipsSpec) :=
  OpenClaim.holds_of_wide 7 Try.f7 rfl rfl rfl rfl rfl rfl rfl ⟨rfl, rfl, rfl, rfl, rfl⟩ rfl rfl rfl rfl rfl (by kernel_rfl) Try.func7 (by kernel_rfl)
    (of_decide_eq_true (by kernel_rfl)) (by unfold Func.isWrapper; first | (rw [if_pos (by decide +kernel)]; kernel_rfl) | (rw [if_neg (by decide +kernel)]; exact ⟨rfl, rfl⟩))
    (fun os started H enc _ => lifted os started H enc)

theorem proved : Rows.BodySkipsSaid := over
#print axioms proved
end Go.Proofs.Ytcffinkkfdfcaaa.bodySkipsDone
