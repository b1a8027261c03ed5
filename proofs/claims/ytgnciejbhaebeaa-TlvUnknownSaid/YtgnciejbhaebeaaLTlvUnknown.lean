/- The statement 'TlvUnknown': the row's step around the walk: whatever the input, the law returns true, and its arguments read as before. -/
import Derived.Test.YtgnciejbhaebeaaRows
import Derived.Test.YtgnciejbhaebeaaPTlvUnknown8
import Derived.Test.YtgnciejbhaebeaaPTlvUnknown3
import Derived.Test.YtgnciejbhaebeaaPTlvUnknown7
namespace Go.Proofs.Ytgnciejbhaebeaa.tlvUnknownDone
open Go.ChangeShapes Go.WideShapes Go.ChangeAt Go.RowKit
set_option linter.unusedVariables false

theorem own : ownKnob Try.prog.godebug = none := by kernel_rfl
theorem laidOut : laidOutB Try.prog = true := by kernel_rfl

set_option maxRecDepth 100000 in
theorem lifted (os : Os) (started : os.Started) (H : Type) (enc : TypeId × Value → H) :
    ReturnsInHanded {} Try.checked os 12 .any (Rows.tlvUnknownSpec.pre6 enc Try.prog Try.f12 Rows.tlvUnknownRow.domain false) (Rows.tlvUnknownSpec.post enc Try.prog Try.f12 false true false false) := by
  refine returnsInHanded_of_change_sized (C := Try.checked) own started (by kernel_rfl) Try.func12
    (ChangeSpec.witness6 (enc := enc) (C := Try.checked) false ⟨#[], #[.slice none 0 0, .agg #[.int .i64 0, .bool false, .bool false, .slice none 0 0, .slice none 0 0], .int .i64 0, .slice none 0 0], []⟩ 8 (by kernel_rfl) (by kernel_rfl) (by kernel_rfl) (by kernel_rfl)) ?_
  intro W base args ds gs before hval0 hW hcnd hsz0 _
  have hval : ∀ (j : Nat) t v, Try.f12.params[j]? = some t → args[j]? = some v → Value.okWide Try.prog W .any base t v := hval0
  have hW' := hW
  obtain ⟨p, q, hA0, hV, rfl, hfz, hnd⟩ := hW
  have hA : DataW.TrodAll enc Try.prog W 0 (fun _ => true) true Try.f12.params.toList args.toList ds p := hA0
  have hsz : (DataW.weightsEach Try.prog (Try.f12.params.toList ++ Rows.tlvUnknownSpec.plain.varTypes Try.prog) (ds ++ gs)).all (· ≤ reachBytes) = true := hsz0
  rw [Try.params12] at hA hval hsz
  obtain ⟨v0, vs0, d0, ds0, p0, q0, hargs, rfl, rfl, h0, r0⟩ := trodAll_cons hA
  obtain ⟨v1, vs1, d1, ds1, p1, q1, rfl, rfl, rfl, h1, r1⟩ := trodAll_cons r0
  obtain ⟨v2, vs2, d2, ds2, p2, q2, rfl, rfl, rfl, h2, r2⟩ := trodAll_cons r1
  obtain ⟨v3, vs3, d3, ds3, p3, q3, rfl, rfl, rfl, h3, r3⟩ := trodAll_cons r2
  obtain ⟨rfl, rfl, rfl⟩ := trodAll_nil r3
  obtain rfl : args = #[v0, v1, v2, v3] := by cases args; simp_all
  obtain ⟨rfl, rfl⟩ := trodVars_none hV
  have lt0 : ∀ x ∈ p0, x.block < W.heap.size := by obtain ⟨m, hm⟩ := h0; exact DataW.trod_lt m _ _ _ hm
  have lt1 : ∀ x ∈ p1, x.block < W.heap.size := by obtain ⟨m, hm⟩ := h1; exact DataW.trod_lt m _ _ _ hm
  have lt2 : ∀ x ∈ p2, x.block < W.heap.size := by obtain ⟨m, hm⟩ := h2; exact DataW.trod_lt m _ _ _ hm
  have lt3 : ∀ x ∈ p3, x.block < W.heap.size := by obtain ⟨m, hm⟩ := h3; exact DataW.trod_lt m _ _ _ hm
  obtain ⟨a0, n0, c0, f0, rfl, hr0⟩ := opn_fo (⟨Try.underlying79, Try.underlying95, by kernel_rfl, by kernel_rfl, by kernel_rfl, Try.underlying3, Try.underlying4, Try.underlying4, rfl, Try.underlying27, rfl, Try.underlying5, by kernel_rfl, by kernel_rfl⟩ : ItT _ _ _ _ _ _ _ _ _ _) (hval 0 79 v0 rfl rfl) h0 hsz (j := 0) rfl rfl
  obtain ⟨k1, cr1, li1, a1, n1, c1, bs1, as1, ns1, cs1, sub1, rfl, w1⟩ := opn_it (⟨Try.underlying79, Try.underlying95, by kernel_rfl, by kernel_rfl, by kernel_rfl, Try.underlying3, Try.underlying4, Try.underlying4, rfl, Try.underlying27, rfl, Try.underlying5, by kernel_rfl, by kernel_rfl⟩ : ItT _ _ _ _ _ _ _ _ _ _) (hval 1 95 v1 rfl rfl) h1 hsz (j := 1) rfl rfl
  obtain ⟨a2, rfl, w2⟩ := opn_int Try.underlying3 (hval 2 3 v2 rfl rfl) h2
  obtain ⟨a3, n3, c3, zs3, rfl, hr3⟩ := opn_ints Try.underlying96 Try.underlying3 (by kernel_rfl) (by kernel_rfl) (hval 3 96 v3 rfl rfl) h3 hsz (j := 3) rfl rfl
  clear hA0 hval0
  refine (TlvUnknown_walk W a0 n0 c0 f0 hr0 k1 cr1 li1 a1 n1 c1 bs1 as1 ns1 cs1 sub1 w1 a2 w2 a3 n3 c3 zs3 hr3).mono fun e W' ⟨he, bel⟩ => ?_
  subst he
  exact ⟨_, rfl, _, _, _, [], _, [], hW', trodAll_mk1 (shut_bool Try.underlying4 _), (trodAll_cons_mk (Below.trod laidOut (by kernel_rfl) (of_decide_eq_true (by kernel_rfl)) h0 bel lt0) (trodAll_cons_mk (Below.trod laidOut (by kernel_rfl) (of_decide_eq_true (by kernel_rfl)) h1 bel lt1) (trodAll_cons_mk (Below.trod laidOut (by kernel_rfl) (of_decide_eq_true (by kernel_rfl)) h2 bel lt2) (trodAll_cons_mk (Below.trod laidOut (by kernel_rfl) (of_decide_eq_true (by kernel_rfl)) h3 bel lt3) trodAll_mk0)))), rfl, bel.frame _, fun h => by cases h⟩

theorem over : Rows.tlvUnknownRow.holds Try.pinned (OpenSpec.ofChange Rows.tlvUnknownSpec) :=
  OpenClaim.holds_of_wide 12 Try.f12 rfl rfl rfl rfl rfl rfl rfl ⟨rfl, rfl, rfl, rfl, rfl⟩ rfl rfl rfl rfl rfl (by kernel_rfl) Try.func12 (by kernel_rfl)
    (of_decide_eq_true (by kernel_rfl)) (by unfold Func.isWrapper; first | (rw [if_pos (by decide +kernel)]; kernel_rfl) | (rw [if_neg (by decide +kernel)]; exact ⟨rfl, rfl⟩))
    (fun os started H enc _ => lifted os started H enc)

theorem proved : Rows.TlvUnknownSaid := over
#print axioms proved
end Go.Proofs.Ytgnciejbhaebeaa.tlvUnknownDone
