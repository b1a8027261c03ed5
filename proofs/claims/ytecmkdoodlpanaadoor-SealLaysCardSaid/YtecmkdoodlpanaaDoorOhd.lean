/- A header by value, opened: its four numbers. Conditions: none. -/
import Derived.Test.YtecmkdoodlpanaaDoorSe2
import Derived.Test.YtecmkdoodlpanaaDoorOp2
namespace Go.Proofs.YtecmkdoodlpanaaDoor
open Go Go.RowKit

theorem opn_hd {H : Type} {enc : TypeId × Value → H} {P : Program} {W : World} {base t : Nat} {f0 f1 f2 f3 : Field} {v : Value} {d : DataW H} {p : List MemPlace} (hs : P.underlying t = some (.struct #[f0, f1, f2, f3])) (hone : Deep.oneCellFields P #[f0, f1, f2, f3] = true) (hC : P.cellsOf t = 4)
    (h0 : P.underlying f0.type = some (.int .u8)) (h1 : P.underlying f1.type = some .bool) (h2 : P.underlying f2.type = some (.int .u32)) (h3 : P.underlying f3.type = some (.int .u64))
    (hv : Value.okWide P W .any base t v) (hj : DataW.Trod enc P W 0 (fun _ => true) true t v d p) : ∃ (k e q : Nat) (d : Bool), v = .agg #[.int .u8 (k : Int), .bool d, .int .u32 (e : Int), .int .u64 (q : Int)] ∧ (k < 256 ∧ U32 e ∧ U64 q) := by
  obtain ⟨v0, v1, v2, v3, y0, y1, y2, y3, n, rfl, _, _, g0, g1, g2, g3⟩ := Joins.open_agg4 hs hone hC hv hj
  obtain ⟨a, e0, _, wa⟩ := DataW.trod_int h0 g0
  obtain ⟨b, e1, _⟩ := DataW.trod_bool h1 g1
  obtain ⟨c, e2, _, wc⟩ := DataW.trod_int h2 g2
  obtain ⟨q, e3, _, wq⟩ := DataW.trod_int h3 g3
  simp at e0 e1 e2 e3
  subst e0 e1 e2 e3
  simp only [Lit.wf, IntKind.min, IntKind.max, IntKind.signed, IntKind.bits, Bool.and_eq_true, decide_eq_true_eq] at wa wc wq
  refine ⟨a.toNat, c.toNat, q.toNat, b, ?_, ?_, ?_, ?_⟩
  · rw [Int.toNat_of_nonneg (by simpa using wa.1), Int.toNat_of_nonneg (by simpa using wc.1), Int.toNat_of_nonneg (by simpa using wq.1)]
  · have h1 : (0 : Int) ≤ a := by simpa using wa.1
    have h2 : a ≤ 255 := by simpa using wa.2
    omega
  · have h1 : (0 : Int) ≤ c := by simpa using wc.1
    have h2 : c ≤ 4294967295 := by simpa using wc.2
    unfold U32; omega
  · have h1 : (0 : Int) ≤ q := by simpa using wq.1
    have h2 : q ≤ 18446744073709551615 := by simpa using wq.2
    unfold U64; omega
end Go.Proofs.YtecmkdoodlpanaaDoor
