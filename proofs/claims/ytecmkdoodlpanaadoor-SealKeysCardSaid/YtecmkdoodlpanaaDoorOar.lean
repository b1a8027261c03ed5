/- An array of 32 bytes by value, opened: its bytes. Conditions: none. -/
import Derived.Test.YtecmkdoodlpanaaDoorSp
import Derived.Test.YtecmkdoodlpanaaDoorOp2
import Derived.WideKeyArr2
namespace Go.Proofs.YtecmkdoodlpanaaDoor
open Go Go.RowKit

theorem mapM_mem {α β : Type} (f : α → Option β) : ∀ (L : List α) (ys : List β), L.mapM f = some ys → ∀ i ∈ L, ∃ y, f i = some y
  | [], _, _, i, hi => by cases hi
  | x :: L, ys, h, i, hi => by
    rw [List.mapM_cons] at h
    simp only [bind, Option.bind_eq_some_iff, pure, Option.some.injEq] at h
    obtain ⟨y, hy, ys', hys, _⟩ := h
    rcases List.mem_cons.1 hi with rfl | hi
    · exact ⟨y, hy⟩
    · exact mapM_mem f L ys' hys i hi
theorem list_bytes : ∀ (l : List Value), (∀ u ∈ l, ∃ b : UInt8, u = bv b) → ∃ bs : List UInt8, l = bs.map bv
  | [], _ => ⟨[], rfl⟩
  | u :: l, h => by
    obtain ⟨b, hb⟩ := h u List.mem_cons_self
    obtain ⟨bs, hbs⟩ := list_bytes l (fun v hv => h v (List.mem_cons_of_mem _ hv))
    exact ⟨b :: bs, by rw [hb, hbs]; rfl⟩
theorem opn_arr8 {H : Type} {enc : TypeId × Value → H} {P : Program} {W : World} {base t e n : Nat} {v : Value} {d : DataW H} {p : List MemPlace} (ht : P.underlying t = some (.array n e)) (hpl : P.plainKey e = true) (he : P.underlying e = some (.int .u8)) (h1 : P.cellsOf e = 1) (hC : P.cellsOf t = n)
    (hv : Value.okWide P W .any base t v) (hj : DataW.Trod enc P W 0 (fun _ => true) true t v d p) : ∃ l : List UInt8, v = .agg (l.map bv).toArray ∧ l.length = n := by
  obtain ⟨xs, rfl, hn⟩ := WideMaps.okWide_arr (A := (⟨ht, hpl, h1, hC⟩ : WideMaps.ArrKey P t e n)) hv
  obtain ⟨fuel, hf⟩ := hj
  have hall : ∀ u ∈ xs.toList, ∃ b : UInt8, u = bv b := by
    cases fuel with
    | zero => simp [DataW.trod] at hf
    | succ m =>
      rw [DataW.trod_step] at hf
      unfold DataW.trodStep at hf
      simp only [ht, Value.cells] at hf
      rw [if_pos (by rw [hC]; simpa using hn)] at hf
      simp only [Option.map_eq_some_iff] at hf
      obtain ⟨ys, hy, _⟩ := hf
      intro u hu
      obtain ⟨i, hi, rfl⟩ := List.mem_iff_getElem.1 hu
      have hi' : i < n := by rw [← hn]; simpa using hi
      obtain ⟨y, hyi⟩ := mapM_mem _ _ _ hy i (List.mem_range.2 hi')
      obtain ⟨a, ea, _, wa⟩ := DataW.trod_int he hyi
      rw [h1, Nat.mul_one, List.drop_eq_getElem_cons hi, List.take_succ_cons, List.take_zero] at ea
      injection ea with ea _
      rw [ea]
      simp only [Lit.wf, IntKind.min, IntKind.max, IntKind.signed, IntKind.bits, Bool.and_eq_true, decide_eq_true_eq] at wa
      have w1 : (0 : Int) ≤ a := by simpa using wa.1
      have w2 : a ≤ 255 := by simpa using wa.2
      refine ⟨UInt8.ofNat a.toNat, ?_⟩
      unfold bv
      rw [UInt8.toNat_ofNat']
      congr 1
      omega
  obtain ⟨l, hl⟩ := list_bytes xs.toList hall
  refine ⟨l, ?_, ?_⟩
  · rw [← hl]
  · rw [← hn, ← List.length_map bv, ← hl]; simp
end Go.Proofs.YtecmkdoodlpanaaDoor
