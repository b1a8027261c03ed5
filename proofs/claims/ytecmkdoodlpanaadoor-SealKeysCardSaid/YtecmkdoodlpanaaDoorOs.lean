/- Slices of bytes in a row of the call's own. Conditions: none. -/
import Derived.Test.YtecmkdoodlpanaaDoorSl
namespace Go.Proofs.YtecmkdoodlpanaaDoor
open Go Go.RowKit

theorem info_sl : (Tryd.prog.info? 22).map (fun i => (i.zero, i.size, i.bytes)) = some (some (.slice none 0 0), 1, 24) := by kernel_rfl
/-- 'make([][]byte, n)'. -/
theorem wpList_makeS (w : World) {ops : Array Oper} {rest : List Oper} {o : Oper} {a : Act} {Q : Exit → Act → World → Prop} (hgd : o.guard = none) (l c : Operand) (ho : o.op = Op.makeSlice 61 l c)
    (kl kc : IntKind) (L C : Int) (n : Nat) (hl : a.eval l = .int kl L) (hc : a.eval c = .int kc C) (hL : L = (n : Int)) (hC : C = (n : Int)) (hn : n ≤ 6000000000000)
    (h : ∀ w', Own w' w.heap.size 22 (.slice (some ⟨w.heap.size, 0, none⟩) n n) (List.replicate n (.slice none 0 0)) → Below w.heap.size w w' → w.grownBy w' none → wpList Tryd.prog ops Q rest (a.put o.dst (.slice (some ⟨w.heap.size, 0, none⟩) n n)) w') :
    wpList Tryd.prog ops Q (o :: rest) a w := by
  obtain ⟨i0, hi, hz0, hz1, hz2⟩ := info_parts info_sl
  refine wpList_make_full w hgd l c 61 ho w.heap.size 22 i0 (.slice none 0 0) 1 Tryd.underlying61 hi hz0 hz1 kl kc L C n hl hc hL hC (by rw [hz2]; omega) (by unfold maxLen; omega) (Nat.le_refl _) ?_
  intro w' h1 h2
  refine h w' ?_ ((Below.refl _ _).grown h2 (Nat.le_refl _) (fun k hk => by cases hk)) h2
  have e : (madeCells (Value.slice none 0 0).cells (n * 1)).toList = List.replicate n (.slice none 0 0) := by
    rw [Nat.mul_one]; exact toList_madeCells_one _ _
  rw [e] at h1
  simpa [Own] using h1

/-- The value is a slice of these bytes, in a block behind B. -/
def SlV (w : World) (B : Nat) (v : Value) (b : List UInt8) : Prop :=
  ∃ A c, v = .slice A b.length c ∧ Rd w A (b.map bv) ∧ b.length ≤ c ∧ c ≤ maxLen ∧ ∀ a, A = some a → B < a.block
theorem SlV.below {w w' : World} {B : Nat} {v : Value} {b : List UInt8} (h : SlV w B v b) (hb : Below w.heap.size w w') : SlV w' B v b := by
  obtain ⟨A, c, h1, h2, h3⟩ := h
  exact ⟨A, c, h1, h2.below hb, h3⟩
theorem SlV.set {w : World} {B i : Nat} {v u : Value} {b : List UInt8} (h : SlV w B v b) : SlV (w.setCell ⟨B, i, none⟩ u) B v b := by
  obtain ⟨A, c, h1, h2, h3, h4, h5⟩ := h
  exact ⟨A, c, h1, h2.far u (fun a e => by have := h5 a e; simp; omega), h3, h4, h5⟩
theorem SlV.own {w : World} {B B' : Nat} {v : Value} {b : List UInt8} (h : OwnB w B' v b) (hB : B < B') : SlV w B v b := by
  obtain ⟨A, c, h1, h2, h3, h4, h5⟩ := h.form
  exact ⟨A, c, h1, h4, h2, h3, fun a e => Nat.lt_of_lt_of_le hB (h5 a e).1⟩

/-- k copies lie in the row, the rest is nil. -/
def Cps (w : World) (B n : Nat) (bss : List (List UInt8)) (k : Nat) : Prop :=
  ∃ vs : List Value, vs.length = k ∧ Own w B 22 (.slice (some ⟨B, 0, none⟩) n n) (vs ++ List.replicate (n - k) (.slice none 0 0)) ∧ ∀ j (h1 : j < vs.length) (h2 : j < bss.length), SlV w B vs[j] bss[j]
theorem Cps.zero {w : World} {B n : Nat} {bss : List (List UInt8)} (h : Own w B 22 (.slice (some ⟨B, 0, none⟩) n n) (List.replicate n (.slice none 0 0))) : Cps w B n bss 0 :=
  ⟨[], rfl, by simpa using h, fun j h1 => absurd h1 (by simp)⟩
theorem Cps.below {w w' : World} {B n k : Nat} {bss : List (List UInt8)} (h : Cps w B n bss k) (hb : Below w.heap.size w w') : Cps w' B n bss k := by
  obtain ⟨vs, h1, h2, h3⟩ := h
  exact ⟨vs, h1, Own.below h2 hb, fun j g1 g2 => (h3 j g1 g2).below hb⟩
theorem Cps.put {w : World} {B n k : Nat} {bss : List (List UInt8)} (h : Cps w B n bss k) (hk : k < n) (v : Value) (hv : ∀ h2 : k < bss.length, SlV w B v bss[k]) : Cps (w.setCell ⟨B, k, none⟩ v) B n bss (k + 1) := by
  obtain ⟨vs, h1, h2, h3⟩ := h
  refine ⟨vs ++ [v], by simp [h1], ?_, fun j g1 g2 => ?_⟩
  · have := h2.set k v
    rw [List.set_append_right _ _ (by omega), h1, Nat.sub_self, show n - k = (n - (k + 1)) + 1 by omega, List.replicate_succ, List.set_cons_zero] at this
    rw [List.append_assoc]
    exact this
  · rcases Nat.lt_or_ge j vs.length with hj | hj
    · rw [List.getElem_append_left hj]
      exact (h3 j hj g2).set
    · have : j = k := by simp at g1; omega
      subst this
      rw [List.getElem_append_right hj]
      simp only [h1, Nat.sub_self, List.getElem_cons_zero]
      exact (hv g2).set
theorem Cps.cell {w : World} {B n k : Nat} {bss : List (List UInt8)} (h : Cps w B n bss k) (j : Nat) (hj : j < n) (hk : k ≤ n) : ∃ u, w.cell? ⟨B, j, none⟩ = some u := by
  obtain ⟨vs, h1, h2, h3⟩ := h
  have : j < (vs ++ List.replicate (n - k) (Value.slice none 0 0)).length := by simp [h1]; omega
  exact ⟨_, h2.cell j this⟩
theorem Cps.free {w : World} {B n k : Nat} {bss : List (List UInt8)} (h : Cps w B n bss k) (j : Nat) : w.frozen? ⟨B, j, none⟩ = false := by
  obtain ⟨vs, h1, h2, h3⟩ := h
  exact h2.free j
theorem Cps.rds {w : World} {B n : Nat} {bss : List (List UInt8)} (h : Cps w B n bss n) (hn : bss.length = n) : RdS w (some ⟨B, 0, none⟩) bss := by
  obtain ⟨vs, h1, h2, h3⟩ := h
  rw [Nat.sub_self, List.replicate_zero, List.append_nil] at h2
  obtain ⟨A, c, e, q1, q2, q3, q4, _⟩ := Own.form h2
  injection e with e1 e2 e3
  subst e1
  obtain ⟨_, hlt, _⟩ := q4 _ rfl
  refine .inr ⟨B, 0, rfl, hlt, fun k hk => ?_⟩
  obtain ⟨Ak, ck, g1, g2, g3, g4, _⟩ := h3 k (by omega) hk
  refine ⟨Ak, ck, ?_, g2, g3, g4⟩
  rw [Nat.zero_add, h2.cell k (by omega), g1]
end Go.Proofs.YtecmkdoodlpanaaDoor
