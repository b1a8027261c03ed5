/- A store of one cell, the world left open: what is known of the block goes on. Conditions: none. -/
import Derived.Test.YtgnciejbhaebeaaSp
import Derived.Deep.MidRow
namespace Go.Proofs.Ytgnciejbhaebeaa
open Go Go.RowKit

theorem run_put1 {P : Program} (w : World) (b o : Nat) (ty : TypeId) (v : Value) (ht : w.there b o 1) (hi : (P.info? ty).map (·.size) = some 1) (h1 : v.oneCell' = true) :
    (storeVar ty ⟨b, o, none⟩ v).run P w = .ok () (w.setCells b o [v]) := by
  have := run_storeCells_cells (P := P) b o [v] 0 w (fun j hj => by simpa using (ht j (by simpa using hj)).1) (fun j hj => by simpa using (ht j (by simpa using hj)).2) (fun x hx => by simp at hx; subst hx; exact h1)
  have hc : v.cells = #[v] := by cases v <;> first | rfl | cases h1
  cases hq : P.info? ty with
  | none => simp [hq] at hi
  | some i =>
    have hs : i.size = 1 := by simpa [hq] using hi
    simp only [Nat.add_zero] at this
    simp [storeVar, sizeOf, typeInfo, hq, hc, hs, this]
theorem there_one {w : World} {g i : Nat} {cs : Array Value} {t : TypeId} (h : w.heap[g]? = some (.cells cs t (0, 0))) (hi : i < cs.size) : w.there g i 1 := by
  intro j hj
  obtain rfl : j = 0 := by omega
  rw [Nat.add_zero]
  exact ⟨by rw [heap_cell h, Array.getElem?_eq_getElem hi]; rfl, heap_free h i⟩
/-- A store of one cell into a block that is known whole. -/
theorem wpList_put1 {P : Program} (w : World) {ops : Array Oper} {rest : List Oper} {o : Oper} {a : Act} {Q : Exit → Act → World → Prop} (hgd : o.guard = none) (ty : TypeId) (x y : Operand) (ho : o.op = .store ty x y)
    (g i : Nat) (v : Value) (hx : a.eval x = .pointer (some ⟨g, i, none⟩)) (hy : a.eval y = v) (t : TypeId) (cs : Array Value) (hB : w.heap[g]? = some (.cells cs t (0, 0))) (hi : i < cs.size)
    (hs : (P.info? ty).map (·.size) = some 1) (h1 : v.oneCell' = true)
    (h : ∀ w', w'.heap[g]? = some (.cells (cs.setIfInBounds i v) t (0, 0)) → w.grownBy w' (some g) → wpList P ops Q rest (a.put o.dst undef) w') : wpList P ops Q (o :: rest) a w := by
  refine wpList_plain hgd fun K hK => ?_
  unfold Oper.wp execOp
  simp only [ho, hx, hy, Instr.storeAt, Instr.sureAddr, Sem.run_bind, Sem.run_pure, Result.andThen_ok, run_put1 w g i ty v (there_one hB hi) hs h1]
  refine hK _ _ (h _ ?_ ?_)
  · exact heap_set hB i v
  · exact only_set g i v
theorem info_b : (Try.prog.info? 5).map (·.size) = some 1 := by kernel_rfl
theorem wpList_putB (w : World) {ops : Array Oper} {rest : List Oper} {o : Oper} {a : Act} {Q : Exit → Act → World → Prop} (hgd : o.guard = none) (x y : Operand) (ho : o.op = .store 5 x y)
    (g i : Nat) (b : UInt8) (hx : a.eval x = .pointer (some ⟨g, i, none⟩)) (hy : a.eval y = bv b) (t : TypeId) (l : List UInt8) (hB : Bs w g t l) (hi : i < l.length)
    (h : ∀ w', Bs w' g t (l.set i b) → w.grownBy w' (some g) → wpList Try.prog ops Q rest (a.put o.dst undef) w') : wpList Try.prog ops Q (o :: rest) a w := by
  refine wpList_put1 w hgd 5 x y ho g i (bv b) hx hy t _ hB (by simpa using hi) info_b rfl fun w' h1 h2 => h w' ?_ h2
  unfold Bs
  rw [h1, List.map_set]
  simp
theorem far_cell {w w' : World} {r g i : Nat} {v : Value} (hg : w.grownBy w' (some r)) (hc : w.cell? ⟨g, i, none⟩ = some v) (hne : r ≠ g) : w'.cell? ⟨g, i, none⟩ = some v :=
  (World.cell?_of_block (w := w) (a := ⟨g, i, none⟩) (hg.block g (World.block_lt_of_cell? w ⟨g, i, none⟩ hc) (fun e => hne (by injection e with e; exact e.symm)))).trans hc
end Go.Proofs.Ytgnciejbhaebeaa
