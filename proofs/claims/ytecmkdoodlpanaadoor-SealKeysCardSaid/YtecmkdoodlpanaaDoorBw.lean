/- Eight words built into an array. Conditions: none. -/
import Derived.Test.YtecmkdoodlpanaaDoorSh2
import Derived.Great.BuildSlice
namespace Go.Proofs.YtecmkdoodlpanaaDoor
open Go Go.RowKit
theorem zero_words : ((Tryd.prog.info? 73).bind (·.zero)).map (·.cells) = some #[wv 0, wv 0, wv 0, wv 0, wv 0, wv 0, wv 0, wv 0] := by kernel_rfl
theorem info_u32 : (Tryd.prog.info? 23).map (·.size) = some 1 := by kernel_rfl
theorem built_words (a b c d e f g h : BitVec 32) : Tryd.prog.built 73 [(0, wv a), (1, wv b), (2, wv c), (3, wv d), (4, wv e), (5, wv f), (6, wv g), (7, wv h)] = some #[wv a, wv b, wv c, wv d, wv e, wv f, wv g, wv h] := by
  have hz := zero_words
  have hi := info_u32
  cases hie : Tryd.prog.info? 23 with
  | none => simp [hie] at hi
  | some ie =>
    cases hit : Tryd.prog.info? 73 with
    | none => simp [hit] at hz
    | some it =>
      cases hzz : it.zero with
      | none => simp [hit, hzz] at hz
      | some z =>
        simp only [hie, hit, hzz, Option.map_some, Option.some.injEq, Option.bind_some] at hi hz
        unfold Program.built
        simp only [hit, Tryd.underlying73, hzz, hie, hi, hz]
        have hf := Great.fill_flat [wv a, wv b, wv c, wv d, wv e, wv f, wv g, wv h] #[wv 0, wv 0, wv 0, wv 0, wv 0, wv 0, wv 0, wv 0] (fun v hv => by simp only [List.mem_cons, List.not_mem_nil, or_false] at hv; rcases hv with rfl | rfl | rfl | rfl | rfl | rfl | rfl | rfl <;> rfl) rfl
        simp only [List.zipIdx_cons, List.zipIdx_nil, List.map_cons, List.map_nil, Nat.reduceAdd, Nat.zero_add] at hf
        exact hf
/-- Eight words read out of a block of their own. -/
theorem info_words : (Tryd.prog.info? 73).map (·.size) = some 8 := by kernel_rfl
theorem wpList_loadW (w : World) {ops : Array Oper} {rest : List Oper} {o : Oper} {a : Act} {Q : Exit → Act → World → Prop} (hgd : o.guard = none) (x : Operand) (ho : o.op = .load 73 x)
    (g : Nat) (l : List (BitVec 32)) (hx : a.eval x = .pointer (some ⟨g, 0, none⟩)) (hW : Ws w g 73 l) (h8 : l.length = 8)
    (h : wpList Tryd.prog ops Q rest (a.put o.dst (.agg (l.map wv).toArray)) w) : wpList Tryd.prog ops Q (o :: rest) a w :=
  wpList_load_row hgd 73 x ho g hx _ _ _ _ hW Tryd.underlying73 rfl (by rw [info_words]; simp [h8]) h
theorem wpList_storeW (w : World) {ops : Array Oper} {rest : List Oper} {o : Oper} {a : Act} {Q : Exit → Act → World → Prop} (hgd : o.guard = none) (x y : Operand) (ho : o.op = .store 73 x y)
    (g : Nat) (C : Array Value) (hx : a.eval x = .pointer (some ⟨g, 0, none⟩)) (hy : a.eval y = .agg C) (l old : List (BitVec 32)) (hC : C = (l.map wv).toArray) (hW : Ws w g 73 old) (h8 : l.length = 8) (o8 : old.length = 8)
    (h : ∀ w', Ws w' g 73 l → w.grownBy w' (some g) → wpList Tryd.prog ops Q rest (a.put o.dst undef) w') : wpList Tryd.prog ops Q (o :: rest) a w := by
  subst hC
  refine wpList_store_row hgd 73 x y ho g _ hx hy 73 _ hW (by rw [info_words]; simp [h8]) (by simp [h8, o8]) ?_ (h _ (setRow_heap w g _ _ _ _ hW) ⟨rfl, rfl, rfl, by simp, fun k _ hk => setRow_other w g k _ (fun e => hk (by rw [e]))⟩)
  simp only [Array.all_eq_true_iff_forall_mem]
  intro u hu
  simp only [List.mem_toArray, List.mem_map] at hu
  obtain ⟨_, _, rfl⟩ := hu
  rfl
theorem results_words {fn : Func} {p : Tmp} (h : fn.results = #[.cell p 73]) (tmps : Array Value) (w : World) (g : Nat) (l : List (BitVec 32)) (hp : tmps.getD p undef = .pointer (some ⟨g, 0, none⟩)) (hW : Ws w g 73 l) (h8 : l.length = 8) :
    (results fn tmps).run Tryd.prog w = .ok (.agg (l.map wv).toArray) w :=
  results_cell_row h tmps w g _ _ _ _ hp hW Tryd.underlying73 rfl (by rw [info_words]; simp [h8])
end Go.Proofs.YtecmkdoodlpanaaDoor
