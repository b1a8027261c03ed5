/- Cuts of slices whose bound is known under another spelling. Conditions: the bound lies in the slice. -/
import Derived.Test.YtecmkdoodlpanaaDoorOs
namespace Go.Proofs.YtecmkdoodlpanaaDoor
open Go Go.RowKit

/-- A guarded operation whose guard lets it run is walked as a plain one. -/
theorem wpList_open {P : Program} {ops : Array Oper} {Q : Exit → Act → World → Prop} {a : Act} {w : World} {rest : List Oper} {o : Oper} (hw : Region.wanted o (yielded ops a.tmps) = true)
    (h : wpList P ops Q ({ o with guard := none } :: rest) a w) : wpList P ops Q (o :: rest) a w := by
  unfold wpList at h ⊢
  rw [if_pos hw]
  rw [if_pos (by simp [Region.wanted])] at h
  exact h
theorem wpList_sliceTo (w : World) {ops : Array Oper} {rest : List Oper} {o : Oper} {a : Act} {Q : Exit → Act → World → Prop} (hgd : o.guard = none) (x y : Operand) (ho : o.op = .slice 22 x none (some y) none)
    (A : Option Addr) (m c : Nat) (hx : a.eval x = .slice A m c) (V : Int) (hy : a.eval y = .int .i64 V) (k : Nat) (hV : V = (k : Int)) (hk : k ≤ c)
    (h : wpList Tryd.prog ops Q rest (a.put o.dst (.slice A k c)) w) : wpList Tryd.prog ops Q (o :: rest) a w := by
  subst hV
  refine wpList_plain hgd fun K hK => ?_
  have hk' : (k : Int) ≤ (c : Int) := by omega
  unfold Oper.wp execOp
  simp only [ho, Option.map_some, Option.map_none, hx, hy]
  go_simp
  exact hK _ _ h

theorem wpList_sliceFrom (w w0 : World) {ops : Array Oper} {rest : List Oper} {o : Oper} {a : Act} {Q : Exit → Act → World → Prop} (hgd : o.guard = none) (x y : Operand) (ho : o.op = .slice 22 x (some y) none none)
    (A : Option Addr) (m c : Nat) (hx : a.eval x = .slice A m c) (V : Int) (hy : a.eval y = .int .i64 V) (k : Nat) (hV : V = (k : Int)) (hk : k ≤ m) (hm : m ≤ c) (l : List UInt8) (hl : l.length = m) (hr : Rd w0 A (l.map bv))
    (h : ∀ A' c', Rd w0 A' ((l.drop k).map bv) → m - k ≤ c' → c' ≤ c → wpList Tryd.prog ops Q rest (a.put o.dst (.slice A' (m - k) c')) w) : wpList Tryd.prog ops Q (o :: rest) a w := by
  subst hV
  refine wpList_plain hgd fun K hK => ?_
  have hk' : (k : Int) ≤ (m : Int) := by omega
  have hc := hr.cut (k := k) (n := m) (c := c) (by rw [List.length_map]; exact hl) hk hm
  rw [← List.map_drop] at hc
  unfold Oper.wp execOp
  simp only [ho, Option.map_some, Option.map_none, hx, hy]
  go_simp
  exact hK _ _ (h _ _ hc (by omega) (by omega))

/-- 'append(v, x)' of one slice, laid in a new block. -/
theorem wpList_appS1 (w : World) {ops : Array Oper} {rest : List Oper} {o : Oper} {a : Act} {Q : Exit → Act → World → Prop} (hgd : o.guard = none) (s x : Operand)
    (ho : o.op = .call { callee := .builtin .append, args := #[s, x], argTypes := #[61, 61] })
    (B : Nat) (v : Value) (vs : List Value) (hs : a.eval s = v) (hown : Own w B 22 v vs) (X : Value) (hx : a.eval x = .slice (some ⟨w.heap.size, 0, none⟩) 1 1) (h1 : X.oneCell' = true)
    (hlen : vs.length + 1 ≤ 1000000000000) (hB : B ≤ w.heap.size)
    (h : ∀ v' w', Own w' B 22 v' (vs ++ [X]) → (w.alloc (.cells #[X] 22)).grownBy w' v.ownBlock → wpList Tryd.prog ops Q rest (a.put o.dst v') w') : wpList Tryd.prog ops Q (o :: rest) a (w.alloc (.cells #[X] 22)) := by
  obtain ⟨i0, hi, hz0, hz1, hz2⟩ := info_parts info_sl
  refine wpList_app _ hgd s x 61 ho B 22 i0 (.slice none 0 0) 24 Tryd.underlying61 hi hz0 hz1 hz2 rfl v vs hs (Own.alloc hown _) _ 1 1 [X] hx rfl (.inr ⟨w.heap.size, 0, rfl, by simp, fun k hk => ?_⟩) (fun u hu => by simp at hu; subst hu; exact h1) (by unfold maxLen; omega) (by omega) (by simp; omega) (fun v' w' g1 g2 _ => h v' w' g1 g2)
  have : k = 0 := by simp at hk; omega
  subst this
  exact cell_of_row _ _ 0 _ _ (0, 0) (heap_alloc_new w _)

/-- The values are slices of these bytes, in the memory of that world. -/
def SlL (w : World) (vs : List Value) (bss : List (List UInt8)) : Prop :=
  vs.length = bss.length ∧ ∀ j (h1 : j < vs.length) (h2 : j < bss.length), ∃ A c, vs[j] = .slice A bss[j].length c ∧ Rd w A (bss[j].map bv) ∧ bss[j].length ≤ c ∧ c ≤ maxLen
theorem SlL.nil_ (w : World) : SlL w [] [] := ⟨rfl, fun j h => absurd h (by simp)⟩
theorem SlL.snoc {w : World} {vs : List Value} {bss : List (List UInt8)} (h : SlL w vs bss) (A : Option Addr) (n c : Nat) (b : List UInt8) (hn : b.length = n) (hr : Rd w A (b.map bv)) (h1 : n ≤ c) (h2 : c ≤ maxLen) : SlL w (vs ++ [.slice A n c]) (bss ++ [b]) := by
  refine ⟨by simp [h.1], fun j g1 g2 => ?_⟩
  rcases Nat.lt_or_ge j vs.length with hj | hj
  · rw [List.getElem_append_left hj]
    obtain ⟨A', c', q1, q2, q3, q4⟩ := h.2 j hj (by have := h.1; omega)
    refine ⟨A', c', ?_, ?_⟩
    · rw [q1, List.getElem_append_left (by have := h.1; omega)]
    · rw [List.getElem_append_left (by have := h.1; omega)]; exact ⟨q2, q3, q4⟩
  · have e : j = vs.length := by simp at g1; omega
    subst e
    have e2 := h.1
    refine ⟨A, c, ?_, ?_⟩
    · simp [e2, hn]
    · simp [e2, hn]; exact ⟨hr, h1, h2⟩
theorem SlL.rds {w w' : World} {B : Nat} {v : Value} {vs : List Value} {bss : List (List UInt8)} (h : SlL w vs bss) (hb : Below w.heap.size w w') (ho : Own w' B 22 v vs) :
    ∃ A c, v = .slice A bss.length c ∧ RdS w' A bss := by
  obtain ⟨A, c, e, q1, q2, q3, q4, _⟩ := Own.form ho
  refine ⟨A, c, by rw [e, h.1], ?_⟩
  rcases Nat.eq_zero_or_pos bss.length with h0 | h0
  · left; exact List.eq_nil_of_length_eq_zero h0
  · obtain ⟨b, off, rfl, hlt, hc⟩ := q3.addr (by rw [h.1]; exact h0)
    refine .inr ⟨b, off, rfl, hlt, fun k hk => ?_⟩
    have hk' : k < vs.length := by rw [h.1]; exact hk
    obtain ⟨Ak, ck, g1, g2, g3, g4⟩ := h.2 k hk' hk
    exact ⟨Ak, ck, by rw [hc k hk', g1], g2.below hb, g3, g4⟩
end Go.Proofs.YtecmkdoodlpanaaDoor
