/- Operations on strings: bytes out of one, bytes of one put behind others. Conditions: lengths that fit. -/
import Derived.Test.YtecmkdoodlpanaaDoorBase
import Derived.Lib.AppendStr
import Derived.Lib.ConvBytes
namespace Go.Proofs.YtecmkdoodlpanaaDoor
open Go Go.RowKit

/-- A string's bytes. -/
def strB (s : ByteArray) : List UInt8 := s.data.toList
theorem strB_len (s : ByteArray) : (strB s).length = s.size := by
  rw [strB, Array.length_toList]; rfl
theorem strCells_eq (s : ByteArray) : Lib.strCells s = (strB s).map bv := rfl

/-- 'append(v, s...)' of a string. -/
theorem wpList_appStr (w : World) {ops : Array Oper} {rest : List Oper} {o : Oper} {a : Act} {Q : Exit → Act → World → Prop} (hgd : o.guard = none) (x y : Operand)
    (ho : o.op = .call { callee := .builtin .append, args := #[x, y], argTypes := #[22, 9] })
    (B : Nat) (v : Value) (bs : List UInt8) (hs : a.eval x = v) (hown : OwnB w B v bs)
    (s : ByteArray) (hx : a.eval y = .string s)
    (hlen : bs.length + s.size ≤ 140737488355328) (hB : B ≤ w.heap.size)
    (h : ∀ v' w', OwnB w' B v' (bs ++ strB s) → w.grownBy w' v.ownBlock → wpList Tryd.prog ops Q rest (a.put o.dst v') w') : wpList Tryd.prog ops Q (o :: rest) a w := by
  obtain ⟨i0, hi, hz0, hz1, hz2⟩ := info_parts info_u8
  have hown' : w.ownsRow B 5 1 v bs.length (bs.map bv) := by
    have h0 : w.ownsRow B 5 1 v (bs.map bv).length (bs.map bv) := hown
    rwa [List.length_map] at h0
  refine Lib.wpList_append_own_string (w := w) hgd x y 22 9 ho B 5 i0 Tryd.underlying22 Tryd.underlying9 hi hz0 hz1 hz2 v bs.length (bs.map bv) hs hown' s hx (by unfold maxLen; omega) hlen hB ?_
  intro v' w' h1 h2 _
  refine h v' w' ?_ h2
  rw [strCells_eq, ← strB_len, ← List.map_append, ← List.length_append] at h1
  unfold OwnB Own
  rwa [List.length_map]

/-- '[]byte(s)'. -/
theorem wpList_convB (w : World) {ops : Array Oper} {rest : List Oper} {o : Oper} {a : Act} {Q : Exit → Act → World → Prop} (hgd : o.guard = none) (x : Operand) (ho : o.op = Op.convert 9 22 x)
    (s : ByteArray) (hx : a.eval x = .string s) (hl : s.size ≤ 140737488355328)
    (h : ∀ A c w', Rd w' A ((strB s).map bv) → s.size ≤ c → c ≤ maxLen → Below w.heap.size w w' → wpList Tryd.prog ops Q rest (a.put o.dst (.slice A s.size c)) w') : wpList Tryd.prog ops Q (o :: rest) a w := by
  refine wpList_plain hgd fun K hK => ?_
  have hrun := Lib.run_convert_string_bytes (P := Tryd.prog) w 9 22 5 s Tryd.underlying9 Tryd.underlying22 Tryd.underlying5
  unfold Oper.wp execOp
  simp only [ho, hx, Sem.run_bind, Sem.run_pure, Result.andThen_ok, hrun]
  refine hK _ _ (h _ _ _ (.inr ⟨w.heap.size, 0, rfl, by rw [Lib.bytesWorld_size]; omega, fun k hk => ?_⟩) (grownCap_ge w _ _ _) (grownCap_le_maxLen w _ _ _ (by unfold maxLen; omega)) ⟨rfl, ?_, ?_, by rw [Lib.bytesWorld_size]; omega, fun k hk => Lib.bytesWorld_at_old w _ s k hk⟩)
  · rw [List.length_map, strB_len] at hk
    rw [Nat.zero_add, Lib.bytesWorld_cell w _ s k hk, List.getElem_map]
    congr 1
    unfold bv strB List.getD
    rw [List.getElem?_eq_getElem (by rw [Array.length_toList]; exact hk)]
    rfl
  · simp [Lib.bytesWorld, World.freeze, World.alloc, World.drew, -World.alloc_eq, -World.drew_eq]
  · simp [Lib.bytesWorld, World.freeze, World.alloc, World.drew, -World.alloc_eq, -World.drew_eq]
end Go.Proofs.YtecmkdoodlpanaaDoor
