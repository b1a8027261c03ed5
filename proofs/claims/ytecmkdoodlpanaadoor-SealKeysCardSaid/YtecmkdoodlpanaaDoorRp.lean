/- A relation for slices of slices laid as arguments; a cut whose bound is a number. Conditions: the bound lies in the slice. -/
import Derived.Test.YtecmkdoodlpanaaDoorRg
import Derived.Test.YtecmkdoodlpanaaDoorMc2
import Derived.Test.YtecmkdoodlpanaaDoorCu
namespace Go.Proofs.YtecmkdoodlpanaaDoor
open Go Go.RowKit

/-- A slice of n slices of these bytes. -/
def Rl.rds (n : Nat) (bss : List (List UInt8)) : Rl := ⟨fun w v => ∃ X, v = .slice X n n ∧ RdS w X bss, fun ⟨X, h, r⟩ hb => ⟨X, h, r.below hb⟩⟩
theorem cutFrom (w0 : World) (A : Option Addr) (m c k : Nat) (l : List UInt8) (hl : l.length = m) (hr : Rd w0 A (l.map bv)) (hk : k ≤ m) (hm : m ≤ c) :
    ∃ A' c', Hid (∀ w, (Sem.run Tryd.prog (Instr.sliceAt 22 (.slice A m c) (some (.int .i64 (k : Int))) none none) w) = Result.ok (Value.slice A' (m - k) c') w) ∧ Rd w0 A' ((l.drop k).map bv) ∧ m - k ≤ c' ∧ c' ≤ c := by
  have hk' : (k : Int) ≤ (m : Int) := by omega
  have hc := hr.cut (k := k) (n := m) (c := c) (by rw [List.length_map]; exact hl) hk hm
  rw [← List.map_drop] at hc
  refine ⟨_, c - k, Lib.hid (fun w => ?_), hc, by omega, by omega⟩
  go_simp
theorem rds_lit (w : World) (xs : List (Option Addr × Nat × Nat)) (bss : List (List UInt8)) (n : Nat) (hn : bss.length = n) (hl : xs.length = bss.length) (h : ∀ x ∈ xs.zip bss, x.2.length = x.1.2.1 ∧ Rd w x.1.1 (x.2.map bv) ∧ x.1.2.1 ≤ x.1.2.2 ∧ x.1.2.2 ≤ maxLen) :
    (Rl.rds n bss).R (w.alloc (.cells (xs.map fun x => .slice x.1 x.2.1 x.2.2).toArray 22)) (.slice (some ⟨w.heap.size, 0, none⟩) n n) :=
  ⟨_, rfl, RdS_lit w xs bss 22 hl h⟩
end Go.Proofs.YtecmkdoodlpanaaDoor
