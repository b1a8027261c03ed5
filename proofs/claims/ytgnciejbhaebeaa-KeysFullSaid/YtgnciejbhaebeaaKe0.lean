/- Events as plain data: which may be. Conditions: none. -/
import Derived.Test.YtgnciejbhaebeaaBase
namespace Go.Proofs.Ytgnciejbhaebeaa
open Go Go.RowKit

/-- An event. -/
structure Ev where
  k : Int
  t : List UInt8
  x : Int
  y : Int
  b : Int
deriving DecidableEq
def mayP (k x y b : Int) (n : Nat) : Prop :=
  (k = 1 ∧ x = 0 ∧ y = 0 ∧ b = 0 ∧ 1 ≤ n ∧ n ≤ 8) ∨ (k = 2 ∧ x = 0 ∧ y = 0 ∧ b = 0 ∧ n ≤ 64) ∨
  (k = 3 ∧ n = 0 ∧ 0 ≤ x ∧ x < 80 ∧ 0 ≤ y ∧ y < 24 ∧ 0 ≤ b ∧ b ≤ 255) ∨ (k = 4 ∧ n = 0 ∧ b = 0 ∧ 1 ≤ x ∧ x ≤ 80 ∧ 1 ≤ y ∧ y ≤ 24)
instance (k x y b : Int) (n : Nat) : Decidable (mayP k x y b n) := by unfold mayP; exact inferInstance
def mayB (k x y b : Int) (n : Nat) : Bool := decide (mayP k x y b n)
def Ev.may (e : Ev) : Bool := mayB e.k e.x e.y e.b e.t.length
/-- An event in memory: its five cells. -/
structure EvV where
  k : Int
  A : Option Addr
  n : Nat
  c : Nat
  x : Int
  y : Int
  b : Int
def EvV.cells (e : EvV) : List Value := [.int .i64 e.k, .slice e.A e.n e.c, .int .i64 e.x, .int .i64 e.y, .int .i64 e.b]
end Go.Proofs.Ytgnciejbhaebeaa
