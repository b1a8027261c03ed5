/- Parts one behind the other: What the reference's num (16) answers: the number of so many bytes from a place on; Tools for the walk of the reference's Apply (16): its state; a row's rest; a new cell. Conditions: as told at each. -/
import Derived.Test.YtndjggabdajbfaaGreatDoorPG21
import Derived.Test.YtndjggabdajbfaaGreatDoorPG11

set_option linter.unusedVariables false
set_option linter.unusedSimpArgs false
/- What the reference's num (16) answers: the number of so many bytes from a place on. Conditions: the bytes can be read, and there are so many. -/
namespace Go.Proofs.YtndjggabdajbfaaGreatDoor
open Go Go.RowKit Go.Lib

end Go.Proofs.YtndjggabdajbfaaGreatDoor



/- Tools for the walk of the reference's Apply (16): its state; a row's rest; a new cell. Conditions: none. -/
namespace Go.Proofs.YtndjggabdajbfaaGreatDoor
open Go Go.RowKit Go.Lib

/-- A screen with other cells. -/
def ScD.withC (s : ScD) (cs : List CeD) : ScD := ⟨s.cols, s.rows, cs, s.x, s.y, s.hid, s.mouse, s.title, s.links⟩
/-- The reference's state: the answer's block q, the empty screen's z, the screen's g, its cells gs. -/
structure BpS (w : World) (q z g gs : Nat) (C R : Nat) (s : ScD) (n c : Nat) (L : Option Addr) (d : Nat) (wx : World) : Prop where
  bel : Below w.heap.size w wx
  hq : ScB wx q scZ none 0 0 none 0 0
  hz : ScB wx z scZ none 0 0 none 0 0
  sg : ScB wx g s (some ⟨gs, 0, none⟩) n c L 0 d
  own : OwnC wx w.heap.size (.slice (some ⟨gs, 0, none⟩) n c) s.cells
  ln : n = C * R
  gne : gs ≠ g
  ord : w.heap.size ≤ q ∧ q < z ∧ z < g ∧ z < gs
  fit : 1 ≤ C ∧ C ≤ 80 ∧ 1 ≤ R ∧ R ≤ 24
  cc : s.cols = (C : Int)
  rr : s.rows = (R : Int)
  lk : s.links = []
  ok : okLn s.cells
  tl : s.title.size ≤ 1000000
section
variable {w wx : World} {q z g gs : Nat} {C R : Nat} {s : ScD} {n c : Nat} {L : Option Addr} {d : Nat}
theorem BpS.below (h : BpS w q z g gs C R s n c L d wx) {wy : World} (hb : Below wx.heap.size wx wy) : BpS w q z g gs C R s n c L d wy :=
  ⟨h.bel.trans (hb.mono h.bel.size), h.hq.below hb, h.hz.below hb, h.sg.below hb, OwnC.below h.own hb, h.ln, h.gne, h.ord, h.fit, h.cc, h.rr, h.lk, h.ok, h.tl⟩
theorem BpS.stay (h : BpS w q z g gs C R s n c L d wx) {wy : World} {t : ScD} (k : Stays (fun k => k = g) wx wy) (hg : ScB wy g t (some ⟨gs, 0, none⟩) n c L 0 d) (e1 : t.cols = s.cols) (e2 : t.rows = s.rows) (e3 : t.cells = s.cells) (e4 : t.links = s.links) (e5 : t.title.size ≤ 1000000) : BpS w q z g gs C R t n c L d wy := by
  have ho := h.ord
  have hn := h.gne
  exact ⟨h.bel.trans (k.below h.bel.size (fun j hj e => by omega)), k.scB h.hq (by omega), k.scB h.hz (by omega), hg, by rw [e3]; exact k.keepC h.own (fun j ej => by injection ej with ej; have : gs = j := ej; omega), h.ln, h.gne, h.ord, h.fit, by rw [e1]; exact h.cc, by rw [e2]; exact h.rr, by rw [e4]; exact h.lk, by rw [e3]; exact h.ok, e5⟩
theorem BpS.read (h : BpS w q z g gs C R s n c L d wx) : ScR wx s (some ⟨gs, 0, none⟩) n c L 0 d := by
  obtain ⟨p1, p2, p3, _⟩ := h.own.parts
  have hn0 : n ≤ 1920 := by rw [h.ln]; exact Nat.mul_le_mul h.fit.2.1 h.fit.2.2.2
  exact ⟨p1, p2, p3, by omega, by rw [h.lk]; rfl, by rw [h.lk]; exact .inl rfl, Nat.zero_le _, Nat.zero_le _, (fun u hu => by rw [h.lk] at hu; cases hu), h.ok, h.tl⟩
end
end Go.Proofs.YtndjggabdajbfaaGreatDoor


