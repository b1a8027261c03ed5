/- Parts one behind the other: The state of a reading within runs; the steps of one run read. Conditions: as told at each. -/
import Derived.Test.YtndjggabdajbfaaGreatDoorPG21

set_option linter.unusedVariables false
set_option linter.unusedSimpArgs false
/- The state of a reading within runs; the steps of one run read. Conditions: none. -/
namespace Go.Proofs.YtndjggabdajbfaaGreatDoor
open Go Go.RowKit Go.Lib

/-! ### The steps of one run, plain -/
theorem num17_eta {most : Int} {l : List UInt8} (h : (num17 most l).1 = 0) : num17 most l = (0, (num17 most l).2.1, (num17 most l).2.2) := by rw [← h]
section
variable {at_ : Nat} {l l1 l2 l3 l4 l5 : List UInt8} {cs : List CeD} {x k f b t : Nat}
theorem oneP_1 (h : (num17 ((cs.length : Int) - (at_ : Int)) l).1 ≠ 0) : (oneP at_ l cs).1 = (num17 ((cs.length : Int) - (at_ : Int)) l).1 := by
  unfold oneP
  simp only [ne_eq, h, not_false_eq_true, if_true]
theorem oneP_2 (h1 : num17 ((cs.length : Int) - (at_ : Int)) l = (0, x, l1)) (h : (num17 ((cs.length : Int) - ((at_ + x : Nat) : Int)) l1).1 ≠ 0) : (oneP at_ l cs).1 = (num17 ((cs.length : Int) - ((at_ + x : Nat) : Int)) l1).1 := by
  unfold oneP
  rw [h1]
  simp only [ne_eq, not_true_eq_false, if_false, h, not_false_eq_true, if_true]
theorem oneP_3 (h1 : num17 ((cs.length : Int) - (at_ : Int)) l = (0, x, l1)) (h2 : num17 ((cs.length : Int) - ((at_ + x : Nat) : Int)) l1 = (0, 0, l2)) : (oneP at_ l cs).1 = 3 := by
  unfold oneP
  rw [h1]
  simp only [ne_eq, not_true_eq_false, if_false]
  rw [h2]
  simp
theorem colR_bad (h : (num17 4294967295 l).1 ≠ 0) : colR l = ((num17 4294967295 l).1, 0, l) := by unfold colR; rw [if_pos h]
theorem colR_col (h : (num17 4294967295 l).1 = 0) (hc : colMay ((num17 4294967295 l).2.1 : Int) = false) : colR l = (3, 0, l) := by unfold colR; rw [if_neg (by rw [h]; decide), if_pos hc]
theorem colR_ok (h : (num17 4294967295 l).1 = 0) (hc : colMay ((num17 4294967295 l).2.1 : Int) = true) : colR l = (0, (num17 4294967295 l).2.1, (num17 4294967295 l).2.2) := by unfold colR; rw [if_neg (by rw [h]; decide), if_neg (by rw [hc]; decide)]
theorem colR_le (h : (colR l).1 = 0) : (colR l).2.1 ≤ 4294967295 := by
  unfold colR at h ⊢
  split at h
  · rename_i h1; exact absurd h h1
  · rename_i h1
    rw [if_neg h1]
    split at h
    · cases h
    · rename_i h2
      rw [if_neg h2]
      have h3 := num17_le (most := 4294967295) (l := l) (by omega)
      simp only
      omega
/-- A run, told by colours as they are read. -/
theorem oneP_col (h1 : num17 ((cs.length : Int) - (at_ : Int)) l = (0, x, l1)) (h2 : num17 ((cs.length : Int) - ((at_ + x : Nat) : Int)) l1 = (0, k, l2)) (hk : k ≠ 0) :
    (oneP at_ l cs).1 = (if (colR l2).1 ≠ 0 then (colR l2).1 else if (colR (colR l2).2.2).1 ≠ 0 then (colR (colR l2).2.2).1 else if (num17 255 (colR (colR l2).2.2).2.2).1 ≠ 0 then (num17 255 (colR (colR l2).2.2).2.2).1 else
      (runesP ((colR l2).2.1 : Int) ((colR (colR l2).2.2).2.1 : Int) ((num17 255 (colR (colR l2).2.2).2.2).2.1 : Int) k (at_ + x) (num17 255 (colR (colR l2).2.2).2.2).2.2 cs).1) ∧
    ((colR l2).1 = 0 → (colR (colR l2).2.2).1 = 0 → (num17 255 (colR (colR l2).2.2).2.2).1 = 0 →
      oneP at_ l cs = ((runesP ((colR l2).2.1 : Int) ((colR (colR l2).2.2).2.1 : Int) ((num17 255 (colR (colR l2).2.2).2.2).2.1 : Int) k (at_ + x) (num17 255 (colR (colR l2).2.2).2.2).2.2 cs).1, at_ + x + k,
        (runesP ((colR l2).2.1 : Int) ((colR (colR l2).2.2).2.1 : Int) ((num17 255 (colR (colR l2).2.2).2.2).2.1 : Int) k (at_ + x) (num17 255 (colR (colR l2).2.2).2.2).2.2 cs).2.1, (runesP ((colR l2).2.1 : Int) ((colR (colR l2).2.2).2.1 : Int) ((num17 255 (colR (colR l2).2.2).2.2).2.1 : Int) k (at_ + x) (num17 255 (colR (colR l2).2.2).2.2).2.2 cs).2.2)) := by
  unfold oneP
  rw [h1]
  simp only [ne_eq, not_true_eq_false, if_false]
  rw [h2]
  simp only [not_true_eq_false, if_false]
  rw [if_neg hk]
  by_cases e1 : (num17 4294967295 l2).1 = 0
  · rw [if_neg (by rw [e1]; decide)]
    cases c1 : colMay ((num17 4294967295 l2).2.1 : Int)
    · rw [colR_col e1 c1]
      simp
    · rw [colR_ok e1 c1]
      simp only [Bool.true_eq_false, if_false, not_true_eq_false]
      by_cases e2 : (num17 4294967295 (num17 4294967295 l2).2.2).1 = 0
      · rw [if_neg (by rw [e2]; decide)]
        cases c2 : colMay ((num17 4294967295 (num17 4294967295 l2).2.2).2.1 : Int)
        · rw [colR_col e2 c2]
          simp
        · rw [colR_ok e2 c2]
          simp only [Bool.true_eq_false, if_false, not_true_eq_false]
          by_cases e3 : (num17 255 (num17 4294967295 (num17 4294967295 l2).2.2).2.2).1 = 0
          · rw [if_neg (by rw [e3]; decide)]
            simp [e3]
          · rw [if_pos e3]
            simp [e3]
      · rw [if_pos e2, colR_bad e2]
        simp [e2]
  · rw [if_pos e1, colR_bad e1]
    simp [e1]
end
theorem runsP_no {n at_ : Nat} {l : List UInt8} {cs : List CeD} (h : (oneP at_ l cs).1 ≠ 0) : (runsP (n + 1) at_ l cs).1 = (oneP at_ l cs).1 := by
  rw [runsP, if_neg h]
theorem runsP_go {n at_ : Nat} {l : List UInt8} {cs : List CeD} (h : (oneP at_ l cs).1 = 0) : runsP (n + 1) at_ l cs = runsP n (oneP at_ l cs).2.1 (oneP at_ l cs).2.2.1 (oneP at_ l cs).2.2.2 := by
  rw [runsP, if_pos h]
section
variable {f b t : Int} {n p : Nat} {l : List UInt8} {cs : List CeD}
theorem runesP_no (h : (num17 1114111 l).1 ≠ 0) : (runesP f b t (n + 1) p l cs).1 = (num17 1114111 l).1 := by
  rw [runesP, if_neg h]
theorem runesP_may (h : (num17 1114111 l).1 = 0) (hm : mayC ⟨((num17 1114111 l).2.1 : Int), 0, f, b, t, 0⟩ = false) : (runesP f b t (n + 1) p l cs).1 = 3 := by
  rw [runesP, if_pos h, if_neg (by rw [hm]; decide)]
theorem runesP_go (h : (num17 1114111 l).1 = 0) (hm : mayC ⟨((num17 1114111 l).2.1 : Int), 0, f, b, t, 0⟩ = true) : runesP f b t (n + 1) p l cs = runesP f b t n (p + 1) (num17 1114111 l).2.2 (cs.set p ⟨((num17 1114111 l).2.1 : Int), 0, f, b, t, 0⟩) := by
  rw [runesP, if_pos h, if_pos hm]
end
theorem okLn_set {cs : List CeD} (h : okLn cs) (p : Nat) (d : CeD) (hd : d.ln = 0) : okLn (cs.set p d) := fun x hx => by
  rcases List.mem_or_eq_of_mem_set hx with h1 | h1
  · exact h x h1
  · subst h1; rw [hd]; decide

/-! ### The state -/
def rgC (r : Nat) (s : ScD) (A : Option Addr) (n c : Nat) (L : Option Addr) (m cm : Nat) : Array Value :=
  #[.pointer (some ⟨r, 0, none⟩), .int .i64 s.cols, .int .i64 s.rows, .slice A n c, .int .i64 s.x, .int .i64 s.y, .bool s.hid, .int .u8 s.mouse, .string s.title, .slice L m cm]
/-- The reading's block p, the reader r, the cells' block gs. -/
structure RnS (B p r gs : Nat) (gA : Option Addr) (s : ScD) (n c : Nat) (L : Option Addr) (d : Nat) (st : RS) (cs : List CeD) (w wx : World) : Prop where
  hp : wx.heap[p]? = some (.cells (rgC r s (some ⟨gs, 0, none⟩) n c L 0 d) 55 (0, 0))
  rd : Rdr wx r st
  er : st.err = 0
  ga : st.gA = gA
  own : OwnC wx B (.slice (some ⟨gs, 0, none⟩) n c) cs
  stay : Stays (fun k => k = r ∨ k = gs) w wx
  ap : p ≠ r ∧ p ≠ gs ∧ r ≠ gs ∧ (∀ a, gA = some a → a.block ≠ gs ∧ a.block < w.heap.size)
  lo : 1 < B ∧ B ≤ r ∧ B ≤ w.heap.size
  nl : n ≤ 1920
  ok : okLn cs
section
variable {B p r gs : Nat} {gA : Option Addr} {s : ScD} {n c : Nat} {L : Option Addr} {d : Nat} {st : RS} {cs : List CeD} {w wx wy : World}
theorem RnS.pt (h : RnS B p r gs gA s n c L d st cs w wx) : PtB wx p r := ⟨_, _, h.hp, rfl⟩
theorem RnS.c3 (h : RnS B p r gs gA s n c L d st cs w wx) : wx.cell? ⟨p, 3, none⟩ = some (.slice (some ⟨gs, 0, none⟩) n c) := by rw [heap_cell h.hp]; rfl
theorem RnS.len (h : RnS B p r gs gA s n c L d st cs w wx) : cs.length = n := h.own.len.1.symm
theorem RnS.below (h : RnS B p r gs gA s n c L d st cs w wx) (hb : Below wx.heap.size wx wy) : RnS B p r gs gA s n c L d st cs w wy :=
  ⟨(hb.block p (heap_lt h.hp)).trans h.hp, h.rd.below hb, h.er, h.ga, OwnC.below h.own hb, h.stay.trans (Stays.of_below hb _), h.ap, h.lo, h.nl, h.ok⟩
theorem RnS.read (h : RnS B p r gs gA s n c L d st cs w wx) {st' : RS} (hr : Rdr wy r st') (h0 : st'.err = 0) (h1 : st'.gA = st.gA) (hg : wx.grownBy wy (some r)) : RnS B p r gs gA s n c L d st' cs w wy :=
  ⟨(hg.block p (heap_lt h.hp) (fun e => h.ap.1 (by injection e))).trans h.hp, hr, h0, h1.trans h.ga, OwnC.grown h.own hg h.ap.2.2.1, h.stay.trans (Stays.of_grown hg _ (.inl rfl)), h.ap, h.lo, h.nl, h.ok⟩
theorem RnS.tab (h : RnS B p r gs gA s n c L d st cs w wx) (hU : TabU w) : TabU wx :=
  hU.below (h.stay.below (B := 2) (by have := h.lo; omega) (fun k hk e => by have h1 := h.lo; have h2 := h.own.len.2.2.2.1; rcases e with rfl | rfl <;> omega)) (by decide)
/-- What turns a newer block alone. -/
theorem RnS.far (h : RnS B p r gs gA s n c L d st cs w wx) {e : Nat} (k : Stays (fun k => k = e) wx wy) (he : w.heap.size ≤ e ∧ e ≠ p ∧ e ≠ r ∧ e ≠ gs) : RnS B p r gs gA s n c L d st cs w wy :=
  ⟨(k.block p (heap_lt h.hp) (fun x => he.2.1 x.symm)).trans h.hp, k.rdr h.rd (fun x => he.2.2.1 x.symm) (fun a ha x => by have h1 := (h.ap.2.2.2 a (h.ga ▸ ha)).2; have h2 := he.1; omega), h.er, h.ga,
    k.keepC h.own (fun j ej x => he.2.2.2 (by injection ej with ej; exact (show gs = j from ej) ▸ x.symm)),
    ⟨k.os.trans h.stay.os, k.tape.trans h.stay.tape, k.output.trans h.stay.output, Nat.le_trans h.stay.size k.size, fun j hj hs => (k.block j (Nat.lt_of_lt_of_le hj h.stay.size) (fun x => by have h2 := he.1; omega)).trans (h.stay.block j hj hs)⟩, h.ap, h.lo, h.nl, h.ok⟩
theorem six_heap {W : World} {e : Nat} {t : TypeId} {a0 a1 a2 a3 a4 a5 : Value} (h : W.heap[e]? = some (.cells #[a0, a1, a2, a3, a4, a5] t (0, 0))) (u0 u1 u2 u3 u4 u5 : Value) :
    ((((((W.setCell ⟨e, 0, none⟩ u0).setCell ⟨e, 1, none⟩ u1).setCell ⟨e, 2, none⟩ u2).setCell ⟨e, 3, none⟩ u3).setCell ⟨e, 4, none⟩ u4).setCell ⟨e, 5, none⟩ u5).heap[e]? = some (.cells #[u0, u1, u2, u3, u4, u5] t (0, 0)) := by
  have h0 := heap_set h 0 u0
  have h1 := heap_set h0 1 u1
  have h2 := heap_set h1 2 u2
  have h3 := heap_set h2 3 u3
  have h4 := heap_set h3 4 u4
  have h5 := heap_set h4 5 u5
  exact h5
/-- A cell put at place i. -/
theorem RnS.put (h : RnS B p r gs gA s n c L d st cs w wx) (i : Nat) (hi : i < cs.length) (D : CeD) (hD : D.ln = 0) :
    RnS B p r gs gA s n c L d st (cs.set i D) w ((((((wx.setCell ⟨gs, i * 6, none⟩ (.int .i32 D.r)).setCell ⟨gs, i * 6 + 1, none⟩ (.int .u8 D.w)).setCell ⟨gs, i * 6 + 2, none⟩ (.int .u32 D.fg)).setCell ⟨gs, i * 6 + 3, none⟩ (.int .u32 D.bg)).setCell ⟨gs, i * 6 + 4, none⟩ (.int .u8 D.at_)).setCell ⟨gs, i * 6 + 5, none⟩ (.int .u16 D.ln)) := by
  have k := six_stays (fun k => k = gs) wx gs (i * 6) (i * 6 + 1) (i * 6 + 2) (i * 6 + 3) (i * 6 + 4) (i * 6 + 5) (.int .i32 D.r) (.int .u8 D.w) (.int .u32 D.fg) (.int .u32 D.bg) (.int .u8 D.at_) (.int .u16 D.ln) rfl
  have k2 := six_stays (fun k => k = r ∨ k = gs) wx gs (i * 6) (i * 6 + 1) (i * 6 + 2) (i * 6 + 3) (i * 6 + 4) (i * 6 + 5) (.int .i32 D.r) (.int .u8 D.w) (.int .u32 D.fg) (.int .u32 D.bg) (.int .u8 D.at_) (.int .u16 D.ln) (.inr rfl)
  exact ⟨(k.block p (heap_lt h.hp) (fun e => h.ap.2.1 e)).trans h.hp, k.rdr h.rd (fun e => h.ap.2.2.1 e) (fun a ha e => (h.ap.2.2.2 a (h.ga ▸ ha)).1 e), h.er, h.ga, h.own.setAll i hi D, h.stay.trans k2, h.ap, h.lo, h.nl, okLn_set h.ok i D hD⟩
end
end Go.Proofs.YtndjggabdajbfaaGreatDoor


