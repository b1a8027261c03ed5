/- Parts one behind the other: What the reader of the layer wire does: its small methods. Conditions: as told at each. -/
import Derived.Test.YtndjggabdajbfaaGreatDoorPG15
import Derived.Test.YtndjggabdajbfaaGreatDoorPG1

set_option linter.unusedVariables false
set_option linter.unusedSimpArgs false
/- What the reader of the layer wire does: its small methods. Conditions: a reader that lies in a block of its own. -/
namespace Go.Proofs.YtndjggabdajbfaaGreatDoor
open Go Go.RowKit

/-- A reader's state: its bytes, its place, its error; where its bytes lie (no word of the program's). -/
structure RS where
  b : List UInt8
  at_ : Nat
  err : Nat
  gA : Option Addr

/-- Block r holds the reader s. -/
def Rdr (w : World) (r : Nat) (s : RS) : Prop :=
  ∃ A c, w.heap[r]? = some (.cells #[.slice A s.b.length c, .int .i64 (s.at_ : Int), .int .i64 (s.err : Int)] 80 (0, 0)) ∧ Rd w A (s.b.map bv) ∧ (A = s.gA ∧ ∀ a, A = some a → a.block ≠ r) ∧
    s.b.length ≤ c ∧ c ≤ maxLen ∧ s.at_ ≤ s.b.length ∧ s.b.length ≤ 140737488355328

theorem Rdr.below {w w' : World} {r : Nat} {s : RS} (h : Rdr w r s) (hb : Below w.heap.size w w') : Rdr w' r s := by
  obtain ⟨A, c, h1, h2, h3⟩ := h
  exact ⟨A, c, (hb.block r (heap_lt h1)).trans h1, h2.below hb, h3⟩
theorem Rdr.drewN {w : World} {r : Nat} {s : RS} (h : Rdr w r s) (n : Nat) : Rdr (w.drewN n) r s := h
theorem Rdr.lt {w : World} {r : Nat} {s : RS} (h : Rdr w r s) : r < w.heap.size := by
  obtain ⟨A, c, h1, _⟩ := h; exact heap_lt h1

set_option maxRecDepth 100000 in
set_option maxHeartbeats 400000 in
theorem Rnew_c (A : Option Addr) (n c : Nat) (bs : List UInt8) (w : World) (hn : bs.length = n) (hr : Rd w A (bs.map bv)) (hl : n ≤ 140737488355328) :
    Calls Tryz.prog 17 #[.slice A n c] w fun e w' => ∃ r A', e = .returned (.pointer (some ⟨r, 0, none⟩)) ∧ w.heap.size ≤ r ∧ Rdr w' r ⟨bs, 0, 0, A'⟩ ∧ Below w.heap.size w w' ∧ ∀ a, A' = some a → w.heap.size ≤ a.block ∧ a.block < w'.heap.size := by
  have HN := Lib.hid hn; clear hn
  go_enter Tryz.func17, Tryz.ntmps17
  go_wp2_with (first | (at_builtin; refine wpList_cloneB _ rfl (.tmp 3) rfl A n c bs rfl HN.out hr hl ?_; intro A' c' w2 h1 h2 h3 h4 h5 h6; have H1 := Lib.hid h1; clear h1; have H5 := Lib.hid h5; clear h5; have H6 := Lib.hid h6; clear h6))
  go_ret
  have hz := h2.size
  refine ⟨_, A', rfl, hz, ⟨A', c', ?_, Rd.alloc H5.out _, ⟨rfl, ?_⟩, by simp [HN.out]; exact h3, h4, Nat.zero_le _, by simp [HN.out]; exact hl⟩, h2.alloc hz _, ?_⟩
  · rw [heap_alloc_new]; simp [HN.out]
  · intro a ha; have := (H6.out a ha).2; omega
  · intro a ha; have := H6.out a ha; simp only [World.size_alloc]; omega

/-- The reader's cells, for a walk. -/
theorem Rdr.open_ {w : World} {r : Nat} {s : RS} (h : Rdr w r s) : ∃ A c, (w.cell? ⟨r, 0, none⟩ = some (.slice A s.b.length c) ∧ w.cell? ⟨r, 1, none⟩ = some (.int .i64 (s.at_ : Int)) ∧ w.cell? ⟨r, 2, none⟩ = some (.int .i64 (s.err : Int))) ∧
    (w.frozen? ⟨r, 0, none⟩ = false ∧ w.frozen? ⟨r, 1, none⟩ = false ∧ w.frozen? ⟨r, 2, none⟩ = false) ∧ Rd w A (s.b.map bv) ∧ s.b.length ≤ c ∧ c ≤ maxLen ∧ s.at_ ≤ s.b.length ∧ s.b.length ≤ 140737488355328 := by
  obtain ⟨A, c, h1, h2, h3, h4, h5, h6, h7⟩ := h
  exact ⟨A, c, ⟨by rw [heap_cell h1]; rfl, by rw [heap_cell h1]; rfl, by rw [heap_cell h1]; rfl⟩, ⟨heap_free h1 _, heap_free h1 _, heap_free h1 _⟩, h2, h4, h5, h6, h7⟩
theorem Rdr.setErr {w : World} {r : Nat} {s : RS} (h : Rdr w r s) (e : Nat) : Rdr (w.setCell ⟨r, 2, none⟩ (.int .i64 (e : Int))) r { s with err := e } := by
  obtain ⟨A, c, h1, h2, h3, h4⟩ := h
  exact ⟨A, c, by rw [heap_set h1]; rfl, h2.far _ h3.2, h3, h4⟩
theorem Rdr.setAt {w : World} {r : Nat} {s : RS} (h : Rdr w r s) (k : Nat) (hk : k ≤ s.b.length) : Rdr (w.setCell ⟨r, 1, none⟩ (.int .i64 (k : Int))) r { s with at_ := k } := by
  obtain ⟨A, c, h1, h2, h3, h4, h5, _, h6⟩ := h
  exact ⟨A, c, by rw [heap_set h1]; rfl, h2.far _ h3.2, h3, h4, h5, hk, h6⟩
/-! ### Err, Left, End -/
set_option maxRecDepth 100000 in
set_option maxHeartbeats 400000 in
theorem Rerr_c (r : Nat) (s : RS) (w : World) (h : Rdr w r s) :
    Calls Tryz.prog 57 #[.pointer (some ⟨r, 0, none⟩)] w fun e w' => e = .returned (.int .i64 (s.err : Int)) ∧ w = w' := by
  obtain ⟨A, c, ⟨c0, c1, c2⟩, _, _⟩ := h.open_
  go_enter Tryz.func57, Tryz.ntmps57
  go_wp2
  go_ret
  exact ⟨rfl, rfl⟩

set_option maxRecDepth 100000 in
set_option maxHeartbeats 400000 in
theorem Rleft_c (r : Nat) (s : RS) (w : World) (h : Rdr w r s) :
    Calls Tryz.prog 18 #[.pointer (some ⟨r, 0, none⟩)] w fun e w' => e = .returned (.int .i64 ((s.b.length - s.at_ : Nat) : Int)) ∧ ∃ q, w' = w.drewN q := by
  obtain ⟨A, c, ⟨c0, c1, c2⟩, _, _, _, _, hk, hl⟩ := h.open_
  have e1 : ((s.b.length - s.at_ : Nat) : Int) = (s.b.length : Int) - (s.at_ : Int) := by omega
  rw [e1]
  clear e1
  go_enter Tryz.func18, Tryz.ntmps18
  go_wp2
  go_quiet (fail)
  go_wp2
  go_ret
  exact ⟨rfl, _, rfl⟩

end Go.Proofs.YtndjggabdajbfaaGreatDoor


