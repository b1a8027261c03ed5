/- What the reader of the layer wire does: its small methods. Conditions: a reader that lies in a block of its own. -/
import Derived.Test.YtacindehajholaaW1
namespace Go.Proofs.Ytacindehajholaa
open Go Go.RowKit

/-- A reader's state: its bytes, its place, its error; where its bytes lie (no word of the program's). -/
structure RS where
  b : List UInt8
  at_ : Nat
  err : Nat
  gA : Option Addr

/-- Block r holds the reader s. -/
def Rdr (w : World) (r : Nat) (s : RS) : Prop :=
  ∃ A c, w.heap[r]? = some (.cells #[.slice A s.b.length c, .int .i64 (s.at_ : Int), .int .i64 (s.err : Int)] 59 (0, 0)) ∧ Rd w A (s.b.map bv) ∧ (A = s.gA ∧ ∀ a, A = some a → a.block ≠ r) ∧
    s.b.length ≤ c ∧ c ≤ maxLen ∧ s.at_ ≤ s.b.length ∧ s.b.length ≤ 140737488355328

theorem heap_cell {w : World} {g : Nat} {cs : Array Value} {t : TypeId} (h : w.heap[g]? = some (.cells cs t (0, 0))) (i : Nat) : w.cell? ⟨g, i, none⟩ = cs[i]? := cell_of_row w g i cs t (0, 0) h
theorem heap_free {w : World} {g : Nat} {cs : Array Value} {t : TypeId} (h : w.heap[g]? = some (.cells cs t (0, 0))) (i : Nat) : w.frozen? ⟨g, i, none⟩ = false := by simp [World.frozen?, h]
theorem heap_lt {w : World} {g : Nat} {o : Obj} (h : w.heap[g]? = some o) : g < w.heap.size := (Array.getElem?_eq_some_iff.1 h).1
theorem heap_set {w : World} {g : Nat} {cs : Array Value} {t : TypeId} (h : w.heap[g]? = some (.cells cs t (0, 0))) (i : Nat) (u : Value) : (w.setCell ⟨g, i, none⟩ u).heap[g]? = some (.cells (cs.setIfInBounds i u) t (0, 0)) := by
  simp [World.setCell, Array.getElem?_modify, h]
theorem heap_far {w : World} {g : Nat} {p : Addr} (u : Value) (hp : g ≠ p.block) : (w.setCell p u).heap[g]? = w.heap[g]? := Below.heap_setCell w p u g hp
theorem Rd.far {w : World} {A : Option Addr} {vs : List Value} (h : Rd w A vs) {p : Addr} (u : Value) (hp : ∀ a, A = some a → a.block ≠ p.block) : Rd (w.setCell p u) A vs :=
  h.of_blocks (fun b _ ⟨off, e⟩ => heap_far u (hp _ e)) (by simp [World.setCell])

theorem Rdr.below {w w' : World} {r : Nat} {s : RS} (h : Rdr w r s) (hb : Below w.heap.size w w') : Rdr w' r s := by
  obtain ⟨A, c, h1, h2, h3⟩ := h
  exact ⟨A, c, (hb.block r (heap_lt h1)).trans h1, h2.below hb, h3⟩
theorem Rdr.drewN {w : World} {r : Nat} {s : RS} (h : Rdr w r s) (n : Nat) : Rdr (w.drewN n) r s := h
theorem Rdr.lt {w : World} {r : Nat} {s : RS} (h : Rdr w r s) : r < w.heap.size := by
  obtain ⟨A, c, h1, _⟩ := h; exact heap_lt h1

/-- Only block r, and what is new, has turned. -/
theorem only_set {w : World} (r i : Nat) (u : Value) : w.grownBy (w.setCell ⟨r, i, none⟩ u) (some r) :=
  ⟨rfl, rfl, rfl, by simp [World.setCell], fun k _ hk => heap_far u (fun e => hk (by rw [e]))⟩
theorem only_setD {w : World} (q r i : Nat) (u : Value) : w.grownBy ((w.drewN q).setCell ⟨r, i, none⟩ u) (some r) :=
  ⟨rfl, rfl, rfl, by simp [World.setCell], fun k _ hk => heap_far u (fun e => hk (by rw [e]))⟩
theorem only_of_drewN {w w' : World} {q : Nat} {r : Option Nat} (h : (w.drewN q).grownBy w' r) : w.grownBy w' r := ⟨h.os, h.tape, h.output, h.size, h.block⟩
theorem only_drewN {w w' : World} {r : Option Nat} (h : w.grownBy w' r) (n : Nat) : w.grownBy (w'.drewN n) r := ⟨h.os, h.tape, h.output, h.size, h.block⟩
theorem only_trans {a b c : World} {r : Option Nat} (h : a.grownBy b r) (k : b.grownBy c r) : a.grownBy c r :=
  ⟨k.os.trans h.os, k.tape.trans h.tape, k.output.trans h.output, Nat.le_trans h.size k.size, fun i hi hr => (k.block i (Nat.lt_of_lt_of_le hi h.size) hr).trans (h.block i hi hr)⟩

set_option maxRecDepth 100000 in
set_option maxHeartbeats 400000 in
theorem Rnew_c (A : Option Addr) (n c : Nat) (bs : List UInt8) (w : World) (hn : bs.length = n) (hr : Rd w A (bs.map bv)) (hl : n ≤ 140737488355328) :
    Calls Try.prog 9 #[.slice A n c] w fun e w' => ∃ r A', e = .returned (.pointer (some ⟨r, 0, none⟩)) ∧ w.heap.size ≤ r ∧ Rdr w' r ⟨bs, 0, 0, A'⟩ ∧ Below w.heap.size w w' ∧ ∀ a, A' = some a → w.heap.size ≤ a.block ∧ a.block < w'.heap.size := by
  have HN := Lib.hid hn; clear hn
  go_enter Try.func9, Try.ntmps9
  go_wp2_with (first | (at_builtin; refine wpList_cloneB _ rfl (.tmp 3) rfl A n c bs rfl HN.out hr hl ?_; intro A' c' w2 h1 h2 h3 h4 h5 h6; have H1 := Lib.hid h1; clear h1; have H5 := Lib.hid h5; clear h5; have H6 := Lib.hid h6; clear h6))
  go_ret
  have hz := h2.size
  refine ⟨_, A', rfl, hz, ⟨A', c', ?_, Rd.alloc H5.out _, ⟨rfl, ?_⟩, by simp [HN.out]; exact h3, h4, Nat.zero_le _, by simp [HN.out]; exact hl⟩, h2.alloc hz _, ?_⟩
  · rw [heap_alloc_new]; simp [HN.out]
  · intro a ha; have := (H6.out a ha).2; omega
  · intro a ha; have := H6.out a ha; simp only [World.size_alloc]; omega

/-- The reader's cells, for a walk. -/
theorem Rdr.open_ {w : World} {r : Nat} {s : RS} (h : Rdr w r s) : ∃ A c, (w.cell? ⟨r, 0, none⟩ = some (.slice A s.b.length c) ∧ w.cell? ⟨r, 1, none⟩ = some (.int .i64 (s.at_ : Int)) ∧ w.cell? ⟨r, 2, none⟩ = some (.int .i64 (s.err : Int))) ∧
    (w.frozen? ⟨r, 0, none⟩ = false ∧ w.frozen? ⟨r, 1, none⟩ = false ∧ w.frozen? ⟨r, 2, none⟩ = false) ∧ Rd w A (s.b.map bv) ∧ s.b.length ≤ c ∧ c ≤ maxLen ∧ s.at_ ≤ s.b.length ∧ s.b.length ≤ 140737488355328 := by
  obtain ⟨A, c, h1, h2, h3, h4, h5, h6, h7⟩ := h
  exact ⟨A, c, ⟨by rw [heap_cell h1]; rfl, by rw [heap_cell h1]; rfl, by rw [heap_cell h1]; rfl⟩, ⟨heap_free h1 _, heap_free h1 _, heap_free h1 _⟩, h2, h4, h5, h6, h7⟩
theorem Rdr.setErr {w : World} {r : Nat} {s : RS} (h : Rdr w r s) (e : Nat) : Rdr (w.setCell ⟨r, 2, none⟩ (.int .i64 (e : Int))) r { s with err := e } := by
  obtain ⟨A, c, h1, h2, h3, h4⟩ := h
  exact ⟨A, c, by rw [heap_set h1]; rfl, h2.far _ h3.2, h3, h4⟩
theorem Rdr.setAt {w : World} {r : Nat} {s : RS} (h : Rdr w r s) (k : Nat) (hk : k ≤ s.b.length) : Rdr (w.setCell ⟨r, 1, none⟩ (.int .i64 (k : Int))) r { s with at_ := k } := by
  obtain ⟨A, c, h1, h2, h3, h4, h5, _, h6⟩ := h
  exact ⟨A, c, by rw [heap_set h1]; rfl, h2.far _ h3.2, h3, h4, h5, hk, h6⟩
/-- A store elsewhere. -/
theorem Rdr.farSet {w : World} {r : Nat} {s : RS} (h : Rdr w r s) {p : Addr} (u : Value) (h1 : r ≠ p.block) (h2 : ∀ a, s.gA = some a → a.block ≠ p.block) : Rdr (w.setCell p u) r s := by
  obtain ⟨A, c, g1, g2, g3, g4⟩ := h
  exact ⟨A, c, (heap_far u h1).trans g1, g2.far _ (by rw [g3.1]; exact h2), g3, g4⟩

/-! ### Err, Left, End -/
set_option maxRecDepth 100000 in
set_option maxHeartbeats 400000 in
theorem Rerr_c (r : Nat) (s : RS) (w : World) (h : Rdr w r s) :
    Calls Try.prog 11 #[.pointer (some ⟨r, 0, none⟩)] w fun e w' => e = .returned (.int .i64 (s.err : Int)) ∧ w = w' := by
  obtain ⟨A, c, ⟨c0, c1, c2⟩, _, _⟩ := h.open_
  go_enter Try.func11, Try.ntmps11
  go_wp2
  go_ret
  exact ⟨rfl, rfl⟩

set_option maxRecDepth 100000 in
set_option maxHeartbeats 400000 in
theorem Rleft_c (r : Nat) (s : RS) (w : World) (h : Rdr w r s) :
    Calls Try.prog 13 #[.pointer (some ⟨r, 0, none⟩)] w fun e w' => e = .returned (.int .i64 ((s.b.length - s.at_ : Nat) : Int)) ∧ ∃ q, w' = w.drewN q := by
  obtain ⟨A, c, ⟨c0, c1, c2⟩, _, _, _, _, hk, hl⟩ := h.open_
  have e1 : ((s.b.length - s.at_ : Nat) : Int) = (s.b.length : Int) - (s.at_ : Int) := by omega
  rw [e1]
  clear e1
  go_enter Try.func13, Try.ntmps13
  go_wp2
  go_quiet (fail)
  go_wp2
  go_ret
  exact ⟨rfl, _, rfl⟩

def endR (s : RS) : Nat := if s.err = 0 ∧ s.at_ < s.b.length then 6 else s.err

set_option maxRecDepth 100000 in
set_option maxHeartbeats 400000 in
theorem Rend_c (r : Nat) (s : RS) (w : World) (h : Rdr w r s) :
    Calls Try.prog 30 #[.pointer (some ⟨r, 0, none⟩)] w fun e w' => e = .returned (.int .i64 (endR s : Int)) ∧ ∃ q, w' = w.drewN q := by
  by_cases h0 : s.err = 0
  · have hb : (((s.err : Nat) : Int) == 0) = true := by rw [beq_iff_eq]; omega
    by_cases h1 : s.at_ < s.b.length
    · have hd : decide ((0 : Int) < ((s.b.length - s.at_ : Nat) : Int)) = true := decide_eq_true (by omega)
      have e1 : endR s = 6 := if_pos ⟨h0, h1⟩
      rw [e1]
      clear e1
      have H0 := Lib.hid h0; clear h0
      go_enter Try.func30, Try.ntmps30
      go_wp2_with (first | (go_at_call 11; refine (Rerr_c _ _ _ h).mono ?_; rintro e w' ⟨rfl, rfl⟩) | (go_at_call 13; refine (Rleft_c _ _ _ h).mono ?_; rintro e w' ⟨rfl, q, rfl⟩))
      go_ret
      exact ⟨rfl, _, rfl⟩
    · have hd : decide ((0 : Int) < ((s.b.length - s.at_ : Nat) : Int)) = false := decide_eq_false (by omega)
      have e1 : endR s = s.err := if_neg (fun h => h1 h.2)
      rw [e1]
      clear e1
      have H0 := Lib.hid h0; clear h0
      go_enter Try.func30, Try.ntmps30
      go_wp2_with (first | (go_at_call 11; first | (refine (Rerr_c _ _ _ h).mono ?_; rintro e w' ⟨rfl, rfl⟩) | (refine (Rerr_c _ _ _ (h.drewN _)).mono ?_; rintro e w' ⟨rfl, rfl⟩)) | (go_at_call 13; refine (Rleft_c _ _ _ h).mono ?_; rintro e w' ⟨rfl, q, rfl⟩))
      go_ret
      exact ⟨rfl, _, rfl⟩
  · have hb : (((s.err : Nat) : Int) == 0) = false := by rw [beq_eq_false_iff_ne]; omega
    have e1 : endR s = s.err := if_neg (fun h => h0 h.1)
    rw [e1]
    clear e1
    have H0 := Lib.hid h0; clear h0
    go_enter Try.func30, Try.ntmps30
    go_wp2_with (first | (go_at_call 11; refine (Rerr_c _ _ _ h).mono ?_; rintro e w' ⟨rfl, rfl⟩))
    go_ret
    exact ⟨rfl, 0, rfl⟩
end Go.Proofs.Ytacindehajholaa
