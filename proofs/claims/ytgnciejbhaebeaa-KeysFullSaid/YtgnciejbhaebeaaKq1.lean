/- What an inbox and a nil queue answer. Conditions: events that can be read; lengths that fit. -/
import Derived.Test.YtgnciejbhaebeaaKe6
import Derived.Test.YtgnciejbhaebeaaKf1
namespace Go.Proofs.Ytgnciejbhaebeaa
open Go Go.RowKit

/-- Events of one's own. -/
def Evs (ok : Nat → Prop) (w : World) (v : Value) (es : List Ev) : Prop := ∃ ds, EvsO ok w v ds es
def U63 (n : Nat) : Prop := n < 9223372036854775808
theorem u64_wrapN {n : Nat} (h : U64 n) : IntKind.u64.wrap (n : Int) = (n : Int) := by
  unfold U64 at h
  unfold IntKind.wrap
  simp [IntKind.bits, IntKind.signed]
  omega
/-- Block b is an inbox to which so many came. -/
def Ib (w : World) (b got : Nat) : Prop := w.heap[b]? = some (.cells #[.int .u64 (got : Int)] 118 (0, 0))
section
variable {w w' : World} {b got : Nat}
theorem Ib.cell (h : Ib w b got) : w.cell? ⟨b, 0, none⟩ = some (.int .u64 (got : Int)) := by rw [heap_cell h]; rfl
theorem Ib.free (h : Ib w b got) : w.frozen? ⟨b, 0, none⟩ = false := heap_free h 0
theorem Ib.lt (h : Ib w b got) : b < w.heap.size := heap_lt h
theorem Ib.below (h : Ib w b got) (hb : Below w.heap.size w w') : Ib w' b got := (hb.block b h.lt).trans h
theorem Ib.keep (h : Ib w b got) (hb : w'.heap[b]? = w.heap[b]?) : Ib w' b got := hb.trans h
theorem Ib.set (h : Ib w b got) (m : Nat) : Ib (w.setCell ⟨b, 0, none⟩ (.int .u64 (m : Int))) b m := by
  unfold Ib
  rw [heap_set h]
  rfl
end
set_option maxRecDepth 100000 in
theorem NewInbox_c (w : World) : Calls Try.prog 28 #[] w fun r w' => r = .returned (.pointer (some ⟨w.heap.size, 0, none⟩)) ∧ Ib w' w.heap.size 0 ∧ Below w.heap.size w w' := by
  have k0 : Below w.heap.size w (w.alloc (.cells #[.int .u64 0] 118)) := (Below.refl _ _).alloc (Nat.le_refl _) _
  have h0 : Ib (w.alloc (.cells #[.int .u64 0] 118)) w.heap.size 0 := heap_alloc_new w _
  have H0 := Lib.hid h0; clear h0
  go_enter Try.func28, Try.ntmps28
  go_wp2_with (fail)
  go_ret
  exact ⟨rfl, H0.out, k0⟩
set_option maxRecDepth 100000 in
theorem NewQueue_c (w : World) : Calls Try.prog 25 #[] w fun r w' => r = .returned (.pointer (some ⟨w.heap.size, 0, none⟩)) ∧ w'.heap[w.heap.size]? = some (.cells #[.int .u64 0, .slice none 0 0] 116 (0, 0)) ∧ Below w.heap.size w w' ∧ w'.heap.size = w.heap.size + 1 := by
  have k0 : Below w.heap.size w (w.alloc (.cells #[.int .u64 0, .slice none 0 0] 116)) := (Below.refl _ _).alloc (Nat.le_refl _) _
  have h0 : (w.alloc (.cells #[.int .u64 0, .slice none 0 0] 116)).heap[w.heap.size]? = some (.cells #[.int .u64 0, .slice none 0 0] 116 (0, 0)) := heap_alloc_new w _
  have H0 := Lib.hid h0; clear h0
  go_enter Try.func25, Try.ntmps25
  go_wp2_with (fail)
  go_ret
  exact ⟨rfl, H0.out, k0, by simp⟩
set_option maxRecDepth 100000 in
theorem Got_c (b got : Nat) (w : World) (h : Ib w b got) : Calls Try.prog 37 #[.pointer (some ⟨b, 0, none⟩)] w fun r w' => r = .returned (.int .u64 (got : Int)) ∧ w = w' := by
  have c0 := h.cell
  go_enter Try.func37, Try.ntmps37
  go_wp2
  go_ret
  exact ⟨rfl, rfl⟩
set_option maxRecDepth 100000 in
theorem Got_n (w : World) : Calls Try.prog 37 #[.pointer none] w fun r w' => r = .returned (.int .u64 0) ∧ w = w' := by
  go_enter Try.func37, Try.ntmps37
  go_wp2
  go_ret
  exact ⟨rfl, rfl⟩
set_option maxRecDepth 100000 in
theorem Accepted_n (w : World) : Calls Try.prog 36 #[.pointer none] w fun r w' => r = .returned (.int .u64 0) ∧ w = w' := by
  go_enter Try.func36, Try.ntmps36
  go_wp2
  go_ret
  exact ⟨rfl, rfl⟩
set_option maxRecDepth 100000 in
theorem Batch_n (w : World) : Calls Try.prog 34 #[.pointer none] w fun r w' => r = .returned (.tuple #[.int .u64 0, .slice none 0 0]) ∧ w = w' := by
  go_enter Try.func34, Try.ntmps34
  go_wp2
  go_ret2
  exact ⟨rfl, rfl⟩
set_option maxRecDepth 100000 in
theorem Ack_n (n : Int) (w : World) : Calls Try.prog 27 #[.pointer none, .int .u64 n] w fun r w' => r = .returned (.int .i64 0) ∧ w = w' := by
  go_enter Try.func27, Try.ntmps27
  go_wp2
  go_ret
  exact ⟨rfl, rfl⟩
set_option maxRecDepth 100000 in
theorem Push_n (k x y b : Int) (A : Option Addr) (n c : Nat) (w : World) : Calls Try.prog 26 #[.pointer none, .agg #[.int .i64 k, .slice A n c, .int .i64 x, .int .i64 y, .int .i64 b]] w fun r w' => r = .returned (.tuple #[.int .u64 0, .int .i64 1]) ∧ Below w.heap.size w w' := by
  have kb : Below w.heap.size w (w.alloc (.cells #[.int .i64 k, .slice A n c, .int .i64 x, .int .i64 y, .int .i64 b] 36)) := (Below.refl _ _).alloc (Nat.le_refl _) _
  go_enter Try.func26, Try.ntmps26
  go_wp2
  go_ret2
  exact ⟨rfl, kb⟩
set_option maxRecDepth 100000 in
theorem Take_n (base : Int) (A : Option Addr) (n c : Nat) (w : World) : Calls Try.prog 32 #[.pointer none, .int .u64 base, .slice A n c] w fun r w' => r = .returned (.tuple #[.slice none 0 0, .int .i64 1]) ∧ w = w' := by
  go_enter Try.func32, Try.ntmps32
  go_wp2
  go_ret2
  exact ⟨rfl, rfl⟩

/-- What an inbox takes: the new ones, the error, how many came. -/
def takeR (got base : Nat) (es : List Ev) : List Ev × Nat × Nat :=
  if es = [] ∨ 16 < es.length then ([], 1, got) else if got < base then ([], 15, got) else if es.length ≤ got - base then ([], 16, got) else (es.drop (got - base), 0, got + (es.length - (got - base)))
theorem EvsR.cut {ok : Nat → Prop} {w : World} {A : Option Addr} {ds : List EvV} {es : List Ev} (h : EvsR ok w A ds es) {k c : Nat} (hk : k ≤ es.length) (hc : es.length ≤ c) : EvsR ok w (if c = k then A else A.map (fun x => x.add (k * 5))) (ds.drop k) (es.drop k) := by
  have hl := h.len
  have hcd : cellsV (ds.drop k) = (cellsV ds).drop (k * 5) := by
    have e : cellsV ds = cellsV (ds.take k) ++ cellsV (ds.drop k) := by rw [← cellsV_append, List.take_append_drop]
    rw [e, List.drop_left' (by rw [cellsV_length, List.length_take]; omega)]
  refine ⟨by rw [List.length_drop, List.length_drop, hl], ?_, fun h0 a e => ?_, fun i h1 h2 => ?_⟩
  · rw [hcd]
    rcases h.row with h2 | ⟨b, off, rfl, hb, hcc⟩
    · left; rw [h2]; simp
    · by_cases e : c = k
      · left
        apply List.eq_nil_of_length_eq_zero
        rw [List.length_drop, cellsV_length]; omega
      · rw [if_neg e]
        refine .inr ⟨b, off + k * 5, ?_, hb, fun j hj => ?_⟩
        · unfold Addr.add
          by_cases h0 : k * 5 = 0
          · have : k = 0 := by omega
            subst this; simp
          · simp [h0]
        · simp only [List.length_drop] at hj
          rw [Nat.add_assoc, hcc (k * 5 + j) (by omega)]
          simp
  · rw [List.length_drop] at h0
    split at e
    · exact h.ok_ (by omega) a e
    · obtain ⟨a', ha, rfl⟩ := Option.map_eq_some_iff.1 e
      have := h.ok_ (by omega) a' ha
      unfold Addr.add
      split <;> exact this
  · have h1' : k + i < ds.length := by rw [List.length_drop] at h1; omega
    have h2' : k + i < es.length := by omega
    have := h.each (k + i) h1' h2'
    rw [List.getElem_drop, List.getElem_drop]
    exact this

set_option maxRecDepth 100000 in
set_option maxHeartbeats 2000000 in
theorem Take24_c (ok : Nat → Prop) (b got base : Nat) (A : Option Addr) (n c : Nat) (ds : List EvV) (es : List Ev) (w : World) (hg : U63 got) (hu : U64 base) (hi : Ib w b got) (hn : es.length = n) (hr : EvsR ok w A ds es) (hc : n ≤ c) (hm : c ≤ maxLen) (hl : n ≤ 140737488355328) :
    Calls Try.prog 32 #[.pointer (some ⟨b, 0, none⟩), .int .u64 base, .slice A n c] w fun r w' => ∃ v, r = .returned (.tuple #[v, .int .i64 ((takeR got base es).2.1 : Int)]) ∧ Evs (w.heap.size ≤ ·) w' v (takeR got base es).1 ∧ Ib w' b (takeR got base es).2.2 ∧ w.grownBy w' (some b) := by
  have HN := Lib.hid hn; clear hn
  have c0 := hi.cell
  have HI := Lib.hid hi; clear hi
  obtain ⟨L, er, gt, eR⟩ : ∃ L er gt, takeR got base es = (L, er, gt) := ⟨_, _, _, rfl⟩
  rw [eR]
  have ER := Lib.hid eR; clear eR
  show Calls _ _ _ _ fun r w' => ∃ v, r = .returned (.tuple #[v, .int .i64 (er : Int)]) ∧ Evs (w.heap.size ≤ ·) w' v L ∧ Ib w' b gt ∧ w.grownBy w' (some b)
  have nil_ : ∀ w', EvsO (w.heap.size ≤ ·) w' (.slice none 0 0) [] [] := fun w' => ⟨rfl, World.ownsRow_nil _ _ _ _, fun k e => (by cases e), fun i h => absurd h (by simp)⟩
  have NIL := Lib.hid nil_; clear nil_
  rcases Nat.eq_zero_or_pos n with h0 | h0
  · have hR : takeR got base es = ([], 1, got) := by rw [takeR, if_pos (.inl (List.eq_nil_of_length_eq_zero (HN.out.trans h0)))]
    rw [ER.out] at hR
    injection hR with r1 r2
    injection r2 with r2 r3
    have r3 := r3.symm
    subst r1 r2 r3 h0
    go_enter Try.func32, Try.ntmps32
    go_wp2_with (fail)
    go_ret2
    exact ⟨_, rfl, ⟨[], NIL.out _⟩, HI.out, World.grownBy.refl _ _⟩
  have d3 : ((n : Int) == 0) = false := by rw [beq_eq_false_iff_ne]; omega
  by_cases hbig : 16 < n
  · have hR : takeR got base es = ([], 1, got) := by rw [takeR, if_pos (.inr (by rw [HN.out]; exact hbig))]
    rw [ER.out] at hR
    injection hR with r1 r2
    injection r2 with r2 r3
    have r3 := r3.symm
    subst r1 r2 r3
    have d4 : decide ((16 : Int) < (n : Int)) = true := decide_eq_true (by omega)
    clear hbig
    go_enter Try.func32, Try.ntmps32
    go_wp2_with (fail)
    go_ret2
    exact ⟨_, rfl, ⟨[], NIL.out _⟩, HI.out, World.grownBy.refl _ _⟩
  have hnb : ¬ (es = [] ∨ 16 < es.length) := by
    rintro (h | h)
    · have := HN.out; rw [h] at this; simp at this; omega
    · rw [HN.out] at h; exact hbig h
  have d4 : decide ((16 : Int) < (n : Int)) = false := decide_eq_false (by omega)
  have hsm : n ≤ 16 := by omega
  clear hbig
  rcases Nat.lt_or_ge got base with hgb | hgb
  · have hR : takeR got base es = ([], 15, got) := by rw [takeR, if_neg hnb, if_pos hgb]
    rw [ER.out] at hR
    injection hR with r1 r2
    injection r2 with r2 r3
    have r3 := r3.symm
    subst r1 r2 r3
    have d5 : decide (got < base) = true := decide_eq_true (by omega)
    clear hnb hgb
    go_enter Try.func32, Try.ntmps32
    go_wp2_with (fail)
    go_ret2
    exact ⟨_, rfl, ⟨[], NIL.out _⟩, HI.out, World.grownBy.refl _ _⟩
  have d5 : decide (got < base) = false := decide_eq_false (by omega)
  obtain ⟨K, eK⟩ : ∃ K, K = got - base := ⟨_, rfl⟩
  have wd : IntKind.u64.wrap ((got : Int) - (base : Int)) = (K : Int) := by
    have : (got : Int) - (base : Int) = (K : Int) := by omega
    rw [this]
    exact u64_wrapN (by unfold U63 at hg; unfold U64; omega)
  have wn : IntKind.u64.wrap (n : Int) = (n : Int) := u64_wrapN (by unfold U64; omega)
  rcases Nat.lt_or_ge K n with hKn | hKn
  · have hR : takeR got base es = (es.drop K, 0, got + (n - K)) := by rw [takeR, if_neg hnb, if_neg (by omega), ← eK, HN.out, if_neg (by omega)]
    rw [ER.out] at hR
    injection hR with r1 r2
    injection r2 with r2 r3
    subst r2
    have d6 : decide (n ≤ K) = false := decide_eq_false (by omega)
    have R1 := Lib.hid r1; have R3 := Lib.hid r3
    have wa : IntKind.u64.wrap ((got : Int) + ((n - K : Nat) : Int)) = ((got + (n - K) : Nat) : Int) := by
      rw [show (got : Int) + ((n - K : Nat) : Int) = ((got + (n - K) : Nat) : Int) by omega]
      exact u64_wrapN (by unfold U63 at hg; unfold U64; omega)
    have wn2 : IntKind.u64.wrap ((n - K : Nat) : Int) = ((n - K : Nat) : Int) := u64_wrapN (by unfold U64; omega)
    have cut := hr.cut (k := K) (c := c) (by rw [HN.out]; omega) (by rw [HN.out]; exact hc)
    have CUT := Lib.hid cut
    have EK := Lib.hid eK
    clear hnb hgb r1 r3 eK cut hr
    go_enter Try.func32, Try.ntmps32
    go_wp2_with (fail)
    have cut := CUT.out
    rw [if_neg (by omega)] at cut
    refine (clone_c ok _ (n - K) (c - K) _ _ w (by rw [List.length_drop, HN.out]) cut (by omega)).mono ?_
    rintro r w1 ⟨v, ds', rfl, ho, hb⟩
    obtain ⟨A', c', rfl, p1, p2, p3⟩ := ho.form
    have hI1 := HI.out.below hb
    have hlen : (es.drop K).length = n - K := by rw [List.length_drop, HN.out]
    rw [hlen] at p1 ho ⊢
    have c1 := hI1.cell
    have f1 := hI1.free
    have HO := Lib.hid ho; clear ho
    have HI1 := Lib.hid hI1; clear hI1
    have HB := Lib.hid hb; clear hb
    have HL := Lib.hid hlen
    clear cut c0 p1 p2 p3 hlen
    go_wp2_with (fail)
    go_ret2
    have hlt := HI.out.lt
    refine ⟨_, rfl, ⟨ds', ?_⟩, ?_, ?_⟩
    · rw [R1.out]
      refine HO.out.frame (fun k hk _ => heap_far _ ?_)
      have : w.heap.size ≤ k := hk
      show k ≠ b; omega
    · rw [R3.out]
      exact HI1.out.set _
    · exact only_trans (grownBy_of_below HB.out (some b)) (only_set b 0 _)
  · have hR : takeR got base es = ([], 16, got) := by rw [takeR, if_neg hnb, if_neg (by omega), ← eK, HN.out, if_pos hKn]
    rw [ER.out] at hR
    injection hR with r1 r2
    injection r2 with r2 r3
    have r3 := r3.symm
    subst r1 r2 r3
    have d6 : decide (n ≤ K) = true := decide_eq_true (by omega)
    clear hnb hgb hKn eK
    go_enter Try.func32, Try.ntmps32
    go_wp2_with (fail)
    go_ret2
    exact ⟨_, rfl, ⟨[], NIL.out _⟩, HI.out, World.grownBy.refl _ _⟩
end Go.Proofs.Ytgnciejbhaebeaa
