/- What a queue answers when it hears how many came. Conditions: lengths that fit. -/
import Derived.Test.YtgnciejbhaebeaaKq3
namespace Go.Proofs.Ytgnciejbhaebeaa
open Go Go.RowKit

/-- What a queue makes of a number: how many more came, and what is left. -/
def ackR (came : Nat) (es : List Ev) (n : Nat) : Nat × Nat × List Ev :=
  if n ≤ came ∨ came + es.length < n then (0, came, es) else (n - came, n, es.drop (n - came))
theorem i64_wrapN {n : Nat} (h : U63 n) : IntKind.i64.wrap (n : Int) = (n : Int) := by
  unfold U63 at h
  unfold IntKind.wrap
  simp [IntKind.bits, IntKind.signed]
  omega

/-- The world in which q.came is told anew. -/
def setW (w : World) (j q m : Nat) : World := (w.drewN j).setCell ⟨q, 0, none⟩ (.int .u64 (m : Int))
theorem Qu.came_ {own : Nat → Prop} {w : World} {q came : Nat} {v : Value} {ds : List EvV} {es : List Ev} (h : Qu own w q came v ds es) (j m : Nat) : Qu own (setW w j q m) q m v ds es := by
  refine ⟨?_, h.evs.frame (fun k hk _ => heap_far (w := w.drewN j) (p := ⟨q, 0, none⟩) _ (fun e => h.ne (by have e' : k = q := e; exact e' ▸ hk))), h.ne⟩
  unfold setW
  rw [heap_set (w := w.drewN j) h.row 0]
  rfl
theorem Qu.acked {own : Nat → Prop} {w3 : World} {q came B C K : Nat} {v v3 : Value} {ds : List EvV} {es : List Ev} (h : Qu own w3 q came v ds es) (ho : OwnV w3 C v3 (ds.drop K)) (hC : B ≤ C) (hq : q < B) (_ : C ≤ w3.heap.size) :
    Qu (fun j => own j ∨ B ≤ j) (w3.setCell ⟨q, 1, none⟩ v3) q came v3 (ds.drop K) (es.drop K) := by
  have hvq : ∀ k, v3.ownBlock = some k → k ≠ q ∧ C ≤ k := fun k ek => by
    have := (World.ownsRow.lt ho k ek).1
    exact ⟨by omega, this⟩
  have hl := h.evs.len
  refine ⟨?_, ⟨by simp [hl], Own.frameK (ho.low (Nat.zero_le _)) (fun g eg => heap_far _ (hvq g eg).1), fun k ek => .inr (Nat.le_trans hC (hvq k ek).2), fun i h1 h2 => ?_⟩, ?_⟩
  · rw [heap_set h.row 1]
    rfl
  · have h1' : K + i < ds.length := by rw [List.length_drop] at h1; omega
    have ho2 := (h.evs.each (K + i) h1' (by omega)).frame (w' := w3.setCell ⟨q, 1, none⟩ v3) (fun k hk _ => heap_far _ (fun e => h.ne (by have e' : k = q := e; exact e' ▸ hk)))
    rw [List.getElem_drop, List.getElem_drop]
    exact ho2.weak (fun k hk _ => .inl hk)
  · rintro (h1 | h1)
    · exact h.ne h1
    · omega

set_option maxRecDepth 100000 in
set_option maxHeartbeats 4000000 in
theorem Ack_c (own : Nat → Prop) (q came : Nat) (v : Value) (ds : List EvV) (es : List Ev) (w : World) (h : Qu own w q came v ds es) (hu : U63 came) (hl : es.length ≤ 1000000000) (m : Nat) (hm : U64 m) :
    Calls Try.prog 27 #[.pointer (some ⟨q, 0, none⟩), .int .u64 m] w fun r w' =>
      r = .returned (.int .i64 ((ackR came es m).1 : Int)) ∧ (∃ v' ds', Qu (fun j => own j ∨ w.heap.size ≤ j) w' q (ackR came es m).2.1 v' ds' (ackR came es m).2.2) ∧ Keeps (fun j => j = q) w w' := by
  obtain ⟨N, gt, es', eR⟩ : ∃ N gt es', ackR came es m = (N, gt, es') := ⟨_, _, _, rfl⟩
  rw [eR]
  have ER := Lib.hid eR; clear eR
  show Calls _ _ _ _ fun r w' => r = .returned (.int .i64 (N : Int)) ∧ (∃ v' ds', Qu (fun j => own j ∨ w.heap.size ≤ j) w' q gt v' ds' es') ∧ Keeps (fun j => j = q) w w'
  have hqlt := h.lt
  have weak : ∀ (w' : World), Qu own w' q came v ds es → Qu (fun j => own j ∨ w.heap.size ≤ j) w' q came v ds es := fun _ h => ⟨h.row, h.evs.weak (fun j hj _ => .inl hj), fun e => by rcases e with e | e; exact h.ne e; omega⟩
  have WK := Lib.hid weak; clear weak
  have c0 := h.c0
  have hform := h.evs.form
  obtain ⟨A, c, ev, hq1, hq2, hR⟩ := hform
  have c1 := h.c1
  rw [ev] at c1
  obtain ⟨ln, eln⟩ : ∃ ln, ln = es.length := ⟨_, rfl⟩
  rw [← eln] at c1 hq1 hl ev
  have H := Lib.hid h; clear h
  have EV := Lib.hid ev; clear ev
  have HR := Lib.hid hR; clear hR
  have ELN := Lib.hid eln; clear eln
  rcases Nat.lt_or_ge came m with h1 | h1
  · have d1 : decide (m ≤ came) = false := decide_eq_false (by omega)
    rcases Nat.lt_or_ge (came + ln) m with h2 | h2
    · have hR : ackR came es m = (0, came, es) := by rw [ackR, if_pos (.inr (by rw [← ELN.out]; exact h2))]
      rw [ER.out] at hR
      injection hR with r1 r2
      injection r2 with r2 r3
      have r2 := r2.symm; have r3 := r3.symm
      subst r1 r2 r3
      go_enter Try.func27, Try.ntmps27
      go_wp2_with (fail)
      refine (Accepted_c own q came v ds es w H.out hu (by rw [← ELN.out]; exact hl)).mono ?_
      rintro r w1 ⟨rfl, j, rfl⟩
      rw [← ELN.out]
      have d2 : decide ((came : Int) + (ln : Int) < (m : Int)) = true := decide_eq_true (by omega)
      go_wp2_with (fail)
      go_ret
      exact ⟨rfl, ⟨v, ds, WK.out _ (H.out.drewN j)⟩, (Keeps.refl _ w).drewN j⟩
    · have hR : ackR came es m = (m - came, m, es.drop (m - came)) := by rw [ackR, if_neg (by rw [← ELN.out]; omega)]
      rw [ER.out] at hR
      injection hR with r1 r2
      injection r2 with r2 r3
      have r2' := r2.symm
      subst r2'
      obtain ⟨K, eK⟩ : ∃ K, K = m - came := ⟨_, rfl⟩
      rw [← eK] at r1 r3
      have R1 := Lib.hid r1; have R3 := Lib.hid r3; clear r1 r3
      have hK : K ≤ ln := by omega
      have wd : IntKind.u64.wrap ((m : Int) - (came : Int)) = (K : Int) := by
        have : (m : Int) - (came : Int) = (K : Int) := by omega
        rw [this]
        exact u64_wrapN (by unfold U64; omega)
      have wi := i64_wrapN (n := K) (by unfold U63; omega)
      go_enter Try.func27, Try.ntmps27
      go_wp2_with (fail)
      refine (Accepted_c own q came v ds es w H.out hu (by rw [← ELN.out]; exact hl)).mono ?_
      rintro r w1 ⟨rfl, j, rfl⟩
      rw [← ELN.out]
      have d2 : decide ((came : Int) + (ln : Int) < (m : Int)) = false := decide_eq_false (by omega)
      have fr0 := H.out.free 0
      have fr1 := H.out.free 1
      have cut := HR.out.cut (k := K) (c := c) (by rw [← ELN.out]; exact hK) (by rw [← ELN.out]; exact hq1)
      have CUT := Lib.hid cut
      clear h1 h2 eK cut
      have hq2 : Qu own (setW w j q m) q m v ds es := H.out.came_ j m
      have HQ2 := Lib.hid hq2; clear hq2
      have cut2 := CUT.out.frame (w' := setW w j q m) (fun k hk _ => heap_far (w := w.drewN j) (p := ⟨q, 0, none⟩) _ (fun e => H.out.ne (by have e' : k = q := e; exact e' ▸ hk))) (by simp [setW, World.setCell, World.drewN])
      by_cases hcK : c = K
      · rw [if_pos hcK] at cut2
        have CUT2 := Lib.hid cut2
        clear cut2 CUT
        obtain rfl : ln = K := by omega
        obtain rfl : c = ln := hcK
        go_wp2_with (fail)
        change Calls _ _ _ (setW w j q m) _
        refine (CloneV_c own A 0 0 _ _ _ (by rw [List.length_drop, ← ELN.out]; exact Nat.sub_self c) CUT2.out (by decide)).mono ?_
        rintro r w3 ⟨v3, rfl, ho3, hb3⟩
        have hq3 := HQ2.out.below hb3
        obtain ⟨A3, c3, rfl, -⟩ := OwnV.form ho3
        rw [List.length_drop] at ho3 ⊢
        have x1 := hq3.c1
        rw [EV.out] at x1
        have f1 := hq3.free 1
        have HQ3 := Lib.hid hq3
        have HO3 := Lib.hid ho3
        have HB3 := Lib.hid hb3
        clear hq3 ho3 hb3 HQ2
        go_wp2_with (fail)
        go_ret
        have sz : (setW w j q m).heap.size = w.heap.size := by simp [setW, World.setCell, World.drewN]
        refine ⟨by rw [R1.out] <;> rfl, ⟨_, _, by rw [R3.out]; exact HQ3.out.acked HO3.out (by rw [sz]; exact Nat.le_refl _) hqlt HB3.out.size⟩, ?_⟩
        exact ((((Keeps.refl (fun k => k = q) w).drewN j).trans (Keeps.set (fun k => k = q) _ ⟨q, 0, none⟩ _ rfl)).trans (Keeps.of_below HB3.out _ (fun _ hk _ => hk))).trans (Keeps.set (fun k => k = q) _ ⟨q, 1, none⟩ _ rfl)
      · rw [if_neg hcK] at cut2
        have CUT2 := Lib.hid cut2
        clear cut2 CUT
        go_wp2_with (fail)
        change Calls _ _ _ (setW w j q m) _
        refine (CloneV_c own _ (ln - K) (c - K) _ _ _ (by rw [List.length_drop, ← ELN.out]) CUT2.out (by omega)).mono ?_
        rintro r w3 ⟨v3, rfl, ho3, hb3⟩
        have hq3 := HQ2.out.below hb3
        obtain ⟨A3, c3, rfl, -⟩ := OwnV.form ho3
        rw [List.length_drop] at ho3 ⊢
        have x1 := hq3.c1
        rw [EV.out] at x1
        have f1 := hq3.free 1
        have HQ3 := Lib.hid hq3
        have HO3 := Lib.hid ho3
        have HB3 := Lib.hid hb3
        clear hq3 ho3 hb3 HQ2
        go_wp2_with (fail)
        go_ret
        have sz : (setW w j q m).heap.size = w.heap.size := by simp [setW, World.setCell, World.drewN]
        refine ⟨by rw [R1.out] <;> rfl, ⟨_, _, by rw [R3.out]; exact HQ3.out.acked HO3.out (by rw [sz]; exact Nat.le_refl _) hqlt HB3.out.size⟩, ?_⟩
        exact ((((Keeps.refl (fun k => k = q) w).drewN j).trans (Keeps.set (fun k => k = q) _ ⟨q, 0, none⟩ _ rfl)).trans (Keeps.of_below HB3.out _ (fun _ hk _ => hk))).trans (Keeps.set (fun k => k = q) _ ⟨q, 1, none⟩ _ rfl)
  · have d1 : decide (m ≤ came) = true := decide_eq_true h1
    have hR : ackR came es m = (0, came, es) := by rw [ackR, if_pos (.inl h1)]
    rw [ER.out] at hR
    injection hR with r1 r2
    injection r2 with r2 r3
    have r2 := r2.symm; have r3 := r3.symm
    subst r1 r2 r3
    clear h1
    go_enter Try.func27, Try.ntmps27
    go_wp2_with (fail)
    go_ret
    exact ⟨rfl, ⟨v, ds, WK.out _ H.out⟩, Keeps.refl _ _⟩
end Go.Proofs.Ytgnciejbhaebeaa
