/- What a queue answers: an event pushed. Conditions: events that can be read; lengths that fit. -/
import Derived.Test.YtgnciejbhaebeaaKq1
import Derived.Test.YtgnciejbhaebeaaRt
import Derived.Deep.RegionHeld3
namespace Go.Proofs.Ytgnciejbhaebeaa
open Go Go.RowKit

/-- Block q is a queue with these events, of which so many came; they lie in blocks of their own. -/
structure Qu (own : Nat → Prop) (w : World) (q came : Nat) (v : Value) (ds : List EvV) (es : List Ev) : Prop where
  row : w.heap[q]? = some (.cells #[.int .u64 (came : Int), v] 116 (0, 0))
  evs : EvsO own w v ds es
  ne : ¬ own q
section
variable {own own' : Nat → Prop} {w w' : World} {q came : Nat} {v : Value} {ds : List EvV} {es : List Ev}
theorem Qu.c0 (h : Qu own w q came v ds es) : w.cell? ⟨q, 0, none⟩ = some (.int .u64 (came : Int)) := by rw [heap_cell h.row]; rfl
theorem Qu.c1 (h : Qu own w q came v ds es) : w.cell? ⟨q, 1, none⟩ = some v := by rw [heap_cell h.row]; rfl
theorem Qu.free (h : Qu own w q came v ds es) (i : Nat) : w.frozen? ⟨q, i, none⟩ = false := heap_free h.row i
theorem Qu.lt (h : Qu own w q came v ds es) : q < w.heap.size := heap_lt h.row
theorem Qu.keep (h : Qu own w q came v ds es) (hq : w'.heap[q]? = w.heap[q]?) (hk : ∀ k, own k → k < w.heap.size → w'.heap[k]? = w.heap[k]?) : Qu own w' q came v ds es := ⟨hq.trans h.row, h.evs.frame hk, h.ne⟩
theorem Qu.below (h : Qu own w q came v ds es) (hb : Below w.heap.size w w') : Qu own w' q came v ds es := h.keep (hb.block q h.lt) (fun k _ hk => hb.block k hk)
theorem Qu.drewN (h : Qu own w q came v ds es) (n : Nat) : Qu own (w.drewN n) q came v ds es := ⟨h.row, h.evs.frame (fun _ _ _ => rfl), h.ne⟩
theorem Qu.form (h : Qu own w q came v ds es) : ∃ A c, v = .slice A es.length c ∧ es.length ≤ c ∧ c ≤ maxLen := by
  obtain ⟨A, c, e, h1, h2, _⟩ := h.evs.form
  exact ⟨A, c, e, h1, h2⟩
end

set_option maxRecDepth 100000 in
set_option maxHeartbeats 1000000 in
theorem Accepted_c (own : Nat → Prop) (q came : Nat) (v : Value) (ds : List EvV) (es : List Ev) (w : World) (h : Qu own w q came v ds es) (hu : U63 came) (hl : es.length ≤ 1000000000) :
    Calls Try.prog 36 #[.pointer (some ⟨q, 0, none⟩)] w fun r w' => r = .returned (.int .u64 ((came + es.length : Nat) : Int)) ∧ ∃ k, w' = w.drewN k := by
  obtain ⟨A, c, rfl, h1, h2⟩ := h.form
  have c0 := h.c0
  have c1 := h.c1
  obtain ⟨n, en⟩ : ∃ n, n = es.length := ⟨_, rfl⟩
  rw [← en] at c1 h1 hl ⊢
  have w1 : IntKind.u64.wrap (n : Int) = (n : Int) := u64_wrapN (by unfold U64; omega)
  have w2 : IntKind.u64.wrap ((came : Int) + (n : Int)) = ((came + n : Nat) : Int) := by
    rw [show (came : Int) + (n : Int) = ((came + n : Nat) : Int) by omega]
    exact u64_wrapN (by unfold U63 at hu; unfold U64; omega)
  have EN := Lib.hid en
  clear h en
  go_enter Try.func36, Try.ntmps36
  go_wp2
  go_quiet (fail)
  go_wp2
  go_ret
  exact ⟨rfl, _, rfl⟩

theorem ownTypes {w : World} {B B' s s' n n' c c' g : Nat} {e e' : TypeId} {vs vs' : List Value} (h : w.ownsRow B e s (.slice (some ⟨g, 0, none⟩) n c) n vs) (h' : w.ownsRow B' e' s' (.slice (some ⟨g, 0, none⟩) n' c') n' vs') : e = e' := by
  rcases h.2 with ⟨h, _⟩ | ⟨g1, _, _, hv, _, hg, _⟩
  · cases h
  · rcases h'.2 with ⟨h, _⟩ | ⟨g2, _, _, hv', _, hg', _⟩
    · cases h
    · injection hv with hv _ _
      injection hv with hv
      injection hv with hv
      injection hv' with hv' _ _
      injection hv' with hv'
      injection hv' with hv'
      subst hv hv'
      rw [hg] at hg'
      injection hg' with hg'
      injection hg'
/-- What a queue makes of an event: its number, the error, the events. -/
def pushR (came : Nat) (es : List Ev) (e : Ev) : Nat × Nat × List Ev :=
  if e.may = false then (0, 1, es) else if 4096 ≤ es.length then (0, 11, es) else (came + (es.length + 1), 0, es ++ [e])

/-- The state within a push. -/
structure PS (own : Nat → Prop) (q came : Nat) (v : Value) (ds : List EvV) (es : List Ev) (g3 : Nat) (k x y b : Int) (A : Option Addr) (n c : Nat) (w : World) : Prop where
  qu : Qu own w q came v ds es
  bx : w.heap[g3]? = some (.cells #[.int .i64 k, .slice A n c, .int .i64 x, .int .i64 y, .int .i64 b] 36 (0, 0))
section
variable {own : Nat → Prop} {q came : Nat} {v : Value} {ds : List EvV} {es : List Ev} {g3 : Nat} {k x y b : Int} {A : Option Addr} {n c : Nat} {w w' : World}
theorem PS.cells (h : PS own q came v ds es g3 k x y b A n c w) : w.cell? ⟨q, 1, none⟩ = some v ∧ w.cell? ⟨g3, 0, none⟩ = some (.int .i64 k) ∧ w.cell? ⟨g3, 1, none⟩ = some (.slice A n c) ∧ w.cell? ⟨g3, 2, none⟩ = some (.int .i64 x) ∧ w.cell? ⟨g3, 3, none⟩ = some (.int .i64 y) ∧ w.cell? ⟨g3, 4, none⟩ = some (.int .i64 b) :=
  ⟨h.qu.c1, by rw [heap_cell h.bx]; rfl, by rw [heap_cell h.bx]; rfl, by rw [heap_cell h.bx]; rfl, by rw [heap_cell h.bx]; rfl, by rw [heap_cell h.bx]; rfl⟩
theorem PS.cellsH (h : Hid (PS own q came v ds es g3 k x y b A n c w)) : w.cell? ⟨q, 1, none⟩ = some v ∧ w.cell? ⟨g3, 0, none⟩ = some (.int .i64 k) ∧ w.cell? ⟨g3, 1, none⟩ = some (.slice A n c) ∧ w.cell? ⟨g3, 2, none⟩ = some (.int .i64 x) ∧ w.cell? ⟨g3, 3, none⟩ = some (.int .i64 y) ∧ w.cell? ⟨g3, 4, none⟩ = some (.int .i64 b) := h.out.cells
theorem PS.cellsE {v2 : Value} (e : Hid (v = v2)) (h : Hid (PS own q came v ds es g3 k x y b A n c w)) : w.cell? ⟨q, 1, none⟩ = some v2 ∧ w.cell? ⟨g3, 0, none⟩ = some (.int .i64 k) ∧ w.cell? ⟨g3, 1, none⟩ = some (.slice A n c) ∧ w.cell? ⟨g3, 2, none⟩ = some (.int .i64 x) ∧ w.cell? ⟨g3, 3, none⟩ = some (.int .i64 y) ∧ w.cell? ⟨g3, 4, none⟩ = some (.int .i64 b) := by
  have := h.out.cells
  rw [e.out] at this
  exact this
theorem PS.below (h : PS own q came v ds es g3 k x y b A n c w) (hb : Below w.heap.size w w') : PS own q came v ds es g3 k x y b A n c w' := ⟨h.qu.below hb, (hb.block g3 (heap_lt h.bx)).trans h.bx⟩
theorem PS.grown {v2 : Value} (e : Hid (v = v2)) (h : PS own q came v ds es g3 k x y b A n c w) (hg : w.grownBy w' v2.ownBlock) (ne : ∀ j, v2.ownBlock = some j → j ≠ q ∧ j ≠ g3) : w'.heap[q]? = some (.cells #[.int .u64 (came : Int), v2] 116 (0, 0)) ∧ w'.heap[g3]? = some (.cells #[.int .i64 k, .slice A n c, .int .i64 x, .int .i64 y, .int .i64 b] 36 (0, 0)) := by
  have hq := h.qu.row
  rw [e.out] at hq
  exact ⟨(hg.block q h.qu.lt (fun e => (ne q e.symm).1 rfl)).trans hq, (hg.block g3 (heap_lt h.bx) (fun e => (ne g3 e.symm).2 rfl)).trans h.bx⟩
theorem rows_cells {v2 : Value} (h : w.heap[q]? = some (.cells #[.int .u64 (came : Int), v2] 116 (0, 0)) ∧ w.heap[g3]? = some (.cells #[.int .i64 k, .slice A n c, .int .i64 x, .int .i64 y, .int .i64 b] 36 (0, 0))) : w.cell? ⟨q, 1, none⟩ = some v2 ∧ w.cell? ⟨g3, 0, none⟩ = some (.int .i64 k) ∧ w.cell? ⟨g3, 1, none⟩ = some (.slice A n c) ∧ w.cell? ⟨g3, 2, none⟩ = some (.int .i64 x) ∧ w.cell? ⟨g3, 3, none⟩ = some (.int .i64 y) ∧ w.cell? ⟨g3, 4, none⟩ = some (.int .i64 b) :=
  ⟨by rw [heap_cell h.1]; rfl, by rw [heap_cell h.2]; rfl, by rw [heap_cell h.2]; rfl, by rw [heap_cell h.2]; rfl, by rw [heap_cell h.2]; rfl, by rw [heap_cell h.2]; rfl⟩
theorem PS.drewN (h : PS own q came v ds es g3 k x y b A n c w) (j : Nat) : PS own q came v ds es g3 k x y b A n c (w.drewN j) := ⟨h.qu.drewN j, h.bx⟩
end
theorem EvsO.txt_ne {own : Nat → Prop} {w : World} {v : Value} {ds : List EvV} {es : List Ev} (h : EvsO own w v ds es) (i : Nat) (hi : i < ds.length) (a : Addr) (ha : ds[i].A = some a) : v.ownBlock ≠ some a.block := by
  intro e
  have hl := h.len
  have ht := (h.each i hi (by omega)).2.2.2.2
  have h2 := ht.2.1
  unfold OwnB Own at h2
  rw [List.length_map, ht.1, ha] at h2
  rcases h2.2 with ⟨hv, _⟩ | ⟨g', _, _, hv, _⟩
  · cases hv
  · injection hv with hv _ _
    injection hv with hv
    subst hv
    rcases h.row.2 with ⟨hv, _⟩ | ⟨g1, cap, cur, hv, _⟩
    · rw [hv] at e; cases e
    · have hrow := h.row
      unfold OwnV at hrow
      rw [hv] at e hrow
      injection e with e
      simp only at e
      subst e
      have := ownTypes hrow h2
      revert this
      decide
theorem Qu.pushed {own : Nat → Prop} {w5 w7 : World} {q came B C : Nat} {v v5 v7 : Value} {ds d5 : List EvV} {es : List Ev} {e : Ev} (h : Qu own w5 q came v ds es) (hb : ∀ j, v.ownBlock = some j → j < B) (hq : q < B) (h5 : B ≤ w5.heap.size) (hC : B ≤ C)
    (O5 : EvsO (C ≤ ·) w5 v5 d5 [e]) (HO7 : OwnV w7 0 v7 (ds ++ d5)) (hg : w5.grownBy w7 v.ownBlock) (hv : v7.ownBlock = v.ownBlock ∨ v7.ownBlock = some w5.heap.size) :
    Qu (fun j => own j ∨ B ≤ j) (w7.setCell ⟨q, 1, none⟩ v7) q came v7 (ds ++ d5) (es ++ [e]) := by
  have hvq : ∀ j, v.ownBlock = some j → own j ∧ j ≠ q := fun j ej => ⟨h.evs.ok_ j ej, fun e' => h.ne (e' ▸ h.evs.ok_ j ej)⟩
  have hrow : w7.heap[q]? = some (.cells #[.int .u64 (came : Int), v] 116 (0, 0)) := (hg.block q h.lt (fun e' => (hvq q e'.symm).2 rfl)).trans h.row
  have h7q : ∀ k, v7.ownBlock = some k → k ≠ q ∧ (own k ∨ B ≤ k) := by
    intro k ek
    rcases hv with hv | hv
    · rw [hv] at ek
      exact ⟨(hvq k ek).2, .inl (hvq k ek).1⟩
    · rw [hv] at ek
      injection ek with ek
      subst ek
      exact ⟨by omega, .inr h5⟩
  have hl := h.evs.len
  have hl5 := O5.len
  refine ⟨?_, ⟨by simp [hl, hl5], Own.frameK HO7 (fun g eg => heap_far _ (h7q g eg).1), fun k ek => (h7q k ek).2, fun i h1 h2 => ?_⟩, ?_⟩
  · rw [heap_set hrow 1]
    rfl
  · rcases Nat.lt_or_ge i ds.length with hi | hi
    · have ho := h.evs.each i hi (by omega)
      have hf : ∀ a, ds[i].A = some a → (w7.setCell ⟨q, 1, none⟩ v7).heap[a.block]? = w5.heap[a.block]? := by
        intro a ea
        have h3 := ho.2.2.2.2.2.2.1 a ea
        rw [heap_far _ (show a.block ≠ q from fun e' => h.ne (e' ▸ h3))]
        exact hg.block _ (ho.2.2.2.2.lt a ea) (fun e' => h.evs.txt_ne i hi a ea e'.symm)
      rw [List.getElem_append_left hi, List.getElem_append_left (by omega)]
      obtain ⟨q0, q1, q2, q3, t1, t2, t3, t4⟩ := ho
      refine ⟨q0, q1, q2, q3, t1, Own.frameK t2 (fun g eg => ?_), fun a ea => .inl (t3 a ea), t4⟩
      cases hA : ds[i].A with
      | none => rw [hA] at eg; cases eg
      | some a =>
        rw [hA] at eg
        injection eg with eg
        subst eg
        exact hf a hA
    · have hi5 : i - ds.length < d5.length := by rw [List.length_append] at h1; omega
      have ho := O5.each (i - ds.length) hi5 (by omega)
      rw [List.getElem_append_right hi, List.getElem_append_right (by omega)]
      simp only [← hl]
      obtain ⟨q0, q1, q2, q3, t1, t2, t3, t4⟩ := ho
      refine ⟨q0, q1, q2, q3, t1, Own.frameK t2 (fun g eg => ?_), fun a ea => .inr (Nat.le_trans hC (t3 a ea)), t4⟩
      cases hA : d5[i - ds.length].A with
      | none => rw [hA] at eg; cases eg
      | some a =>
        rw [hA] at eg
        injection eg with eg
        subst eg
        have h3 : C ≤ a.block := t3 a hA
        rw [heap_far _ (show a.block ≠ q by omega)]
        have hlt := (Own.lt t2 a.block (by rw [hA]; rfl)).2
        exact hg.block _ hlt (fun e' => by have := hb _ e'.symm; omega)
  · rintro (h1 | h1)
    · exact h.ne h1
    · omega

/-- 'append(v, xs...)' on events, as a step of a region that draws. -/
theorem step_appV {ops : Array Oper} {o : Oper} {a : Act} {w : World} {K : Act → World → Prop} {Q : Exit → Act → World → Prop} {E : Prop} (hgd : o.guard = none) (s x : Operand)
    (ho : o.op = .call { callee := .builtin .append, args := #[s, x], argTypes := #[23, 23] })
    (B : Nat) (v : Value) (ds : List EvV) (hs : a.eval s = v) (hown : OwnV w B v ds)
    (A : Option Addr) (m c : Nat) (ns : List EvV) (hx : a.eval x = .slice A m c) (hm : ns.length = m) (hr : Rd w A (cellsV ns))
    (hlen : ds.length + m ≤ 2513169434916) (hB : B ≤ w.heap.size)
    (h : ∀ v' w', Hid (OwnV w' B v' (ds ++ ns)) → w.grownBy w' v.ownBlock → (v'.ownBlock = v.ownBlock ∨ v'.ownBlock = some w.heap.size) → K (a.put o.dst v') w') :
    if Region.wanted o (yielded ops a.tmps) = true then Oper.wp Try.prog o a w K Q else E := by
  rw [if_pos (wanted_none hgd)]
  obtain ⟨i0, hi, hz0, hz1, hz2⟩ := info_parts info_ev
  obtain ⟨v', w', hrun, h2, h3, h4⟩ := run_appN (P := Try.prog) w B 23 o.type 36 i0 _ 5 56 Try.underlying23 hi hz0 hz1 hz2 rfl (by decide) v ds.length (cellsV ds) hown A m c (cellsV ns) (by rw [cellsV_length, hm]) hr (cellsV_one _) (by unfold maxLen; omega) (by omega) hB
  unfold Oper.wp execOp
  simp only [ho, resolve, invoke, builtin, Sem.run_bind, Sem.run_pure, Result.andThen_ok, List.map_toArray, List.map_cons, List.map_nil, hs, hx, hrun]
  refine h v' w' (Lib.hid ?_) h3 h4
  unfold OwnV
  rw [cellsV_append, List.length_append, hm]
  exact h2

set_option maxRecDepth 100000 in
set_option maxHeartbeats 4000000 in
theorem Push_c (own : Nat → Prop) (q came : Nat) (v : Value) (ds : List EvV) (es : List Ev) (w : World) (h : Qu own w q came v ds es) (hu : U63 came) (hl : es.length ≤ 1000000000)
    (ok : Nat → Prop) (k x y b : Int) (A : Option Addr) (n c : Nat) (t : List UInt8) (ht : TxtR ok w A n c t) :
    Calls Try.prog 26 #[.pointer (some ⟨q, 0, none⟩), .agg #[.int .i64 k, .slice A n c, .int .i64 x, .int .i64 y, .int .i64 b]] w fun r w' =>
      r = .returned (.tuple #[.int .u64 ((pushR came es ⟨k, t, x, y, b⟩).1 : Int), .int .i64 ((pushR came es ⟨k, t, x, y, b⟩).2.1 : Int)]) ∧ (∃ v' ds', Qu (fun j => own j ∨ w.heap.size ≤ j) w' q came v' ds' (pushR came es ⟨k, t, x, y, b⟩).2.2) ∧ Keeps (fun j => j = q ∨ own j) w w' := by
  obtain ⟨N, er, es', eR⟩ : ∃ N er es', pushR came es ⟨k, t, x, y, b⟩ = (N, er, es') := ⟨_, _, _, rfl⟩
  rw [eR]
  have ER := Lib.hid eR; clear eR
  show Calls _ _ _ _ fun r w' => r = .returned (.tuple #[.int .u64 (N : Int), .int .i64 (er : Int)]) ∧ (∃ v' ds', Qu (fun j => own j ∨ w.heap.size ≤ j) w' q came v' ds' es') ∧ Keeps (fun j => j = q ∨ own j) w w'
  have hqlt := h.lt
  obtain ⟨Aq, cq, ev, hq1, hq2⟩ := h.form
  obtain ⟨ln, eln⟩ : ∃ ln, ln = es.length := ⟨_, rfl⟩
  rw [← eln] at ev hq1 hl
  have tl := ht.1
  have ob : ∀ j, (Value.slice Aq ln cq).ownBlock = some j → j ≠ q ∧ j ≠ w.heap.size := by
    intro j ej
    rw [← ev] at ej
    have h1 := h.evs.ok_ j ej
    have h2 := h.evs.lt j ej
    exact ⟨fun e => h.ne (e ▸ h1), by omega⟩
  have OB := Lib.hid ob; clear ob
  have ob2 : ∀ j, (Value.slice Aq ln cq).ownBlock = some j → j < w.heap.size := by
    intro j ej
    rw [← ev] at ej
    exact h.evs.lt j ej
  have OB2 := Lib.hid ob2; clear ob2
  have hmay : (⟨k, t, x, y, b⟩ : Ev).may = mayB k x y b n := by rw [Ev.may, tl]
  obtain ⟨w1, ew1⟩ : ∃ w1, w1 = w.alloc (.cells #[.int .i64 k, .slice A n c, .int .i64 x, .int .i64 y, .int .i64 b] 36) := ⟨_, rfl⟩
  have k1 : Below w.heap.size w w1 := by rw [ew1]; exact (Below.refl _ _).alloc (Nat.le_refl _) _
  have hP1 : PS own q came v ds es w.heap.size k x y b A n c w1 := ⟨h.below k1, by rw [ew1]; exact heap_alloc_new w _⟩
  have weak : ∀ (w' : World), Qu own w' q came v ds es → Qu (fun j => own j ∨ w.heap.size ≤ j) w' q came v ds es := fun _ h => ⟨h.row, h.evs.weak (fun j hj _ => .inl hj), fun e => by rcases e with e | e; exact h.ne e; omega⟩
  have kbel : ∀ (w' : World), Below w.heap.size w w' → Keeps (fun j => j = q ∨ own j) w w' := fun _ hb => Keeps.of_below hb _ (fun j hj _ => hj)
  have HP := Lib.hid hP1; clear hP1
  have HT := Lib.hid ht; clear ht
  have EW := Lib.hid ew1; clear ew1
  have EV := Lib.hid ev
  have WK := Lib.hid weak; clear weak
  have KB := Lib.hid kbel; clear kbel
  have ELN := Lib.hid eln; clear eln
  obtain ⟨c1, b0, b1, b2, b3, b4⟩ := HP.out.cells
  rw [ev] at c1
  clear ev h
  obtain ⟨M, eM⟩ : ∃ M, M = mayB k x y b n := ⟨_, rfl⟩
  rw [← eM] at hmay
  have HM := Lib.hid hmay; clear hmay
  go_enter Try.func26, Try.ntmps26
  go_wp2_with (fail)
  rw [← EW.out]
  refine (May_c k x y b A n c w1).mono ?_
  rintro r w2 ⟨rfl, hb2⟩
  rw [← eM]
  clear eM b0 b1 b2 b3 b4 c1
  have k2 := k1.trans (hb2.mono k1.size)
  have HP2 := Lib.hid (HP.out.below hb2)
  clear HP hb2 EW
  cases M with
  | false =>
    have hR : pushR came es ⟨k, t, x, y, b⟩ = (0, 1, es) := by rw [pushR, if_pos HM.out]
    rw [ER.out] at hR
    injection hR with r1 r2
    injection r2 with r2 r3
    have r3 := r3.symm
    subst r1 r2 r3
    go_wp2_with (fail)
    go_ret2
    exact ⟨rfl, ⟨v, ds, WK.out _ HP2.out.qu⟩, KB.out _ k2⟩
  | true =>
    obtain ⟨c1, b0, b1, b2, b3, b4⟩ := HP2.out.cells
    rw [EV.out] at c1
    by_cases hbig : 4096 ≤ ln
    · have hR : pushR came es ⟨k, t, x, y, b⟩ = (0, 11, es) := by rw [pushR, if_neg (by rw [HM.out]; decide), if_pos (by rw [← ELN.out]; exact hbig)]
      rw [ER.out] at hR
      injection hR with r1 r2
      injection r2 with r2 r3
      have r3 := r3.symm
      subst r1 r2 r3
      have hbig' : (4096 : Int) ≤ (ln : Int) := by omega
      go_wp2_with (fail)
      go_ret2
      exact ⟨rfl, ⟨v, ds, WK.out _ HP2.out.qu⟩, KB.out _ k2⟩
    · have hR : pushR came es ⟨k, t, x, y, b⟩ = (came + (es.length + 1), 0, es ++ [⟨k, t, x, y, b⟩]) := by rw [pushR, if_neg (by rw [HM.out]; decide), if_neg (by rw [← ELN.out]; exact hbig)]
      rw [ER.out] at hR
      injection hR with r1 r2
      injection r2 with r2 r3
      subst r2
      have R1 := Lib.hid r1; have R3 := Lib.hid r3; clear r1 r3
      have hsm' : (ln : Int) < 4096 := by omega
      clear hbig
      have HD2 : Hid (PS own q came v ds es w.heap.size k x y b A n c w2.drew) := Lib.hid (HP2.out.drewN 1)
      have a2 : Below w2.heap.size w2 (w2.alloc (.cells #[.int .i64 k, .slice A n c, .int .i64 x, .int .i64 y, .int .i64 b] 36)) := (Below.refl w2.heap.size w2).alloc (Nat.le_refl _) _
      have HD3 : Hid (PS own q came v ds es w.heap.size k x y b A n c (w2.alloc (.cells #[.int .i64 k, .slice A n c, .int .i64 x, .int .i64 y, .int .i64 b] 36)).drew) := Lib.hid ((HP2.out.below a2).drewN 1)
      have kD : Below w.heap.size w (w2.alloc (.cells #[.int .i64 k, .slice A n c, .int .i64 x, .int .i64 y, .int .i64 b] 36)).drew := below_drewN (k2.trans (a2.mono k2.size)) 1
      have tx := HT.out.frame (w' := (w2.alloc (.cells #[.int .i64 k, .slice A n c, .int .i64 x, .int .i64 y, .int .i64 b] 36)).drewN 1) (fun j _ hj => kD.block j hj) kD.size
      have TX := Lib.hid tx; clear tx
      have er1 : EvsR (fun _ => True) (w2.alloc (.cells #[.int .i64 k, .slice A n c, .int .i64 x, .int .i64 y, .int .i64 b] 36)).drew (some ⟨w2.heap.size, 0, none⟩) [⟨k, A, n, c, x, y, b⟩] [⟨k, t, x, y, b⟩] := by
        refine ⟨rfl, (Rd.lit w2 (cellsV [⟨k, A, n, c, x, y, b⟩]) 36).drewN 1, fun _ _ _ => trivial, fun i h1 h2 => ?_⟩
        have hi : i = 0 := by simpa using h1
        subst hi
        exact ⟨rfl, rfl, rfl, rfl, (show TxtR ok (w2.alloc (.cells #[.int .i64 k, .slice A n c, .int .i64 x, .int .i64 y, .int .i64 b] 36)).drew A n c t from TX.out).weak (fun _ _ _ => trivial)⟩
      have ER1 := Lib.hid er1; clear er1
      go_wp2_with (fail)
      obtain ⟨x1, y0, y1, y2, y3, y4⟩ := HD2.out.cells
      obtain ⟨u1, v0, v1, v2, v3, v4⟩ := HD3.out.cells
      rw [EV.out] at x1 u1
      clear c1 b0 b1 b2 b3 b4
      go_region_law (first
        | (go_simp; go_at_call 63; (with_reducible refine (clone_c (fun _ => True) _ 1 1 _ _ _ rfl ER1.out (by decide)).mono ?_); rintro _ w5 ⟨v5, d5, rfl, ho5, hb5⟩; have H5 := Lib.hid (HD3.out.below hb5); have k5 := kD.trans (hb5.mono kD.size); obtain ⟨A5, c5, rfl, p5, q5, r5⟩ := ho5.form; have R5 := Lib.hid r5; have O5 := Lib.hid ho5; have s5 := k5.size; obtain ⟨z1, -⟩ := H5.out.cells; rw [EV.out] at z1; clear ho5 hb5 r5)
        | ((refine step_appV rfl (.tmp 25) (.tmp 28) rfl 0 _ _ rfl (EV.out ▸ H5.out.qu.evs.row) A5 1 c5 d5 rfl (by rw [R5.out.len]; rfl) R5.out.row (by have := H5.out.qu.evs.len; have := ELN.out; omega) (Nat.zero_le _) ?_); intro v7 w7 HO7 hg7 hv7; obtain ⟨A7, cc7, rfl, -⟩ := OwnV.form HO7.out; have W7 := Lib.hid (PS.grown EV H5.out hg7 OB.out); have c7 : w7.cell? ⟨q, 1, none⟩ = some (.slice Aq ln cq) := (rows_cells W7.out).1; have fr7 : w7.frozen? ⟨q, 1, none⟩ = false := heap_free W7.out.1 1))
      all_goals
        have hq5 := H5.out.qu
        rw [EV.out] at hq5
        have hpu := Qu.pushed (B := w.heap.size) hq5 OB2.out hqlt s5 (Nat.le_trans k2.size (by simp)) O5.out HO7.out hg7 hv7
        have kp : Keeps (fun j => j = q ∨ own j) w (w7.setCell ⟨q, 1, none⟩ (.slice A7 (ds.length + d5.length) cc7)) :=
          ((KB.out _ k5).trans (Keeps.of_grown hg7 _ (fun j ej => .inr (hq5.evs.ok_ j ej)))).trans (Keeps.set _ w7 ⟨q, 1, none⟩ _ (.inl rfl))
        rw [List.length_append] at hpu
        obtain ⟨w8, ew8⟩ : ∃ w8, w8 = w7.setCell ⟨q, 1, none⟩ (.slice A7 (ds.length + d5.length) cc7) := ⟨_, rfl⟩
        rw [← ew8] at hpu kp ⊢
        have HPU := Lib.hid hpu
        have KP := Lib.hid kp
        clear hpu kp ew8 hq5 W7 c7 fr7 HO7 hg7 hv7 R5 O5 H5 x1 u1 y0 y1 y2 y3 y4 v0 v1 v2 v3 v4 z1
        go_wp2_with (fail)
        refine (Accepted_c _ q came _ _ _ w8 HPU.out hu (by rw [List.length_append, List.length_singleton, ← ELN.out]; omega)).mono ?_
        rintro r w9 ⟨rfl, j9, rfl⟩
        have eN : came + (es ++ [(⟨k, t, x, y, b⟩ : Ev)]).length = N := by rw [R1.out, List.length_append, List.length_singleton]
        rw [eN]
        clear eN
        go_wp2_with (fail)
        go_ret2
        exact ⟨rfl, ⟨_, _, by rw [R3.out]; exact HPU.out.drewN j9⟩, (KP.out).drewN j9⟩
end Go.Proofs.Ytgnciejbhaebeaa
