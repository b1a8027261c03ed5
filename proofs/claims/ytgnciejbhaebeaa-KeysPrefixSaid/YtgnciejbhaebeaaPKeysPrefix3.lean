/- Parts one behind the other: What a queue answers: an event pushed; What a queue answers when it hears how many came; Words of 32 bits as values that the walk does not look into, and what the program's operations do with them; What the small functions of sha and of its reference do with words; What sha.turn makes of eight words and a block of 64 bytes, in plain lists; Eight words built into an array; What sha.turn computes; The sum in plain lists: padding, blocks one behind the other, the bytes of the words; What sha.first and sha.Sum answer; What the reference's turned, root and block answer; What the reference's block answers; What the reference's Padded answers; A store of one cell, the world left open: what is known of the block goes on; What the reference's Sum answers: the same as sha.Sum; A sum as one value: held against another one; the two sums of the chapter's example, worked out; What the laws on sums call: the fixed example, the size, all held against all; Slices of bytes in a row of the call's own; Cuts of slices whose bound is known under another spelling; The code of a text under a key, in plain lists; What mac.coder answers: a function that holds the two turned keys; How a law's arguments are opened: integers, bools, strings, slices of bytes; How a law's argument is opened: a slice of slices of bytes; a slice of ints; What the inner function of mac.coder and mac.Code answer; A relation for slices of slices laid as arguments; a cut whose bound is a number. Conditions: as told at each. -/
import Derived.Test.YtgnciejbhaebeaaPKeysPrefix2
import Derived.Deep.RegionHeld3
import Derived.Test.YtgnciejbhaebeaaPKeysPrefix1
import Derived.Great.BuildSlice
import Derived.StillTailTactics
import Derived.Deep.MidRow
import Derived.DeepKeys
import Derived.Lib.SlBytesConst
import Derived.Lib.SmallJoins
import Derived.SizedLaws
import Derived.Deep.Slices
import Derived.Deep.Matrix

/- What a queue answers: an event pushed. Conditions: events that can be read; lengths that fit. -/
namespace Go.Proofs.Ytgnciejbhaebeaa
open Go Go.RowKit

/-- Block q is a queue with these events, of which so many came; they lie in blocks of their own. -/
structure Qu (own : Nat → Prop) (w : World) (q came : Nat) (v : Value) (ds : List EvV) (es : List Ev) : Prop where
  row : w.heap[q]? = some (.cells #[.int .u64 (came : Int), v] 116 (0, 0))
  evs : EvsO own w v ds es
  ne : ¬ own q
section
variable {own own' : Nat → Prop} {w w' : World} {q came : Nat} {v : Value} {ds : List EvV} {es : List Ev}
theorem Qu.c0 (h : Qu own w q came v ds es) : w.cell? ⟨q, 0, none⟩ = some (.int .u64 (came : Int)) := by rw [heap_cell h.row]; rfl
theorem Qu.c1 (h : Qu own w q came v ds es) : w.cell? ⟨q, 1, none⟩ = some v := by rw [heap_cell h.row]; rfl
theorem Qu.free (h : Qu own w q came v ds es) (i : Nat) : w.frozen? ⟨q, i, none⟩ = false := heap_free h.row i
theorem Qu.lt (h : Qu own w q came v ds es) : q < w.heap.size := heap_lt h.row
theorem Qu.keep (h : Qu own w q came v ds es) (hq : w'.heap[q]? = w.heap[q]?) (hk : ∀ k, own k → k < w.heap.size → w'.heap[k]? = w.heap[k]?) : Qu own w' q came v ds es := ⟨hq.trans h.row, h.evs.frame hk, h.ne⟩
theorem Qu.below (h : Qu own w q came v ds es) (hb : Below w.heap.size w w') : Qu own w' q came v ds es := h.keep (hb.block q h.lt) (fun k _ hk => hb.block k hk)
theorem Qu.drewN (h : Qu own w q came v ds es) (n : Nat) : Qu own (w.drewN n) q came v ds es := ⟨h.row, h.evs.frame (fun _ _ _ => rfl), h.ne⟩
theorem Qu.form (h : Qu own w q came v ds es) : ∃ A c, v = .slice A es.length c ∧ es.length ≤ c ∧ c ≤ maxLen := by
  obtain ⟨A, c, e, h1, h2, _⟩ := h.evs.form
  exact ⟨A, c, e, h1, h2⟩
end

set_option maxRecDepth 100000 in
set_option maxHeartbeats 1000000 in
theorem Accepted_c (own : Nat → Prop) (q came : Nat) (v : Value) (ds : List EvV) (es : List Ev) (w : World) (h : Qu own w q came v ds es) (hu : U63 came) (hl : es.length ≤ 1000000000) :
    Calls Try.prog 36 #[.pointer (some ⟨q, 0, none⟩)] w fun r w' => r = .returned (.int .u64 ((came + es.length : Nat) : Int)) ∧ ∃ k, w' = w.drewN k := by
  obtain ⟨A, c, rfl, h1, h2⟩ := h.form
  have c0 := h.c0
  have c1 := h.c1
  obtain ⟨n, en⟩ : ∃ n, n = es.length := ⟨_, rfl⟩
  rw [← en] at c1 h1 hl ⊢
  have w1 : IntKind.u64.wrap (n : Int) = (n : Int) := u64_wrapN (by unfold U64; omega)
  have w2 : IntKind.u64.wrap ((came : Int) + (n : Int)) = ((came + n : Nat) : Int) := by
    rw [show (came : Int) + (n : Int) = ((came + n : Nat) : Int) by omega]
    exact u64_wrapN (by unfold U63 at hu; unfold U64; omega)
  have EN := Lib.hid en
  clear h en
  go_enter Try.func36, Try.ntmps36
  go_wp2
  go_quiet (fail)
  go_wp2
  go_ret
  exact ⟨rfl, _, rfl⟩

theorem ownTypes {w : World} {B B' s s' n n' c c' g : Nat} {e e' : TypeId} {vs vs' : List Value} (h : w.ownsRow B e s (.slice (some ⟨g, 0, none⟩) n c) n vs) (h' : w.ownsRow B' e' s' (.slice (some ⟨g, 0, none⟩) n' c') n' vs') : e = e' := by
  rcases h.2 with ⟨h, _⟩ | ⟨g1, _, _, hv, _, hg, _⟩
  · cases h
  · rcases h'.2 with ⟨h, _⟩ | ⟨g2, _, _, hv', _, hg', _⟩
    · cases h
    · injection hv with hv _ _
      injection hv with hv
      injection hv with hv
      injection hv' with hv' _ _
      injection hv' with hv'
      injection hv' with hv'
      subst hv hv'
      rw [hg] at hg'
      injection hg' with hg'
      injection hg'
/-- What a queue makes of an event: its number, the error, the events. -/
def pushR (came : Nat) (es : List Ev) (e : Ev) : Nat × Nat × List Ev :=
  if e.may = false then (0, 1, es) else if 4096 ≤ es.length then (0, 11, es) else (came + (es.length + 1), 0, es ++ [e])

/-- The state within a push. -/
structure PS (own : Nat → Prop) (q came : Nat) (v : Value) (ds : List EvV) (es : List Ev) (g3 : Nat) (k x y b : Int) (A : Option Addr) (n c : Nat) (w : World) : Prop where
  qu : Qu own w q came v ds es
  bx : w.heap[g3]? = some (.cells #[.int .i64 k, .slice A n c, .int .i64 x, .int .i64 y, .int .i64 b] 36 (0, 0))
section
variable {own : Nat → Prop} {q came : Nat} {v : Value} {ds : List EvV} {es : List Ev} {g3 : Nat} {k x y b : Int} {A : Option Addr} {n c : Nat} {w w' : World}
theorem PS.cells (h : PS own q came v ds es g3 k x y b A n c w) : w.cell? ⟨q, 1, none⟩ = some v ∧ w.cell? ⟨g3, 0, none⟩ = some (.int .i64 k) ∧ w.cell? ⟨g3, 1, none⟩ = some (.slice A n c) ∧ w.cell? ⟨g3, 2, none⟩ = some (.int .i64 x) ∧ w.cell? ⟨g3, 3, none⟩ = some (.int .i64 y) ∧ w.cell? ⟨g3, 4, none⟩ = some (.int .i64 b) :=
  ⟨h.qu.c1, by rw [heap_cell h.bx]; rfl, by rw [heap_cell h.bx]; rfl, by rw [heap_cell h.bx]; rfl, by rw [heap_cell h.bx]; rfl, by rw [heap_cell h.bx]; rfl⟩
theorem PS.cellsH (h : Hid (PS own q came v ds es g3 k x y b A n c w)) : w.cell? ⟨q, 1, none⟩ = some v ∧ w.cell? ⟨g3, 0, none⟩ = some (.int .i64 k) ∧ w.cell? ⟨g3, 1, none⟩ = some (.slice A n c) ∧ w.cell? ⟨g3, 2, none⟩ = some (.int .i64 x) ∧ w.cell? ⟨g3, 3, none⟩ = some (.int .i64 y) ∧ w.cell? ⟨g3, 4, none⟩ = some (.int .i64 b) := h.out.cells
theorem PS.cellsE {v2 : Value} (e : Hid (v = v2)) (h : Hid (PS own q came v ds es g3 k x y b A n c w)) : w.cell? ⟨q, 1, none⟩ = some v2 ∧ w.cell? ⟨g3, 0, none⟩ = some (.int .i64 k) ∧ w.cell? ⟨g3, 1, none⟩ = some (.slice A n c) ∧ w.cell? ⟨g3, 2, none⟩ = some (.int .i64 x) ∧ w.cell? ⟨g3, 3, none⟩ = some (.int .i64 y) ∧ w.cell? ⟨g3, 4, none⟩ = some (.int .i64 b) := by
  have := h.out.cells
  rw [e.out] at this
  exact this
theorem PS.below (h : PS own q came v ds es g3 k x y b A n c w) (hb : Below w.heap.size w w') : PS own q came v ds es g3 k x y b A n c w' := ⟨h.qu.below hb, (hb.block g3 (heap_lt h.bx)).trans h.bx⟩
theorem PS.grown {v2 : Value} (e : Hid (v = v2)) (h : PS own q came v ds es g3 k x y b A n c w) (hg : w.grownBy w' v2.ownBlock) (ne : ∀ j, v2.ownBlock = some j → j ≠ q ∧ j ≠ g3) : w'.heap[q]? = some (.cells #[.int .u64 (came : Int), v2] 116 (0, 0)) ∧ w'.heap[g3]? = some (.cells #[.int .i64 k, .slice A n c, .int .i64 x, .int .i64 y, .int .i64 b] 36 (0, 0)) := by
  have hq := h.qu.row
  rw [e.out] at hq
  exact ⟨(hg.block q h.qu.lt (fun e => (ne q e.symm).1 rfl)).trans hq, (hg.block g3 (heap_lt h.bx) (fun e => (ne g3 e.symm).2 rfl)).trans h.bx⟩
theorem rows_cells {v2 : Value} (h : w.heap[q]? = some (.cells #[.int .u64 (came : Int), v2] 116 (0, 0)) ∧ w.heap[g3]? = some (.cells #[.int .i64 k, .slice A n c, .int .i64 x, .int .i64 y, .int .i64 b] 36 (0, 0))) : w.cell? ⟨q, 1, none⟩ = some v2 ∧ w.cell? ⟨g3, 0, none⟩ = some (.int .i64 k) ∧ w.cell? ⟨g3, 1, none⟩ = some (.slice A n c) ∧ w.cell? ⟨g3, 2, none⟩ = some (.int .i64 x) ∧ w.cell? ⟨g3, 3, none⟩ = some (.int .i64 y) ∧ w.cell? ⟨g3, 4, none⟩ = some (.int .i64 b) :=
  ⟨by rw [heap_cell h.1]; rfl, by rw [heap_cell h.2]; rfl, by rw [heap_cell h.2]; rfl, by rw [heap_cell h.2]; rfl, by rw [heap_cell h.2]; rfl, by rw [heap_cell h.2]; rfl⟩
theorem PS.drewN (h : PS own q came v ds es g3 k x y b A n c w) (j : Nat) : PS own q came v ds es g3 k x y b A n c (w.drewN j) := ⟨h.qu.drewN j, h.bx⟩
end
theorem EvsO.txt_ne {own : Nat → Prop} {w : World} {v : Value} {ds : List EvV} {es : List Ev} (h : EvsO own w v ds es) (i : Nat) (hi : i < ds.length) (a : Addr) (ha : ds[i].A = some a) : v.ownBlock ≠ some a.block := by
  intro e
  have hl := h.len
  have ht := (h.each i hi (by omega)).2.2.2.2
  have h2 := ht.2.1
  unfold OwnB Own at h2
  rw [List.length_map, ht.1, ha] at h2
  rcases h2.2 with ⟨hv, _⟩ | ⟨g', _, _, hv, _⟩
  · cases hv
  · injection hv with hv _ _
    injection hv with hv
    subst hv
    rcases h.row.2 with ⟨hv, _⟩ | ⟨g1, cap, cur, hv, _⟩
    · rw [hv] at e; cases e
    · have hrow := h.row
      unfold OwnV at hrow
      rw [hv] at e hrow
      injection e with e
      simp only at e
      subst e
      have := ownTypes hrow h2
      revert this
      decide
theorem Qu.pushed {own : Nat → Prop} {w5 w7 : World} {q came B C : Nat} {v v5 v7 : Value} {ds d5 : List EvV} {es : List Ev} {e : Ev} (h : Qu own w5 q came v ds es) (hb : ∀ j, v.ownBlock = some j → j < B) (hq : q < B) (h5 : B ≤ w5.heap.size) (hC : B ≤ C)
    (O5 : EvsO (C ≤ ·) w5 v5 d5 [e]) (HO7 : OwnV w7 0 v7 (ds ++ d5)) (hg : w5.grownBy w7 v.ownBlock) (hv : v7.ownBlock = v.ownBlock ∨ v7.ownBlock = some w5.heap.size) :
    Qu (fun j => own j ∨ B ≤ j) (w7.setCell ⟨q, 1, none⟩ v7) q came v7 (ds ++ d5) (es ++ [e]) := by
  have hvq : ∀ j, v.ownBlock = some j → own j ∧ j ≠ q := fun j ej => ⟨h.evs.ok_ j ej, fun e' => h.ne (e' ▸ h.evs.ok_ j ej)⟩
  have hrow : w7.heap[q]? = some (.cells #[.int .u64 (came : Int), v] 116 (0, 0)) := (hg.block q h.lt (fun e' => (hvq q e'.symm).2 rfl)).trans h.row
  have h7q : ∀ k, v7.ownBlock = some k → k ≠ q ∧ (own k ∨ B ≤ k) := by
    intro k ek
    rcases hv with hv | hv
    · rw [hv] at ek
      exact ⟨(hvq k ek).2, .inl (hvq k ek).1⟩
    · rw [hv] at ek
      injection ek with ek
      subst ek
      exact ⟨by omega, .inr h5⟩
  have hl := h.evs.len
  have hl5 := O5.len
  refine ⟨?_, ⟨by simp [hl, hl5], Own.frameK HO7 (fun g eg => heap_far _ (h7q g eg).1), fun k ek => (h7q k ek).2, fun i h1 h2 => ?_⟩, ?_⟩
  · rw [heap_set hrow 1]
    rfl
  · rcases Nat.lt_or_ge i ds.length with hi | hi
    · have ho := h.evs.each i hi (by omega)
      have hf : ∀ a, ds[i].A = some a → (w7.setCell ⟨q, 1, none⟩ v7).heap[a.block]? = w5.heap[a.block]? := by
        intro a ea
        have h3 := ho.2.2.2.2.2.2.1 a ea
        rw [heap_far _ (show a.block ≠ q from fun e' => h.ne (e' ▸ h3))]
        exact hg.block _ (ho.2.2.2.2.lt a ea) (fun e' => h.evs.txt_ne i hi a ea e'.symm)
      rw [List.getElem_append_left hi, List.getElem_append_left (by omega)]
      obtain ⟨q0, q1, q2, q3, t1, t2, t3, t4⟩ := ho
      refine ⟨q0, q1, q2, q3, t1, Own.frameK t2 (fun g eg => ?_), fun a ea => .inl (t3 a ea), t4⟩
      cases hA : ds[i].A with
      | none => rw [hA] at eg; cases eg
      | some a =>
        rw [hA] at eg
        injection eg with eg
        subst eg
        exact hf a hA
    · have hi5 : i - ds.length < d5.length := by rw [List.length_append] at h1; omega
      have ho := O5.each (i - ds.length) hi5 (by omega)
      rw [List.getElem_append_right hi, List.getElem_append_right (by omega)]
      simp only [← hl]
      obtain ⟨q0, q1, q2, q3, t1, t2, t3, t4⟩ := ho
      refine ⟨q0, q1, q2, q3, t1, Own.frameK t2 (fun g eg => ?_), fun a ea => .inr (Nat.le_trans hC (t3 a ea)), t4⟩
      cases hA : d5[i - ds.length].A with
      | none => rw [hA] at eg; cases eg
      | some a =>
        rw [hA] at eg
        injection eg with eg
        subst eg
        have h3 : C ≤ a.block := t3 a hA
        rw [heap_far _ (show a.block ≠ q by omega)]
        have hlt := (Own.lt t2 a.block (by rw [hA]; rfl)).2
        exact hg.block _ hlt (fun e' => by have := hb _ e'.symm; omega)
  · rintro (h1 | h1)
    · exact h.ne h1
    · omega

/-- 'append(v, xs...)' on events, as a step of a region that draws. -/
theorem step_appV {ops : Array Oper} {o : Oper} {a : Act} {w : World} {K : Act → World → Prop} {Q : Exit → Act → World → Prop} {E : Prop} (hgd : o.guard = none) (s x : Operand)
    (ho : o.op = .call { callee := .builtin .append, args := #[s, x], argTypes := #[23, 23] })
    (B : Nat) (v : Value) (ds : List EvV) (hs : a.eval s = v) (hown : OwnV w B v ds)
    (A : Option Addr) (m c : Nat) (ns : List EvV) (hx : a.eval x = .slice A m c) (hm : ns.length = m) (hr : Rd w A (cellsV ns))
    (hlen : ds.length + m ≤ 2513169434916) (hB : B ≤ w.heap.size)
    (h : ∀ v' w', Hid (OwnV w' B v' (ds ++ ns)) → w.grownBy w' v.ownBlock → (v'.ownBlock = v.ownBlock ∨ v'.ownBlock = some w.heap.size) → K (a.put o.dst v') w') :
    if Region.wanted o (yielded ops a.tmps) = true then Oper.wp Try.prog o a w K Q else E := by
  rw [if_pos (wanted_none hgd)]
  obtain ⟨i0, hi, hz0, hz1, hz2⟩ := info_parts info_ev
  obtain ⟨v', w', hrun, h2, h3, h4⟩ := run_appN (P := Try.prog) w B 23 o.type 36 i0 _ 5 56 Try.underlying23 hi hz0 hz1 hz2 rfl (by decide) v ds.length (cellsV ds) hown A m c (cellsV ns) (by rw [cellsV_length, hm]) hr (cellsV_one _) (by unfold maxLen; omega) (by omega) hB
  unfold Oper.wp execOp
  simp only [ho, resolve, invoke, builtin, Sem.run_bind, Sem.run_pure, Result.andThen_ok, List.map_toArray, List.map_cons, List.map_nil, hs, hx, hrun]
  refine h v' w' (Lib.hid ?_) h3 h4
  unfold OwnV
  rw [cellsV_append, List.length_append, hm]
  exact h2

set_option maxRecDepth 100000 in
set_option maxHeartbeats 4000000 in
theorem Push_c (own : Nat → Prop) (q came : Nat) (v : Value) (ds : List EvV) (es : List Ev) (w : World) (h : Qu own w q came v ds es) (hu : U63 came) (hl : es.length ≤ 1000000000)
    (ok : Nat → Prop) (k x y b : Int) (A : Option Addr) (n c : Nat) (t : List UInt8) (ht : TxtR ok w A n c t) :
    Calls Try.prog 26 #[.pointer (some ⟨q, 0, none⟩), .agg #[.int .i64 k, .slice A n c, .int .i64 x, .int .i64 y, .int .i64 b]] w fun r w' =>
      r = .returned (.tuple #[.int .u64 ((pushR came es ⟨k, t, x, y, b⟩).1 : Int), .int .i64 ((pushR came es ⟨k, t, x, y, b⟩).2.1 : Int)]) ∧ (∃ v' ds', Qu (fun j => own j ∨ w.heap.size ≤ j) w' q came v' ds' (pushR came es ⟨k, t, x, y, b⟩).2.2) ∧ Keeps (fun j => j = q ∨ own j) w w' := by
  obtain ⟨N, er, es', eR⟩ : ∃ N er es', pushR came es ⟨k, t, x, y, b⟩ = (N, er, es') := ⟨_, _, _, rfl⟩
  rw [eR]
  have ER := Lib.hid eR; clear eR
  show Calls _ _ _ _ fun r w' => r = .returned (.tuple #[.int .u64 (N : Int), .int .i64 (er : Int)]) ∧ (∃ v' ds', Qu (fun j => own j ∨ w.heap.size ≤ j) w' q came v' ds' es') ∧ Keeps (fun j => j = q ∨ own j) w w'
  have hqlt := h.lt
  obtain ⟨Aq, cq, ev, hq1, hq2⟩ := h.form
  obtain ⟨ln, eln⟩ : ∃ ln, ln = es.length := ⟨_, rfl⟩
  rw [← eln] at ev hq1 hl
  have tl := ht.1
  have ob : ∀ j, (Value.slice Aq ln cq).ownBlock = some j → j ≠ q ∧ j ≠ w.heap.size := by
    intro j ej
    rw [← ev] at ej
    have h1 := h.evs.ok_ j ej
    have h2 := h.evs.lt j ej
    exact ⟨fun e => h.ne (e ▸ h1), by omega⟩
  have OB := Lib.hid ob; clear ob
  have ob2 : ∀ j, (Value.slice Aq ln cq).ownBlock = some j → j < w.heap.size := by
    intro j ej
    rw [← ev] at ej
    exact h.evs.lt j ej
  have OB2 := Lib.hid ob2; clear ob2
  have hmay : (⟨k, t, x, y, b⟩ : Ev).may = mayB k x y b n := by rw [Ev.may, tl]
  obtain ⟨w1, ew1⟩ : ∃ w1, w1 = w.alloc (.cells #[.int .i64 k, .slice A n c, .int .i64 x, .int .i64 y, .int .i64 b] 36) := ⟨_, rfl⟩
  have k1 : Below w.heap.size w w1 := by rw [ew1]; exact (Below.refl _ _).alloc (Nat.le_refl _) _
  have hP1 : PS own q came v ds es w.heap.size k x y b A n c w1 := ⟨h.below k1, by rw [ew1]; exact heap_alloc_new w _⟩
  have weak : ∀ (w' : World), Qu own w' q came v ds es → Qu (fun j => own j ∨ w.heap.size ≤ j) w' q came v ds es := fun _ h => ⟨h.row, h.evs.weak (fun j hj _ => .inl hj), fun e => by rcases e with e | e; exact h.ne e; omega⟩
  have kbel : ∀ (w' : World), Below w.heap.size w w' → Keeps (fun j => j = q ∨ own j) w w' := fun _ hb => Keeps.of_below hb _ (fun j hj _ => hj)
  have HP := Lib.hid hP1; clear hP1
  have HT := Lib.hid ht; clear ht
  have EW := Lib.hid ew1; clear ew1
  have EV := Lib.hid ev
  have WK := Lib.hid weak; clear weak
  have KB := Lib.hid kbel; clear kbel
  have ELN := Lib.hid eln; clear eln
  obtain ⟨c1, b0, b1, b2, b3, b4⟩ := HP.out.cells
  rw [ev] at c1
  clear ev h
  obtain ⟨M, eM⟩ : ∃ M, M = mayB k x y b n := ⟨_, rfl⟩
  rw [← eM] at hmay
  have HM := Lib.hid hmay; clear hmay
  go_enter Try.func26, Try.ntmps26
  go_wp2_with (fail)
  rw [← EW.out]
  refine (May_c k x y b A n c w1).mono ?_
  rintro r w2 ⟨rfl, hb2⟩
  rw [← eM]
  clear eM b0 b1 b2 b3 b4 c1
  have k2 := k1.trans (hb2.mono k1.size)
  have HP2 := Lib.hid (HP.out.below hb2)
  clear HP hb2 EW
  cases M with
  | false =>
    have hR : pushR came es ⟨k, t, x, y, b⟩ = (0, 1, es) := by rw [pushR, if_pos HM.out]
    rw [ER.out] at hR
    injection hR with r1 r2
    injection r2 with r2 r3
    have r3 := r3.symm
    subst r1 r2 r3
    go_wp2_with (fail)
    go_ret2
    exact ⟨rfl, ⟨v, ds, WK.out _ HP2.out.qu⟩, KB.out _ k2⟩
  | true =>
    obtain ⟨c1, b0, b1, b2, b3, b4⟩ := HP2.out.cells
    rw [EV.out] at c1
    by_cases hbig : 4096 ≤ ln
    · have hR : pushR came es ⟨k, t, x, y, b⟩ = (0, 11, es) := by rw [pushR, if_neg (by rw [HM.out]; decide), if_pos (by rw [← ELN.out]; exact hbig)]
      rw [ER.out] at hR
      injection hR with r1 r2
      injection r2 with r2 r3
      have r3 := r3.symm
      subst r1 r2 r3
      have hbig' : (4096 : Int) ≤ (ln : Int) := by omega
      go_wp2_with (fail)
      go_ret2
      exact ⟨rfl, ⟨v, ds, WK.out _ HP2.out.qu⟩, KB.out _ k2⟩
    · have hR : pushR came es ⟨k, t, x, y, b⟩ = (came + (es.length + 1), 0, es ++ [⟨k, t, x, y, b⟩]) := by rw [pushR, if_neg (by rw [HM.out]; decide), if_neg (by rw [← ELN.out]; exact hbig)]
      rw [ER.out] at hR
      injection hR with r1 r2
      injection r2 with r2 r3
      subst r2
      have R1 := Lib.hid r1; have R3 := Lib.hid r3; clear r1 r3
      have hsm' : (ln : Int) < 4096 := by omega
      clear hbig
      have HD2 : Hid (PS own q came v ds es w.heap.size k x y b A n c w2.drew) := Lib.hid (HP2.out.drewN 1)
      have a2 : Below w2.heap.size w2 (w2.alloc (.cells #[.int .i64 k, .slice A n c, .int .i64 x, .int .i64 y, .int .i64 b] 36)) := (Below.refl w2.heap.size w2).alloc (Nat.le_refl _) _
      have HD3 : Hid (PS own q came v ds es w.heap.size k x y b A n c (w2.alloc (.cells #[.int .i64 k, .slice A n c, .int .i64 x, .int .i64 y, .int .i64 b] 36)).drew) := Lib.hid ((HP2.out.below a2).drewN 1)
      have kD : Below w.heap.size w (w2.alloc (.cells #[.int .i64 k, .slice A n c, .int .i64 x, .int .i64 y, .int .i64 b] 36)).drew := below_drewN (k2.trans (a2.mono k2.size)) 1
      have tx := HT.out.frame (w' := (w2.alloc (.cells #[.int .i64 k, .slice A n c, .int .i64 x, .int .i64 y, .int .i64 b] 36)).drewN 1) (fun j _ hj => kD.block j hj) kD.size
      have TX := Lib.hid tx; clear tx
      have er1 : EvsR (fun _ => True) (w2.alloc (.cells #[.int .i64 k, .slice A n c, .int .i64 x, .int .i64 y, .int .i64 b] 36)).drew (some ⟨w2.heap.size, 0, none⟩) [⟨k, A, n, c, x, y, b⟩] [⟨k, t, x, y, b⟩] := by
        refine ⟨rfl, (Rd.lit w2 (cellsV [⟨k, A, n, c, x, y, b⟩]) 36).drewN 1, fun _ _ _ => trivial, fun i h1 h2 => ?_⟩
        have hi : i = 0 := by simpa using h1
        subst hi
        exact ⟨rfl, rfl, rfl, rfl, (show TxtR ok (w2.alloc (.cells #[.int .i64 k, .slice A n c, .int .i64 x, .int .i64 y, .int .i64 b] 36)).drew A n c t from TX.out).weak (fun _ _ _ => trivial)⟩
      have ER1 := Lib.hid er1; clear er1
      go_wp2_with (fail)
      obtain ⟨x1, y0, y1, y2, y3, y4⟩ := HD2.out.cells
      obtain ⟨u1, v0, v1, v2, v3, v4⟩ := HD3.out.cells
      rw [EV.out] at x1 u1
      clear c1 b0 b1 b2 b3 b4
      go_region_law (first
        | (go_simp; go_at_call 63; (with_reducible refine (clone_c (fun _ => True) _ 1 1 _ _ _ rfl ER1.out (by decide)).mono ?_); rintro _ w5 ⟨v5, d5, rfl, ho5, hb5⟩; have H5 := Lib.hid (HD3.out.below hb5); have k5 := kD.trans (hb5.mono kD.size); obtain ⟨A5, c5, rfl, p5, q5, r5⟩ := ho5.form; have R5 := Lib.hid r5; have O5 := Lib.hid ho5; have s5 := k5.size; obtain ⟨z1, -⟩ := H5.out.cells; rw [EV.out] at z1; clear ho5 hb5 r5)
        | ((refine step_appV rfl (.tmp 25) (.tmp 28) rfl 0 _ _ rfl (EV.out ▸ H5.out.qu.evs.row) A5 1 c5 d5 rfl (by rw [R5.out.len]; rfl) R5.out.row (by have := H5.out.qu.evs.len; have := ELN.out; omega) (Nat.zero_le _) ?_); intro v7 w7 HO7 hg7 hv7; obtain ⟨A7, cc7, rfl, -⟩ := OwnV.form HO7.out; have W7 := Lib.hid (PS.grown EV H5.out hg7 OB.out); have c7 : w7.cell? ⟨q, 1, none⟩ = some (.slice Aq ln cq) := (rows_cells W7.out).1; have fr7 : w7.frozen? ⟨q, 1, none⟩ = false := heap_free W7.out.1 1))
      all_goals
        have hq5 := H5.out.qu
        rw [EV.out] at hq5
        have hpu := Qu.pushed (B := w.heap.size) hq5 OB2.out hqlt s5 (Nat.le_trans k2.size (by simp)) O5.out HO7.out hg7 hv7
        have kp : Keeps (fun j => j = q ∨ own j) w (w7.setCell ⟨q, 1, none⟩ (.slice A7 (ds.length + d5.length) cc7)) :=
          ((KB.out _ k5).trans (Keeps.of_grown hg7 _ (fun j ej => .inr (hq5.evs.ok_ j ej)))).trans (Keeps.set _ w7 ⟨q, 1, none⟩ _ (.inl rfl))
        rw [List.length_append] at hpu
        obtain ⟨w8, ew8⟩ : ∃ w8, w8 = w7.setCell ⟨q, 1, none⟩ (.slice A7 (ds.length + d5.length) cc7) := ⟨_, rfl⟩
        rw [← ew8] at hpu kp ⊢
        have HPU := Lib.hid hpu
        have KP := Lib.hid kp
        clear hpu kp ew8 hq5 W7 c7 fr7 HO7 hg7 hv7 R5 O5 H5 x1 u1 y0 y1 y2 y3 y4 v0 v1 v2 v3 v4 z1
        go_wp2_with (fail)
        refine (Accepted_c _ q came _ _ _ w8 HPU.out hu (by rw [List.length_append, List.length_singleton, ← ELN.out]; omega)).mono ?_
        rintro r w9 ⟨rfl, j9, rfl⟩
        have eN : came + (es ++ [(⟨k, t, x, y, b⟩ : Ev)]).length = N := by rw [R1.out, List.length_append, List.length_singleton]
        rw [eN]
        clear eN
        go_wp2_with (fail)
        go_ret2
        exact ⟨rfl, ⟨_, _, by rw [R3.out]; exact HPU.out.drewN j9⟩, (KP.out).drewN j9⟩
end Go.Proofs.Ytgnciejbhaebeaa

/- What a queue answers when it hears how many came. Conditions: lengths that fit. -/
namespace Go.Proofs.Ytgnciejbhaebeaa
open Go Go.RowKit

/-- What a queue makes of a number: how many more came, and what is left. -/
def ackR (came : Nat) (es : List Ev) (n : Nat) : Nat × Nat × List Ev :=
  if n ≤ came ∨ came + es.length < n then (0, came, es) else (n - came, n, es.drop (n - came))
theorem i64_wrapN {n : Nat} (h : U63 n) : IntKind.i64.wrap (n : Int) = (n : Int) := by
  unfold U63 at h
  unfold IntKind.wrap
  simp [IntKind.bits, IntKind.signed]
  omega

/-- The world in which q.came is told anew. -/
def setW (w : World) (j q m : Nat) : World := (w.drewN j).setCell ⟨q, 0, none⟩ (.int .u64 (m : Int))
theorem Qu.came_ {own : Nat → Prop} {w : World} {q came : Nat} {v : Value} {ds : List EvV} {es : List Ev} (h : Qu own w q came v ds es) (j m : Nat) : Qu own (setW w j q m) q m v ds es := by
  refine ⟨?_, h.evs.frame (fun k hk _ => heap_far (w := w.drewN j) (p := ⟨q, 0, none⟩) _ (fun e => h.ne (by have e' : k = q := e; exact e' ▸ hk))), h.ne⟩
  unfold setW
  rw [heap_set (w := w.drewN j) h.row 0]
  rfl
theorem Qu.acked {own : Nat → Prop} {w3 : World} {q came B C K : Nat} {v v3 : Value} {ds : List EvV} {es : List Ev} (h : Qu own w3 q came v ds es) (ho : OwnV w3 C v3 (ds.drop K)) (hC : B ≤ C) (hq : q < B) (_ : C ≤ w3.heap.size) :
    Qu (fun j => own j ∨ B ≤ j) (w3.setCell ⟨q, 1, none⟩ v3) q came v3 (ds.drop K) (es.drop K) := by
  have hvq : ∀ k, v3.ownBlock = some k → k ≠ q ∧ C ≤ k := fun k ek => by
    have := (World.ownsRow.lt ho k ek).1
    exact ⟨by omega, this⟩
  have hl := h.evs.len
  refine ⟨?_, ⟨by simp [hl], Own.frameK (ho.low (Nat.zero_le _)) (fun g eg => heap_far _ (hvq g eg).1), fun k ek => .inr (Nat.le_trans hC (hvq k ek).2), fun i h1 h2 => ?_⟩, ?_⟩
  · rw [heap_set h.row 1]
    rfl
  · have h1' : K + i < ds.length := by rw [List.length_drop] at h1; omega
    have ho2 := (h.evs.each (K + i) h1' (by omega)).frame (w' := w3.setCell ⟨q, 1, none⟩ v3) (fun k hk _ => heap_far _ (fun e => h.ne (by have e' : k = q := e; exact e' ▸ hk)))
    rw [List.getElem_drop, List.getElem_drop]
    exact ho2.weak (fun k hk _ => .inl hk)
  · rintro (h1 | h1)
    · exact h.ne h1
    · omega

set_option maxRecDepth 100000 in
set_option maxHeartbeats 4000000 in
theorem Ack_c (own : Nat → Prop) (q came : Nat) (v : Value) (ds : List EvV) (es : List Ev) (w : World) (h : Qu own w q came v ds es) (hu : U63 came) (hl : es.length ≤ 1000000000) (m : Nat) (hm : U64 m) :
    Calls Try.prog 27 #[.pointer (some ⟨q, 0, none⟩), .int .u64 m] w fun r w' =>
      r = .returned (.int .i64 ((ackR came es m).1 : Int)) ∧ (∃ v' ds', Qu (fun j => own j ∨ w.heap.size ≤ j) w' q (ackR came es m).2.1 v' ds' (ackR came es m).2.2) ∧ Keeps (fun j => j = q) w w' := by
  obtain ⟨N, gt, es', eR⟩ : ∃ N gt es', ackR came es m = (N, gt, es') := ⟨_, _, _, rfl⟩
  rw [eR]
  have ER := Lib.hid eR; clear eR
  show Calls _ _ _ _ fun r w' => r = .returned (.int .i64 (N : Int)) ∧ (∃ v' ds', Qu (fun j => own j ∨ w.heap.size ≤ j) w' q gt v' ds' es') ∧ Keeps (fun j => j = q) w w'
  have hqlt := h.lt
  have weak : ∀ (w' : World), Qu own w' q came v ds es → Qu (fun j => own j ∨ w.heap.size ≤ j) w' q came v ds es := fun _ h => ⟨h.row, h.evs.weak (fun j hj _ => .inl hj), fun e => by rcases e with e | e; exact h.ne e; omega⟩
  have WK := Lib.hid weak; clear weak
  have c0 := h.c0
  have hform := h.evs.form
  obtain ⟨A, c, ev, hq1, hq2, hR⟩ := hform
  have c1 := h.c1
  rw [ev] at c1
  obtain ⟨ln, eln⟩ : ∃ ln, ln = es.length := ⟨_, rfl⟩
  rw [← eln] at c1 hq1 hl ev
  have H := Lib.hid h; clear h
  have EV := Lib.hid ev; clear ev
  have HR := Lib.hid hR; clear hR
  have ELN := Lib.hid eln; clear eln
  rcases Nat.lt_or_ge came m with h1 | h1
  · have d1 : decide (m ≤ came) = false := decide_eq_false (by omega)
    rcases Nat.lt_or_ge (came + ln) m with h2 | h2
    · have hR : ackR came es m = (0, came, es) := by rw [ackR, if_pos (.inr (by rw [← ELN.out]; exact h2))]
      rw [ER.out] at hR
      injection hR with r1 r2
      injection r2 with r2 r3
      have r2 := r2.symm; have r3 := r3.symm
      subst r1 r2 r3
      go_enter Try.func27, Try.ntmps27
      go_wp2_with (fail)
      refine (Accepted_c own q came v ds es w H.out hu (by rw [← ELN.out]; exact hl)).mono ?_
      rintro r w1 ⟨rfl, j, rfl⟩
      rw [← ELN.out]
      have d2 : decide ((came : Int) + (ln : Int) < (m : Int)) = true := decide_eq_true (by omega)
      go_wp2_with (fail)
      go_ret
      exact ⟨rfl, ⟨v, ds, WK.out _ (H.out.drewN j)⟩, (Keeps.refl _ w).drewN j⟩
    · have hR : ackR came es m = (m - came, m, es.drop (m - came)) := by rw [ackR, if_neg (by rw [← ELN.out]; omega)]
      rw [ER.out] at hR
      injection hR with r1 r2
      injection r2 with r2 r3
      have r2' := r2.symm
      subst r2'
      obtain ⟨K, eK⟩ : ∃ K, K = m - came := ⟨_, rfl⟩
      rw [← eK] at r1 r3
      have R1 := Lib.hid r1; have R3 := Lib.hid r3; clear r1 r3
      have hK : K ≤ ln := by omega
      have wd : IntKind.u64.wrap ((m : Int) - (came : Int)) = (K : Int) := by
        have : (m : Int) - (came : Int) = (K : Int) := by omega
        rw [this]
        exact u64_wrapN (by unfold U64; omega)
      have wi := i64_wrapN (n := K) (by unfold U63; omega)
      go_enter Try.func27, Try.ntmps27
      go_wp2_with (fail)
      refine (Accepted_c own q came v ds es w H.out hu (by rw [← ELN.out]; exact hl)).mono ?_
      rintro r w1 ⟨rfl, j, rfl⟩
      rw [← ELN.out]
      have d2 : decide ((came : Int) + (ln : Int) < (m : Int)) = false := decide_eq_false (by omega)
      have fr0 := H.out.free 0
      have fr1 := H.out.free 1
      have cut := HR.out.cut (k := K) (c := c) (by rw [← ELN.out]; exact hK) (by rw [← ELN.out]; exact hq1)
      have CUT := Lib.hid cut
      clear h1 h2 eK cut
      have hq2 : Qu own (setW w j q m) q m v ds es := H.out.came_ j m
      have HQ2 := Lib.hid hq2; clear hq2
      have cut2 := CUT.out.frame (w' := setW w j q m) (fun k hk _ => heap_far (w := w.drewN j) (p := ⟨q, 0, none⟩) _ (fun e => H.out.ne (by have e' : k = q := e; exact e' ▸ hk))) (by simp [setW, World.setCell, World.drewN])
      by_cases hcK : c = K
      · rw [if_pos hcK] at cut2
        have CUT2 := Lib.hid cut2
        clear cut2 CUT
        obtain rfl : ln = K := by omega
        obtain rfl : c = ln := hcK
        go_wp2_with (fail)
        change Calls _ _ _ (setW w j q m) _
        refine (CloneV_c own A 0 0 _ _ _ (by rw [List.length_drop, ← ELN.out]; exact Nat.sub_self c) CUT2.out (by decide)).mono ?_
        rintro r w3 ⟨v3, rfl, ho3, hb3⟩
        have hq3 := HQ2.out.below hb3
        obtain ⟨A3, c3, rfl, -⟩ := OwnV.form ho3
        rw [List.length_drop] at ho3 ⊢
        have x1 := hq3.c1
        rw [EV.out] at x1
        have f1 := hq3.free 1
        have HQ3 := Lib.hid hq3
        have HO3 := Lib.hid ho3
        have HB3 := Lib.hid hb3
        clear hq3 ho3 hb3 HQ2
        go_wp2_with (fail)
        go_ret
        have sz : (setW w j q m).heap.size = w.heap.size := by simp [setW, World.setCell, World.drewN]
        refine ⟨by rw [R1.out] <;> rfl, ⟨_, _, by rw [R3.out]; exact HQ3.out.acked HO3.out (by rw [sz]; exact Nat.le_refl _) hqlt HB3.out.size⟩, ?_⟩
        exact ((((Keeps.refl (fun k => k = q) w).drewN j).trans (Keeps.set (fun k => k = q) _ ⟨q, 0, none⟩ _ rfl)).trans (Keeps.of_below HB3.out _ (fun _ hk _ => hk))).trans (Keeps.set (fun k => k = q) _ ⟨q, 1, none⟩ _ rfl)
      · rw [if_neg hcK] at cut2
        have CUT2 := Lib.hid cut2
        clear cut2 CUT
        go_wp2_with (fail)
        change Calls _ _ _ (setW w j q m) _
        refine (CloneV_c own _ (ln - K) (c - K) _ _ _ (by rw [List.length_drop, ← ELN.out]) CUT2.out (by omega)).mono ?_
        rintro r w3 ⟨v3, rfl, ho3, hb3⟩
        have hq3 := HQ2.out.below hb3
        obtain ⟨A3, c3, rfl, -⟩ := OwnV.form ho3
        rw [List.length_drop] at ho3 ⊢
        have x1 := hq3.c1
        rw [EV.out] at x1
        have f1 := hq3.free 1
        have HQ3 := Lib.hid hq3
        have HO3 := Lib.hid ho3
        have HB3 := Lib.hid hb3
        clear hq3 ho3 hb3 HQ2
        go_wp2_with (fail)
        go_ret
        have sz : (setW w j q m).heap.size = w.heap.size := by simp [setW, World.setCell, World.drewN]
        refine ⟨by rw [R1.out] <;> rfl, ⟨_, _, by rw [R3.out]; exact HQ3.out.acked HO3.out (by rw [sz]; exact Nat.le_refl _) hqlt HB3.out.size⟩, ?_⟩
        exact ((((Keeps.refl (fun k => k = q) w).drewN j).trans (Keeps.set (fun k => k = q) _ ⟨q, 0, none⟩ _ rfl)).trans (Keeps.of_below HB3.out _ (fun _ hk _ => hk))).trans (Keeps.set (fun k => k = q) _ ⟨q, 1, none⟩ _ rfl)
  · have d1 : decide (m ≤ came) = true := decide_eq_true h1
    have hR : ackR came es m = (0, came, es) := by rw [ackR, if_pos (.inl h1)]
    rw [ER.out] at hR
    injection hR with r1 r2
    injection r2 with r2 r3
    have r2 := r2.symm; have r3 := r3.symm
    subst r1 r2 r3
    clear h1
    go_enter Try.func27, Try.ntmps27
    go_wp2_with (fail)
    go_ret
    exact ⟨rfl, ⟨v, ds, WK.out _ H.out⟩, Keeps.refl _ _⟩
end Go.Proofs.Ytgnciejbhaebeaa

/- Words of 32 bits as values that the walk does not look into, and what the program's operations do with them. Conditions: none. -/
namespace Go.Proofs.Ytgnciejbhaebeaa
open Go Go.RowKit

/-- A word as a value; the walk does not look into it. -/
def wv (x : BitVec 32) : Value := .int .u32 (x.toNat : Int)

theorem wrap_bv (r : BitVec 32) : IntKind.u32.wrap ((r.toNat : Nat) : Int) = (r.toNat : Int) := by
  have := r.isLt
  simp only [IntKind.wrap_u32]; omega
theorem ofInt_bv (x : BitVec 32) : BitVec.ofInt 32 ((x.toNat : Nat) : Int) = x := by
  rw [BitVec.ofInt_natCast]; simp

theorem wv_add (t : TypeId) (x y : BitVec 32) : binOp .add t (wv x) (wv y) = pure (wv (x + y)) := by
  simp only [wv, binOp, Op.intArith, ne_eq, not_true_eq_false, if_false]
  congr 2
theorem wv_sub (t : TypeId) (x y : BitVec 32) : binOp .sub t (wv x) (wv y) = pure (wv (x - y)) := by
  have h1 := x.isLt
  have h2 := y.isLt
  simp only [wv, binOp, Op.intArith, ne_eq, not_true_eq_false, if_false]
  congr 2
  rw [IntKind.wrap_u32, BitVec.toNat_sub]; omega
theorem wv_mul (t : TypeId) (x y : BitVec 32) : binOp .mul t (wv x) (wv y) = pure (wv (x * y)) := by
  simp only [wv, binOp, Op.intArith, ne_eq, not_true_eq_false, if_false]
  congr 2
theorem wv_xor (t : TypeId) (x y : BitVec 32) : binOp .xor t (wv x) (wv y) = pure (wv (x ^^^ y)) := by
  simp only [wv, binOp, Op.intBits, ne_eq, not_true_eq_false, if_false]
  show pure (Value.int .u32 (IntKind.u32.wrap (((BitVec.ofInt 32 (x.toNat : Int) ^^^ BitVec.ofInt 32 (y.toNat : Int)).toNat : Nat) : Int))) = _
  rw [ofInt_bv, ofInt_bv, wrap_bv]
theorem wv_and (t : TypeId) (x y : BitVec 32) : binOp .and t (wv x) (wv y) = pure (wv (x &&& y)) := by
  simp only [wv, binOp, Op.intBits, ne_eq, not_true_eq_false, if_false]
  show pure (Value.int .u32 (IntKind.u32.wrap (((BitVec.ofInt 32 (x.toNat : Int) &&& BitVec.ofInt 32 (y.toNat : Int)).toNat : Nat) : Int))) = _
  rw [ofInt_bv, ofInt_bv, wrap_bv]
theorem wv_or (t : TypeId) (x y : BitVec 32) : binOp .or t (wv x) (wv y) = pure (wv (x ||| y)) := by
  simp only [wv, binOp, Op.intBits, ne_eq, not_true_eq_false, if_false]
  show pure (Value.int .u32 (IntKind.u32.wrap (((BitVec.ofInt 32 (x.toNat : Int) ||| BitVec.ofInt 32 (y.toNat : Int)).toNat : Nat) : Int))) = _
  rw [ofInt_bv, ofInt_bv, wrap_bv]
theorem wv_shr (t : TypeId) (x : BitVec 32) (k : IntKind) (n : Int) (h0 : 0 ≤ n) (h1 : n ≤ 32) : binOp .shr t (wv x) (.int k n) = pure (wv (x >>> n.toNat)) := by
  obtain ⟨m, rfl⟩ := Int.eq_ofNat_of_zero_le h0
  simp only [wv, binOp, Op.shift, Int.toNat_natCast]
  rw [if_neg (by omega)]
  congr 2
  rw [BitVec.toNat_ushiftRight, Nat.shiftRight_eq_div_pow, show min m IntKind.u32.bits = m from Nat.min_eq_left (by show m ≤ 32; omega)]
  rw [show ((2 : Int) ^ m) = ((2 ^ m : Nat) : Int) by rw [Int.natCast_pow]; rfl, Int.ofNat_fdiv]
theorem wv_shl (t : TypeId) (x : BitVec 32) (k : IntKind) (n : Int) (h0 : 0 ≤ n) (h1 : n ≤ 32) : binOp .shl t (wv x) (.int k n) = pure (wv (x <<< n.toNat)) := by
  obtain ⟨m, rfl⟩ := Int.eq_ofNat_of_zero_le h0
  simp only [wv, binOp, Op.shift, Int.toNat_natCast]
  rw [if_neg (by omega)]
  congr 2
  rw [BitVec.toNat_shiftLeft, Nat.shiftLeft_eq, show min m IntKind.u32.bits = m from Nat.min_eq_left (by show m ≤ 32; omega)]
  rw [show ((2 : Int) ^ m) = ((2 ^ m : Nat) : Int) by rw [Int.natCast_pow]; rfl, ← Int.natCast_mul, IntKind.wrap_u32]
  generalize x.toNat * 2 ^ m = q
  omega

theorem wv_not (x : BitVec 32) : Op.unary .xor (wv x) = pure (wv (~~~x)) := by
  simp only [wv, Op.unary, Op.intBits]
  show pure (Value.int .u32 (IntKind.u32.wrap (((BitVec.ofInt 32 4294967295 ^^^ BitVec.ofInt 32 (x.toNat : Int)).toNat : Nat) : Int))) = _
  rw [ofInt_bv, wrap_bv, show BitVec.ofInt 32 4294967295 = BitVec.allOnes 32 from rfl, BitVec.allOnes_xor]
theorem wv_store (P : Program) (w : World) (a : Addr) (m : Mode) (x : BitVec 32) : (store a (wv x) m).run P w = stored P w a (wv x) m := run_store P w a _ m rfl
theorem bv_store (P : Program) (w : World) (a : Addr) (m : Mode) (x : UInt8) : (store a (bv x) m).run P w = stored P w a (bv x) m := run_store P w a _ m rfl
theorem wv_cells (a : Addr) (i : Nat) (x : BitVec 32) (rest : List Value) : storeCells a (wv x :: rest) i = (do store (a.add i) (wv x); storeCells a rest (i + 1)) := rfl
theorem bv_cells (a : Addr) (i : Nat) (x : UInt8) (rest : List Value) : storeCells a (bv x :: rest) i = (do store (a.add i) (bv x); storeCells a rest (i + 1)) := rfl
theorem wv_cellsOf (x : BitVec 32) : (wv x).cells = #[wv x] := rfl
theorem bv_cellsOf (x : UInt8) : (bv x).cells = #[bv x] := rfl
theorem no_cells (a : Addr) (i : Nat) : storeCells a [] i = pure () := rfl
/-- A byte as a word, a word's lowest byte. -/
def bw (b : UInt8) : BitVec 32 := b.toBitVec.setWidth 32
def wb (x : BitVec 32) : UInt8 := ⟨x.setWidth 8⟩
theorem bv_conv (w : World) (b : UInt8) : (convert 5 166 (bv b)).run Try.prog w = .ok (wv (bw b)) w := by
  have h := b.toNat_lt
  have e := run_convert_int (P := Try.prog) w 5 166 .u8 (b.toNat : Int) (by rw [Try.underlying5]; rfl) (by kernel_rfl)
  rw [show Try.prog.intKind 166 = .u32 by kernel_rfl] at e
  unfold bv
  rw [e, IntWalk.u32_in _ ⟨by omega, by omega⟩]
  unfold wv bw
  rw [BitVec.toNat_setWidth, UInt8.toNat_toBitVec, Nat.mod_eq_of_lt (by omega)]
theorem wv_conv (w : World) (x : BitVec 32) : (convert 166 5 (wv x)).run Try.prog w = .ok (bv (wb x)) w := by
  have e := run_convert_int (P := Try.prog) w 166 5 .u32 (x.toNat : Int) (by rw [Try.underlying166]; rfl) (by kernel_rfl)
  rw [show Try.prog.intKind 5 = .u8 by kernel_rfl] at e
  unfold wv
  rw [e]
  unfold bv wb
  congr 2
end Go.Proofs.Ytgnciejbhaebeaa

/- What the small functions of sha and of its reference do with words. Conditions: counts below 32. -/
namespace Go.Proofs.Ytgnciejbhaebeaa
open Go Go.RowKit
attribute [local go_sem] wv_add wv_sub wv_mul wv_xor wv_and wv_or wv_shr wv_shl wv_not wv_store bv_store bv_conv wv_conv

/-- Turned right. -/
def ror (x : BitVec 32) (n : Nat) : BitVec 32 := x >>> n ||| x <<< (32 - n)

theorem and31 (n : Nat) (h0 : 0 < n) (h : n < 32) : bits BinOp.and .u64 (18446744073709551616 - (n : Int)) 31 = ((32 - n : Nat) : Int) := by
  have h1 := u64_and_nat (18446744073709551616 - n) 31 (by omega) (by omega)
  rw [show (31 : Nat) = 2 ^ 5 - 1 from rfl, Nat.and_two_pow_sub_one_eq_mod] at h1
  rw [show ((18446744073709551616 - n : Nat) : Int) = 18446744073709551616 - (n : Int) by omega] at h1
  rw [show (31 : Int) = ((2 ^ 5 - 1 : Nat) : Int) from rfl, h1]
  omega

end Go.Proofs.Ytgnciejbhaebeaa

/- What sha.turn makes of eight words and a block of 64 bytes, in plain lists. Rows of words in a block of their own. Conditions: the table of 64 words stands. -/
namespace Go.Proofs.Ytgnciejbhaebeaa
open Go Go.RowKit

def getW (l : List (BitVec 32)) (i : Nat) : BitVec 32 := l.getD i 0
def getB (l : List UInt8) (i : Nat) : UInt8 := l.getD i 0
def be4 (b : List UInt8) (t : Nat) : BitVec 32 := bw (getB b (4 * t)) <<< 24 ||| bw (getB b (4 * t + 1)) <<< 16 ||| bw (getB b (4 * t + 2)) <<< 8 ||| bw (getB b (4 * t + 3))
def sig0 (x : BitVec 32) : BitVec 32 := ror x 7 ^^^ ror x 18 ^^^ x >>> 3
def sig1 (y : BitVec 32) : BitVec 32 := ror y 17 ^^^ ror y 19 ^^^ y >>> 10
def nxt (l : List (BitVec 32)) (k : Nat) : BitVec 32 := getW l k + getW l (k + 9) + sig0 (getW l (k + 1)) + sig1 (getW l (k + 14))
def sch1 (b : List UInt8) : Nat → List (BitVec 32)
  | 0 => List.replicate 64 0
  | k + 1 => (sch1 b k).set k (be4 b k)
def sch2 (b : List UInt8) : Nat → List (BitVec 32)
  | 0 => sch1 b 16
  | k + 1 => (sch2 b k).set (k + 16) (nxt (sch2 b k) k)
def pW (k x : BitVec 32) (v : List (BitVec 32)) : BitVec 32 :=
  getW v 7 + (ror (getW v 4) 6 ^^^ ror (getW v 4) 11 ^^^ ror (getW v 4) 25) + (getW v 4 &&& getW v 5 ^^^ ~~~(getW v 4) &&& getW v 6) + k + x
def qW (v : List (BitVec 32)) : BitVec 32 :=
  (ror (getW v 0) 2 ^^^ ror (getW v 0) 13 ^^^ ror (getW v 0) 22) + (getW v 0 &&& getW v 1 ^^^ getW v 0 &&& getW v 2 ^^^ getW v 1 &&& getW v 2)
def rnd (k x : BitVec 32) (v : List (BitVec 32)) : List (BitVec 32) :=
  [pW k x v + qW v, getW v 0, getW v 1, getW v 2, getW v 3 + pW k x v, getW v 4, getW v 5, getW v 6]
def rounds (ks xs h : List (BitVec 32)) : Nat → List (BitVec 32)
  | 0 => h
  | t + 1 => rnd (getW ks t) (getW xs t) (rounds ks xs h t)
def addL (h v : List (BitVec 32)) : Nat → List (BitVec 32)
  | 0 => h
  | t + 1 => (addL h v t).set t (getW (addL h v t) t + getW v t)
def rootL : List (BitVec 32) := [
  0x428a2f98, 0x71374491, 0xb5c0fbcf, 0xe9b5dba5, 0x3956c25b, 0x59f111f1, 0x923f82a4, 0xab1c5ed5,
  0xd807aa98, 0x12835b01, 0x243185be, 0x550c7dc3, 0x72be5d74, 0x80deb1fe, 0x9bdc06a7, 0xc19bf174,
  0xe49b69c1, 0xefbe4786, 0x0fc19dc6, 0x240ca1cc, 0x2de92c6f, 0x4a7484aa, 0x5cb0a9dc, 0x76f988da,
  0x983e5152, 0xa831c66d, 0xb00327c8, 0xbf597fc7, 0xc6e00bf3, 0xd5a79147, 0x06ca6351, 0x14292967,
  0x27b70a85, 0x2e1b2138, 0x4d2c6dfc, 0x53380d13, 0x650a7354, 0x766a0abb, 0x81c2c92e, 0x92722c85,
  0xa2bfe8a1, 0xa81a664b, 0xc24b8b70, 0xc76c51a3, 0xd192e819, 0xd6990624, 0xf40e3585, 0x106aa070,
  0x19a4c116, 0x1e376c08, 0x2748774c, 0x34b0bcb5, 0x391c0cb3, 0x4ed8aa4a, 0x5b9cca4f, 0x682e6ff3,
  0x748f82ee, 0x78a5636f, 0x84c87814, 0x8cc70208, 0x90befffa, 0xa4506ceb, 0xbef9a3f7, 0xc67178f2]
def blk (h : List (BitVec 32)) (b : List UInt8) : List (BitVec 32) := addL h (rounds rootL (sch2 b 48) h 64) 8
def startL : List (BitVec 32) := [0x6a09e667, 0xbb67ae85, 0x3c6ef372, 0xa54ff53a, 0x510e527f, 0x9b05688c, 0x1f83d9ab, 0x5be0cd19]

theorem sch1_len (b : List UInt8) : ∀ k, (sch1 b k).length = 64
  | 0 => by simp [sch1]
  | k + 1 => by simp [sch1, sch1_len b k]
theorem sch2_len (b : List UInt8) : ∀ k, (sch2 b k).length = 64
  | 0 => sch1_len b 16
  | k + 1 => by simp [sch2, sch2_len b k]
theorem rounds_len (ks xs h : List (BitVec 32)) (hh : h.length = 8) : ∀ k, (rounds ks xs h k).length = 8
  | 0 => hh
  | k + 1 => by simp [rounds, rnd]
theorem addL_len (h v : List (BitVec 32)) (hh : h.length = 8) : ∀ k, (addL h v k).length = 8
  | 0 => hh
  | k + 1 => by simp [addL, addL_len h v hh k]
theorem blk_len (h : List (BitVec 32)) (b : List UInt8) (hh : h.length = 8) : (blk h b).length = 8 := addL_len _ _ hh 8

/-- Block g holds the words l and nothing else. -/
def Ws (w : World) (g : Nat) (t : TypeId) (l : List (BitVec 32)) : Prop := w.heap[g]? = some (.cells (l.map wv).toArray t (0, 0))
section
variable {w w' : World} {g : Nat} {t : TypeId} {l : List (BitVec 32)}
theorem Ws.cell (h : Ws w g t l) (i : Nat) (hi : i < l.length) : w.cell? ⟨g, i, none⟩ = some (wv (getW l i)) := by
  rw [heap_cell h]
  simp [getW, List.getD, hi]
theorem Ws.free (h : Ws w g t l) (i : Nat) : w.frozen? ⟨g, i, none⟩ = false := heap_free h i
theorem Ws.set (h : Ws w g t l) (i : Nat) (x : BitVec 32) : Ws (w.setCell ⟨g, i, none⟩ (wv x)) g t (l.set i x) := by
  unfold Ws
  rw [heap_set h, List.map_set]
  simp
theorem Ws.far (h : Ws w g t l) {p : Addr} (u : Value) (hp : g ≠ p.block) : Ws (w.setCell p u) g t l := (heap_far u hp).trans h
theorem Ws.lt (h : Ws w g t l) : g < w.heap.size := heap_lt h
theorem Ws.below (h : Ws w g t l) (hb : Below w.heap.size w w') : Ws w' g t l := (hb.block g h.lt).trans h
theorem Ws.drewN (h : Ws w g t l) (n : Nat) : Ws (w.drewN n) g t l := h
theorem Ws.alloc (h : Ws w g t l) (o : Obj) : Ws (w.alloc o) g t l := (Below.heap_alloc w o g h.lt).trans h
end

/-- The table of the 64 words. -/
def Tab (w : World) : Prop := 0 < w.heap.size ∧ ∀ i, i < 64 → w.cell? ⟨0, i, none⟩ = some (wv (getW rootL i))
theorem Tab.below {w w' : World} {B : Nat} (h : Tab w) (hb : Below B w w') (hB : 0 < B) : Tab w' :=
  ⟨Nat.lt_of_lt_of_le h.1 hb.size, fun i hi => (World.cell?_of_block (w := w) (a := ⟨0, i, none⟩) (hb.block 0 hB)).trans (h.2 i hi)⟩
theorem getB_rd {b : Nat} {off : Nat} {w : World} {l : List UInt8} (g : ∀ k (h : k < l.length), w.cell? ⟨b, off + k, none⟩ = some (bv l[k])) (k : Nat) (hk : k < l.length) : w.cell? ⟨b, off + k, none⟩ = some (bv (getB l k)) := by
  rw [g k hk]
  simp [getB, List.getD, hk]
end Go.Proofs.Ytgnciejbhaebeaa

/- Eight words built into an array. Conditions: none. -/
namespace Go.Proofs.Ytgnciejbhaebeaa
open Go Go.RowKit
theorem info_u32 : (Try.prog.info? 166).map (·.size) = some 1 := by kernel_rfl
end Go.Proofs.Ytgnciejbhaebeaa

/- What sha.turn computes. Conditions: eight words, 64 bytes, the table stands. -/
namespace Go.Proofs.Ytgnciejbhaebeaa
open Go Go.RowKit
attribute [local go_sem] wv_add wv_sub wv_mul wv_xor wv_and wv_or wv_shr wv_shl wv_not wv_store bv_store bv_conv wv_conv wv_cells bv_cells no_cells wv_cellsOf bv_cellsOf

end Go.Proofs.Ytgnciejbhaebeaa

/- The sum in plain lists: padding, blocks one behind the other, the bytes of the words. Conditions: none. -/
namespace Go.Proofs.Ytgnciejbhaebeaa
open Go Go.RowKit

def lo8 (n : Nat) : UInt8 := UInt8.ofNat n
theorem lo8_nat (n : Nat) : (lo8 n).toNat = n % 256 := by simp [lo8]
def padZ (n : Nat) : Nat := (119 - n % 64) % 64
theorem padZ_le (n : Nat) : padZ n ≤ 63 := by unfold padZ; omega
/-- The length's bytes, k of them. -/
def be8 (n k : Nat) : List UInt8 := (List.range k).map fun i => lo8 (n / 256 ^ (7 - i))
theorem be8_len (n k : Nat) : (be8 n k).length = k := by simp [be8]
theorem be8_succ (n k : Nat) : be8 n (k + 1) = be8 n k ++ [lo8 (n / 256 ^ (7 - k))] := by simp [be8, List.range_succ]
def padHead (b : List UInt8) (z : Nat) : List UInt8 := b ++ [128] ++ List.replicate z 0
def padL (b : List UInt8) : List UInt8 := padHead b (padZ b.length) ++ be8 (8 * b.length) 8
theorem padHead_len (b : List UInt8) (z : Nat) : (padHead b z).length = b.length + 1 + z := by simp [padHead]; omega
theorem padHead_succ (b : List UInt8) (z : Nat) : padHead b (z + 1) = padHead b z ++ [0] := by
  simp [padHead, List.replicate_succ']
theorem padL_len (b : List UInt8) : (padL b).length = b.length + 1 + padZ b.length + 8 := by simp [padL, padHead_len, be8_len]
theorem padL_mod (b : List UInt8) : (padL b).length % 64 = 0 := by rw [padL_len]; unfold padZ; omega
def blocksN (h : List (BitVec 32)) (l : List UInt8) : Nat → List (BitVec 32)
  | 0 => h
  | n + 1 => blocksN (blk h (l.take 64)) (l.drop 64) n
theorem blocksN_len (h : List (BitVec 32)) (l : List UInt8) (hh : h.length = 8) : ∀ n, (blocksN h l n).length = 8
  | 0 => hh
  | n + 1 => blocksN_len (blk h (l.take 64)) (l.drop 64) (blk_len _ _ hh) n
def outB (h : List (BitVec 32)) (i : Nat) : UInt8 := wb (getW h (i / 4) >>> (24 - 8 * (i % 4)))
def outP (h : List (BitVec 32)) : Nat → List UInt8
  | 0 => List.replicate 32 0
  | k + 1 => (outP h k).set k (outB h k)
theorem outP_len (h : List (BitVec 32)) : ∀ k, (outP h k).length = 32
  | 0 => by simp [outP]
  | k + 1 => by simp [outP, outP_len h k]
def hashL (l : List UInt8) : List (BitVec 32) := blocksN startL l (l.length / 64)
def sumL (b : List UInt8) : List UInt8 := outP (hashL (padL b)) 32
theorem sumL_len (b : List UInt8) : (sumL b).length = 32 := outP_len _ _
theorem startL_len : startL.length = 8 := rfl

/-- Block g holds the bytes l and nothing else. -/
def Bs (w : World) (g : Nat) (t : TypeId) (l : List UInt8) : Prop := w.heap[g]? = some (.cells (l.map bv).toArray t (0, 0))
section
variable {w w' : World} {g : Nat} {t : TypeId} {l : List UInt8}
theorem Bs.cell (h : Bs w g t l) (i : Nat) (hi : i < l.length) : w.cell? ⟨g, i, none⟩ = some (bv (getB l i)) := by
  rw [heap_cell h]
  simp [getB, List.getD, hi]
theorem Bs.free (h : Bs w g t l) (i : Nat) : w.frozen? ⟨g, i, none⟩ = false := heap_free h i
theorem Bs.set (h : Bs w g t l) (i : Nat) (x : UInt8) : Bs (w.setCell ⟨g, i, none⟩ (bv x)) g t (l.set i x) := by
  unfold Bs
  rw [heap_set h, List.map_set]
  simp
theorem Bs.far (h : Bs w g t l) {p : Addr} (u : Value) (hp : g ≠ p.block) : Bs (w.setCell p u) g t l := (heap_far u hp).trans h
theorem Bs.lt (h : Bs w g t l) : g < w.heap.size := heap_lt h
theorem Bs.below (h : Bs w g t l) (hb : Below w.heap.size w w') : Bs w' g t l := (hb.block g h.lt).trans h
theorem Bs.grown (h : Bs w g t l) {r : Option Nat} (hb : w.grownBy w' r) (hr : r ≠ some g) : Bs w' g t l := (hb.block g h.lt (fun e => hr e.symm)).trans h
theorem Bs.drewN (h : Bs w g t l) (n : Nat) : Bs (w.drewN n) g t l := h
theorem Bs.alloc (h : Bs w g t l) (o : Obj) : Bs (w.alloc o) g t l := (Below.heap_alloc w o g h.lt).trans h
end
theorem Ws.grown {w w' : World} {g : Nat} {t : TypeId} {l : List (BitVec 32)} (h : Ws w g t l) {r : Option Nat} (hb : w.grownBy w' r) (hr : r ≠ some g) : Ws w' g t l := (hb.block g h.lt (fun e => hr e.symm)).trans h

/-- The address reads as slices of bytes. -/
def RdS (w : World) (A : Option Addr) (bss : List (List UInt8)) : Prop :=
  bss = [] ∨ ∃ b off, A = some ⟨b, off, none⟩ ∧ b < w.heap.size ∧ ∀ k (h : k < bss.length), ∃ Ak ck, w.cell? ⟨b, off + k, none⟩ = some (.slice Ak bss[k].length ck) ∧ Rd w Ak (bss[k].map bv) ∧ bss[k].length ≤ ck ∧ ck ≤ maxLen
section
variable {w w' : World} {A : Option Addr} {bss : List (List UInt8)}
theorem RdS.nil_ : RdS w A [] := .inl rfl
theorem RdS.below (h : RdS w A bss) (hb : Below w.heap.size w w') : RdS w' A bss := by
  rcases h with h | ⟨b, off, hA, hlt, hc⟩
  · exact .inl h
  · refine .inr ⟨b, off, hA, Nat.lt_of_lt_of_le hlt hb.size, fun k hk => ?_⟩
    obtain ⟨Ak, ck, h1, h2, h3, h4⟩ := hc k hk
    exact ⟨Ak, ck, (hb.cell (p := ⟨b, _, none⟩) hlt).trans h1, h2.below hb, h3, h4⟩
theorem RdS.drewN (h : RdS w A bss) (n : Nat) : RdS (w.drewN n) A bss := h
theorem RdS.alloc (h : RdS w A bss) (o : Obj) : RdS (w.alloc o) A bss := h.below ((Below.refl _ _).alloc (Nat.le_refl _) o)
theorem RdS.addr (h : RdS w A bss) (h0 : 0 < bss.length) : ∃ b off, A = some ⟨b, off, none⟩ ∧ b < w.heap.size ∧ ∀ k (h : k < bss.length), ∃ Ak ck, w.cell? ⟨b, off + k, none⟩ = some (.slice Ak bss[k].length ck) ∧ Rd w Ak (bss[k].map bv) ∧ bss[k].length ≤ ck ∧ ck ≤ maxLen := by
  rcases h with rfl | h
  · simp at h0
  · exact h
end
theorem flatten_take_succ (bss : List (List UInt8)) (k : Nat) (h : k < bss.length) : (bss.take (k + 1)).flatten = (bss.take k).flatten ++ bss[k] := by
  rw [List.take_succ_eq_append_getElem h, List.flatten_append]; simp
theorem flatten_take_le (bss : List (List UInt8)) (k : Nat) : (bss.take k).flatten.length ≤ bss.flatten.length := by
  have h := congrArg (fun l => l.flatten.length) (List.take_append_drop k bss)
  simp only [List.flatten_append, List.length_append] at h
  omega

/-! ### Arrays of 32 bytes -/
end Go.Proofs.Ytgnciejbhaebeaa

/- What sha.first and sha.Sum answer. Conditions: the table stands; the parts' lengths fit. -/
namespace Go.Proofs.Ytgnciejbhaebeaa
open Go Go.RowKit
attribute [local go_sem] wv_add wv_sub wv_mul wv_xor wv_and wv_or wv_shr wv_shl wv_not wv_store bv_store bv_conv wv_conv wv_cells bv_cells no_cells wv_cellsOf bv_cellsOf

theorem zeros_8 : #[wv 0, wv 0, wv 0, wv 0, wv 0, wv 0, wv 0, wv 0] = ((List.replicate 8 (0 : BitVec 32)).map wv).toArray := rfl

theorem be8_val (n t : Nat) : Value.int .u8 ((n : Int) * 8 / 2 ^ (8 * t) % 256) = bv (lo8 (8 * n / 256 ^ t)) := by
  unfold bv
  rw [lo8_nat, show (256 : Nat) ^ t = 2 ^ (8 * t) by rw [Nat.pow_mul], Nat.mul_comm 8 n]
  congr 1
theorem zero8_len : (List.replicate 8 (0 : BitVec 32)).length = 8 := rfl
def sliceLen : Value → Nat
  | .slice _ n _ => n
  | _ => 0

end Go.Proofs.Ytgnciejbhaebeaa

/- What the reference's turned, root and block answer. Conditions: eight words, 64 bytes. -/
namespace Go.Proofs.Ytgnciejbhaebeaa
open Go Go.RowKit

theorem c24 : Value.int .u32 16777216 = wv (BitVec.twoPow 32 24) := by kernel_rfl
theorem c16 : Value.int .u32 65536 = wv (BitVec.twoPow 32 16) := by kernel_rfl
theorem c8 : Value.int .u32 256 = wv (BitVec.twoPow 32 8) := by kernel_rfl
theorem cFF : Value.int .u32 4294967295 = wv (BitVec.allOnes 32) := by kernel_rfl
theorem wv_mul24 (t : TypeId) (x : BitVec 32) : binOp .mul t (wv x) (.int .u32 16777216) = pure (wv (x <<< 24)) := by
  rw [c24, wv_mul, BitVec.mul_twoPow_eq_shiftLeft]
theorem wv_mul16 (t : TypeId) (x : BitVec 32) : binOp .mul t (wv x) (.int .u32 65536) = pure (wv (x <<< 16)) := by
  rw [c16, wv_mul, BitVec.mul_twoPow_eq_shiftLeft]
theorem wv_mul8 (t : TypeId) (x : BitVec 32) : binOp .mul t (wv x) (.int .u32 256) = pure (wv (x <<< 8)) := by
  rw [c8, wv_mul, BitVec.mul_twoPow_eq_shiftLeft]
theorem not_all (x : BitVec 32) : BitVec.allOnes 32 - x = ~~~x := by
  apply BitVec.eq_of_toNat_eq
  have := x.isLt
  rw [BitVec.toNat_sub, BitVec.toNat_not, BitVec.toNat_allOnes]
  omega
theorem wv_subc (t : TypeId) (x : BitVec 32) : binOp .sub t (.int .u32 4294967295) (wv x) = pure (wv (~~~x)) := by
  rw [cFF, wv_sub, not_all]
theorem wv_quo (t : TypeId) (x : BitVec 32) (k : Nat) (n : Int) (hn : n = ((2 ^ k : Nat) : Int)) : binOp .quo t (wv x) (.int .u32 n) = pure (wv (x >>> k)) := by
  subst hn
  have h2 : 0 < 2 ^ k := Nat.pow_pos (by decide)
  have hx := x.isLt
  simp only [wv, binOp, Op.intArith, ne_eq, not_true_eq_false, if_false]
  unfold Op.intDiv
  rw [if_neg (by omega)]
  simp only
  congr 2
  rw [← Int.ofNat_tdiv, BitVec.toNat_ushiftRight, Nat.shiftRight_eq_div_pow]
  have h3 : x.toNat / 2 ^ k ≤ x.toNat := Nat.div_le_self _ _
  generalize x.toNat / 2 ^ k = q at h3
  simp only [IntKind.wrap_u32]
  omega
theorem wv_quo24 (t : TypeId) (x : BitVec 32) : binOp .quo t (wv x) (.int .u32 16777216) = pure (wv (x >>> 24)) := wv_quo t x 24 _ (by decide)
theorem wv_quo16 (t : TypeId) (x : BitVec 32) : binOp .quo t (wv x) (.int .u32 65536) = pure (wv (x >>> 16)) := wv_quo t x 16 _ (by decide)
theorem wv_quo8 (t : TypeId) (x : BitVec 32) : binOp .quo t (wv x) (.int .u32 256) = pure (wv (x >>> 8)) := wv_quo t x 8 _ (by decide)

theorem bw_bit (b : UInt8) (i : Nat) (h : 8 ≤ i) : (bw b).getLsbD i = false := by
  unfold bw
  rw [BitVec.getLsbD_setWidth, BitVec.getLsbD_of_ge _ _ h]; simp
theorem shl_or (x : BitVec 32) (b : UInt8) (k : Nat) (h : ∀ i, i < k + 8 → x.getLsbD i = false) : x + bw b <<< k = x ||| bw b <<< k := by
  refine BitVec.add_eq_or_of_and_eq_zero _ _ ?_
  apply BitVec.eq_of_getLsbD_eq
  intro i hi
  rw [BitVec.getLsbD_and, BitVec.getLsbD_shiftLeft]
  by_cases h1 : i < k + 8
  · rw [h i h1]; simp
  · rw [bw_bit b (i - k) (by omega)]; simp
theorem shl_bit (b : UInt8) (k i : Nat) (h : i < k) : (bw b <<< k).getLsbD i = false := by
  rw [BitVec.getLsbD_shiftLeft]; simp [h]
theorem be4_sum (b0 b1 b2 b3 : UInt8) : bw b0 <<< 24 + bw b1 <<< 16 + bw b2 <<< 8 + bw b3 = bw b0 <<< 24 ||| bw b1 <<< 16 ||| bw b2 <<< 8 ||| bw b3 := by
  rw [shl_or (bw b0 <<< 24) b1 16 (fun i h => shl_bit _ _ _ h)]
  rw [shl_or _ b2 8 (fun i h => by rw [BitVec.getLsbD_or, shl_bit _ _ _ (by omega), shl_bit _ _ _ (by omega)]; rfl)]
  have := shl_or (bw b0 <<< 24 ||| bw b1 <<< 16 ||| bw b2 <<< 8) b3 0 (fun i h => by rw [BitVec.getLsbD_or, BitVec.getLsbD_or, shl_bit _ _ _ (by omega), shl_bit _ _ _ (by omega), shl_bit _ _ _ (by omega)]; rfl)
  rw [BitVec.shiftLeft_zero] at this
  exact this

attribute [local go_sem] wv_add wv_xor wv_and wv_or wv_shr wv_shl wv_store bv_store bv_conv wv_conv wv_cells bv_cells no_cells wv_cellsOf bv_cellsOf wv_mul24 wv_mul16 wv_mul8 wv_subc

def rootV : List (Nat × Value) := rootL.zipIdx.map fun (x, i) => (i, .int .u32 (x.toNat : Int))
theorem rootL_len : rootL.length = 64 := rfl
theorem zero64_len : (List.replicate 64 (0 : BitVec 32)).length = 64 := rfl

end Go.Proofs.Ytgnciejbhaebeaa

/- What the reference's block answers. Conditions: eight words, 64 bytes. -/
namespace Go.Proofs.Ytgnciejbhaebeaa
open Go Go.RowKit
attribute [local go_sem] wv_add wv_xor wv_and wv_or wv_shr wv_shl wv_store bv_store bv_conv wv_conv wv_cells bv_cells no_cells wv_cellsOf bv_cellsOf wv_mul24 wv_mul16 wv_mul8 wv_subc

end Go.Proofs.Ytgnciejbhaebeaa

/- What the reference's Padded answers. Conditions: the length fits. -/
namespace Go.Proofs.Ytgnciejbhaebeaa
open Go Go.RowKit

theorem be8_val2 (n t : Nat) (h : t ≤ 7) (s : Nat) (hs : s = 56 - 8 * t) : Value.int .u8 ((n : Int) * 8 / 2 ^ s % 256) = bv (lo8 (8 * n / 256 ^ (7 - t))) := by
  unfold bv
  rw [lo8_nat, show (256 : Nat) ^ (7 - t) = 2 ^ s by rw [hs, show 56 - 8 * t = 8 * (7 - t) by omega, Nat.pow_mul], Nat.mul_comm 8 n]
  congr 1
def sliceLen2 : Value → Nat
  | .slice _ n _ => n
  | _ => 0

end Go.Proofs.Ytgnciejbhaebeaa

/- A store of one cell, the world left open: what is known of the block goes on. Conditions: none. -/
namespace Go.Proofs.Ytgnciejbhaebeaa
open Go Go.RowKit

theorem run_put1 {P : Program} (w : World) (b o : Nat) (ty : TypeId) (v : Value) (ht : w.there b o 1) (hi : (P.info? ty).map (·.size) = some 1) (h1 : v.oneCell' = true) :
    (storeVar ty ⟨b, o, none⟩ v).run P w = .ok () (w.setCells b o [v]) := by
  have := run_storeCells_cells (P := P) b o [v] 0 w (fun j hj => by simpa using (ht j (by simpa using hj)).1) (fun j hj => by simpa using (ht j (by simpa using hj)).2) (fun x hx => by simp at hx; subst hx; exact h1)
  have hc : v.cells = #[v] := by cases v <;> first | rfl | cases h1
  cases hq : P.info? ty with
  | none => simp [hq] at hi
  | some i =>
    have hs : i.size = 1 := by simpa [hq] using hi
    simp only [Nat.add_zero] at this
    simp [storeVar, sizeOf, typeInfo, hq, hc, hs, this]
theorem there_one {w : World} {g i : Nat} {cs : Array Value} {t : TypeId} (h : w.heap[g]? = some (.cells cs t (0, 0))) (hi : i < cs.size) : w.there g i 1 := by
  intro j hj
  obtain rfl : j = 0 := by omega
  rw [Nat.add_zero]
  exact ⟨by rw [heap_cell h, Array.getElem?_eq_getElem hi]; rfl, heap_free h i⟩
/-- A store of one cell into a block that is known whole. -/
theorem wpList_put1 {P : Program} (w : World) {ops : Array Oper} {rest : List Oper} {o : Oper} {a : Act} {Q : Exit → Act → World → Prop} (hgd : o.guard = none) (ty : TypeId) (x y : Operand) (ho : o.op = .store ty x y)
    (g i : Nat) (v : Value) (hx : a.eval x = .pointer (some ⟨g, i, none⟩)) (hy : a.eval y = v) (t : TypeId) (cs : Array Value) (hB : w.heap[g]? = some (.cells cs t (0, 0))) (hi : i < cs.size)
    (hs : (P.info? ty).map (·.size) = some 1) (h1 : v.oneCell' = true)
    (h : ∀ w', w'.heap[g]? = some (.cells (cs.setIfInBounds i v) t (0, 0)) → w.grownBy w' (some g) → wpList P ops Q rest (a.put o.dst undef) w') : wpList P ops Q (o :: rest) a w := by
  refine wpList_plain hgd fun K hK => ?_
  unfold Oper.wp execOp
  simp only [ho, hx, hy, Instr.storeAt, Instr.sureAddr, Sem.run_bind, Sem.run_pure, Result.andThen_ok, run_put1 w g i ty v (there_one hB hi) hs h1]
  refine hK _ _ (h _ ?_ ?_)
  · exact heap_set hB i v
  · exact only_set g i v
theorem info_b : (Try.prog.info? 5).map (·.size) = some 1 := by kernel_rfl
theorem wpList_putB (w : World) {ops : Array Oper} {rest : List Oper} {o : Oper} {a : Act} {Q : Exit → Act → World → Prop} (hgd : o.guard = none) (x y : Operand) (ho : o.op = .store 5 x y)
    (g i : Nat) (b : UInt8) (hx : a.eval x = .pointer (some ⟨g, i, none⟩)) (hy : a.eval y = bv b) (t : TypeId) (l : List UInt8) (hB : Bs w g t l) (hi : i < l.length)
    (h : ∀ w', Bs w' g t (l.set i b) → w.grownBy w' (some g) → wpList Try.prog ops Q rest (a.put o.dst undef) w') : wpList Try.prog ops Q (o :: rest) a w := by
  refine wpList_put1 w hgd 5 x y ho g i (bv b) hx hy t _ hB (by simpa using hi) info_b rfl fun w' h1 h2 => h w' ?_ h2
  unfold Bs
  rw [h1, List.map_set]
  simp
theorem far_cell {w w' : World} {r g i : Nat} {v : Value} (hg : w.grownBy w' (some r)) (hc : w.cell? ⟨g, i, none⟩ = some v) (hne : r ≠ g) : w'.cell? ⟨g, i, none⟩ = some v :=
  (World.cell?_of_block (w := w) (a := ⟨g, i, none⟩) (hg.block g (World.block_lt_of_cell? w ⟨g, i, none⟩ hc) (fun e => hne (by injection e with e; exact e.symm)))).trans hc
end Go.Proofs.Ytgnciejbhaebeaa

/- What the reference's Sum answers: the same as sha.Sum. Conditions: the parts' lengths fit. -/
namespace Go.Proofs.Ytgnciejbhaebeaa
open Go Go.RowKit
attribute [local go_sem] wv_store bv_store bv_conv wv_conv wv_cells bv_cells no_cells wv_cellsOf bv_cellsOf wv_quo24 wv_quo16 wv_quo8

theorem outP_four (h : List (BitVec 32)) (t : Nat) :
    (((((outP h (4 * t)).set (4 * t) (wb (getW h t >>> 24))).set (4 * t + 1) (wb (getW h t >>> 16))).set (4 * t + 2) (wb (getW h t >>> 8))).set (4 * t + 3) (wb (getW h t))) = outP h (4 * (t + 1)) := by
  rw [show 4 * (t + 1) = 4 * t + 1 + 1 + 1 + 1 by omega]
  simp only [outP, outB]
  rw [show 4 * t / 4 = t by omega, show (4 * t + 1) / 4 = t by omega, show (4 * t + 1 + 1) / 4 = t by omega, show (4 * t + 1 + 1 + 1) / 4 = t by omega]
  rw [show 24 - 8 * (4 * t % 4) = 24 by omega, show 24 - 8 * ((4 * t + 1) % 4) = 16 by omega, show 24 - 8 * ((4 * t + 1 + 1) % 4) = 8 by omega, show 24 - 8 * ((4 * t + 1 + 1 + 1) % 4) = 0 by omega]
  rw [BitVec.ushiftRight_zero]
theorem ownsNew (w : World) (o : Obj) : OwnB ((w.alloc o).alloc (.cells #[] 5)) (w.heap.size + 1) (.slice (some ⟨w.heap.size + 1, 0, none⟩) 0 0) ([] : List UInt8) := by
  have h : OwnB ((w.alloc o).alloc (.cells #[] 5)) (w.heap.size + 1) (.slice (some ⟨(w.alloc o).heap.size, 0, none⟩) 0 0) ([] : List UInt8) := World.ownsRow_made (w.alloc o) #[] 0 (by simp) (Nat.zero_le _) rfl
  rw [World.size_alloc] at h
  exact h
end Go.Proofs.Ytgnciejbhaebeaa

/- A sum as one value: held against another one; the two sums of the chapter's example, worked out. Conditions: none. -/
namespace Go.Proofs.Ytgnciejbhaebeaa
open Go Go.RowKit

def bl (b : UInt8) : Lit := .int .u8 (b.toNat : Int)
theorem bl_inj {x y : UInt8} (h : bl x = bl y) : x = y := by
  simp only [bl, Lit.int.injEq, true_and] at h
  exact UInt8.toNat_inj.1 (by omega)
theorem bl_map {a b : List UInt8} (h : a.map bl = b.map bl) : a = b := by
  induction a generalizing b with
  | nil => cases b with
    | nil => rfl
    | cons y b => simp at h
  | cons x a ih => cases b with
    | nil => simp at h
    | cons y b =>
      simp only [List.map_cons, List.cons.injEq] at h
      rw [bl_inj h.1, ih h.2]
theorem mapM_range {α : Type} (n : Nat) (f : Nat → Option α) (g : Nat → α) (h : ∀ i, i < n → f i = some (g i)) : (List.range n).mapM f = some ((List.range n).map g) := by
  have go : ∀ (is : List Nat), (∀ i ∈ is, i < n) → is.mapM f = some (is.map g) := by
    intro is
    induction is with
    | nil => intro _; rfl
    | cons i is ih =>
      intro hi
      rw [List.mapM_cons, h i (hi i (by simp)), ih (fun j hj => hi j (by simp [hj]))]
      rfl
  exact go _ (fun i hi => List.mem_range.1 hi)
theorem flat1 {α : Type} (g : Nat → α) (is : List Nat) : (is.map fun i => [g i]).flatten = is.map g := by
  induction is with
  | nil => rfl
  | cons i is ih => rw [List.map_cons, List.flatten_cons, ih]; rfl
theorem cells_u8 : Try.prog.cellsOf 5 = 1 := by kernel_rfl
/-- The sum of bytes, as one value. -/
def sumV (b : List UInt8) : Value := .agg ((sumL b).map bv).toArray
set_option maxRecDepth 100000 in
theorem sum_none : (sumL [])[0]? = some 0xe3 ∧ (sumL [])[31]? = some 0x55 := by decide +kernel
set_option maxRecDepth 100000 in
theorem sum_abc : (sumL [97, 98, 99])[0]? = some 0xba ∧ (sumL [97, 98, 99])[1]? = some 0x78 ∧ (sumL [97, 98, 99])[31]? = some 0xad := by decide +kernel
end Go.Proofs.Ytgnciejbhaebeaa

/- What the laws on sums call: the fixed example, the size, all held against all. Conditions: the table stands. -/
namespace Go.Proofs.Ytgnciejbhaebeaa
open Go Go.RowKit
theorem sumV_agg (b : List UInt8) : sumV b = .agg ((sumL b).map bv).toArray := rfl
theorem get_of (l : List UInt8) (i : Nat) (x : UInt8) (h : l[i]? = some x) : getB l i = x := by simp [getB, List.getD, h]
theorem z32_len : (List.replicate 32 (0 : UInt8)).length = 32 := rfl

theorem conv_const (w : World) (C : Array Value) (n c : Nat) : (convert 27 27 (.slice (some ⟨w.heap.size, 0, none⟩) n c)).run Try.prog (w.alloc (.cells C 5)) = .ok (.slice (some ⟨w.heap.size, 0, none⟩) n c) (w.alloc (.cells C 5 (C.size, C.size + 1))) :=
  Lib.run_convert_bytes_const w 27 5 C n c Try.underlying27 Try.underlying5
theorem Rd.litM (w : World) (vs : List Value) (t : TypeId) (fr : Nat × Nat) : Rd (w.alloc (.cells vs.toArray t fr)) (some ⟨w.heap.size, 0, none⟩) vs := by
  refine .inr ⟨w.heap.size, 0, rfl, by simp, fun k hk => ?_⟩
  rw [Nat.zero_add, World.cell?_alloc_mark]
  simp

theorem RdS_one (w : World) (A : Option Addr) (n c : Nat) (b : List UInt8) (t : TypeId) (hn : b.length = n) (hr : Rd w A (b.map bv)) (h1 : n ≤ c) (h2 : c ≤ maxLen) :
    RdS (w.alloc (.cells #[.slice A n c] t)) (some ⟨w.heap.size, 0, none⟩) [b] := by
  refine .inr ⟨w.heap.size, 0, rfl, by simp, fun k hk => ?_⟩
  obtain rfl : k = 0 := by simp at hk; omega
  refine ⟨A, c, ?_, hr.alloc _, by simpa [hn] using h1, h2⟩
  rw [cell_of_row _ _ 0 _ _ (0, 0) (heap_alloc_new w _)]
  simp [hn]
attribute [local go_sem] conv_const

/-! ### The size -/
def SzOk (bss : List (List UInt8)) (e : Ending) : Prop := ∃ r : Int, e = .returned (.int .i64 r) ∧ 0 ≤ r ∧ r ≤ 9000000000000000000 ∧ (r ≤ 16384 → bss.flatten.length ≤ 16384)
/-! ### All held against all -/
theorem Same_q (A1 A2 : Option Addr) (n c1 c2 : Nat) (xs : List UInt8) (w : World) (l1 : xs.length = n) (h1 : Rd w A1 (xs.map bv)) (h2 : Rd w A2 (xs.map bv)) (m1 : n ≤ maxLen) (q m : Nat) :
    Calls Try.prog 21 #[.slice A1 n c1, .slice A2 n c2] (w.drewN (q + m)) fun e w' => e = .returned (.bool true) ∧ ∃ k, w' = w.drewN (q + k) :=
  (Same_t A1 A2 n n c1 c2 xs (w.drewN (q + m)) l1 l1 (h1.drewN _) (h2.drewN _) m1).mono fun _ _ ⟨he, q', hw⟩ => ⟨he, m + q', by rw [hw, World.drewN_drewN, Nat.add_assoc]⟩
/-- A literal slice of slices in a new block. -/
theorem RdS_lit (w : World) (ps : List (Option Addr × Nat × Nat)) (bss : List (List UInt8)) (t : TypeId) (hl : ps.length = bss.length)
    (h : ∀ x ∈ ps.zip bss, x.2.length = x.1.2.1 ∧ Rd w x.1.1 (x.2.map bv) ∧ x.1.2.1 ≤ x.1.2.2 ∧ x.1.2.2 ≤ maxLen) :
    RdS (w.alloc (.cells (ps.map fun p => Value.slice p.1 p.2.1 p.2.2).toArray t)) (some ⟨w.heap.size, 0, none⟩) bss := by
  refine .inr ⟨w.heap.size, 0, rfl, by simp, fun k hk => ?_⟩
  have hk' : k < ps.length := by omega
  have hz : k < (ps.zip bss).length := by simp; omega
  obtain ⟨h1, h2, h3, h4⟩ := h _ (List.getElem_mem hz)
  simp only [List.getElem_zip] at h1 h2 h3 h4
  refine ⟨ps[k].1, ps[k].2.2, ?_, h2.alloc _, by omega, h4⟩
  rw [Nat.zero_add, cell_of_row _ _ k _ _ (0, 0) (heap_alloc_new w _), h1]
  simp [hk']
end Go.Proofs.Ytgnciejbhaebeaa

/- Slices of bytes in a row of the call's own. Conditions: none. -/
namespace Go.Proofs.Ytgnciejbhaebeaa
open Go Go.RowKit

theorem info_sl : (Try.prog.info? 27).map (fun i => (i.zero, i.size, i.bytes)) = some (some (.slice none 0 0), 1, 24) := by kernel_rfl
/-- The value is a slice of these bytes, in a block behind B. -/
def SlV (w : World) (B : Nat) (v : Value) (b : List UInt8) : Prop :=
  ∃ A c, v = .slice A b.length c ∧ Rd w A (b.map bv) ∧ b.length ≤ c ∧ c ≤ maxLen ∧ ∀ a, A = some a → B < a.block
theorem SlV.below {w w' : World} {B : Nat} {v : Value} {b : List UInt8} (h : SlV w B v b) (hb : Below w.heap.size w w') : SlV w' B v b := by
  obtain ⟨A, c, h1, h2, h3⟩ := h
  exact ⟨A, c, h1, h2.below hb, h3⟩
theorem SlV.set {w : World} {B i : Nat} {v u : Value} {b : List UInt8} (h : SlV w B v b) : SlV (w.setCell ⟨B, i, none⟩ u) B v b := by
  obtain ⟨A, c, h1, h2, h3, h4, h5⟩ := h
  exact ⟨A, c, h1, h2.far u (fun a e => by have := h5 a e; simp; omega), h3, h4, h5⟩
theorem SlV.own {w : World} {B B' : Nat} {v : Value} {b : List UInt8} (h : OwnB w B' v b) (hB : B < B') : SlV w B v b := by
  obtain ⟨A, c, h1, h2, h3, h4, h5⟩ := h.form
  exact ⟨A, c, h1, h4, h2, h3, fun a e => Nat.lt_of_lt_of_le hB (h5 a e).1⟩

/-- k copies lie in the row, the rest is nil. -/
def Cps (w : World) (B n : Nat) (bss : List (List UInt8)) (k : Nat) : Prop :=
  ∃ vs : List Value, vs.length = k ∧ Own w B 27 (.slice (some ⟨B, 0, none⟩) n n) (vs ++ List.replicate (n - k) (.slice none 0 0)) ∧ ∀ j (h1 : j < vs.length) (h2 : j < bss.length), SlV w B vs[j] bss[j]
theorem Cps.zero {w : World} {B n : Nat} {bss : List (List UInt8)} (h : Own w B 27 (.slice (some ⟨B, 0, none⟩) n n) (List.replicate n (.slice none 0 0))) : Cps w B n bss 0 :=
  ⟨[], rfl, by simpa using h, fun j h1 => absurd h1 (by simp)⟩
theorem Cps.below {w w' : World} {B n k : Nat} {bss : List (List UInt8)} (h : Cps w B n bss k) (hb : Below w.heap.size w w') : Cps w' B n bss k := by
  obtain ⟨vs, h1, h2, h3⟩ := h
  exact ⟨vs, h1, Own.below h2 hb, fun j g1 g2 => (h3 j g1 g2).below hb⟩
theorem Cps.put {w : World} {B n k : Nat} {bss : List (List UInt8)} (h : Cps w B n bss k) (hk : k < n) (v : Value) (hv : ∀ h2 : k < bss.length, SlV w B v bss[k]) : Cps (w.setCell ⟨B, k, none⟩ v) B n bss (k + 1) := by
  obtain ⟨vs, h1, h2, h3⟩ := h
  refine ⟨vs ++ [v], by simp [h1], ?_, fun j g1 g2 => ?_⟩
  · have := h2.set k v
    rw [List.set_append_right _ _ (by omega), h1, Nat.sub_self, show n - k = (n - (k + 1)) + 1 by omega, List.replicate_succ, List.set_cons_zero] at this
    rw [List.append_assoc]
    exact this
  · rcases Nat.lt_or_ge j vs.length with hj | hj
    · rw [List.getElem_append_left hj]
      exact (h3 j hj g2).set
    · have : j = k := by simp at g1; omega
      subst this
      rw [List.getElem_append_right hj]
      simp only [h1, Nat.sub_self, List.getElem_cons_zero]
      exact (hv g2).set
theorem Cps.cell {w : World} {B n k : Nat} {bss : List (List UInt8)} (h : Cps w B n bss k) (j : Nat) (hj : j < n) (hk : k ≤ n) : ∃ u, w.cell? ⟨B, j, none⟩ = some u := by
  obtain ⟨vs, h1, h2, h3⟩ := h
  have : j < (vs ++ List.replicate (n - k) (Value.slice none 0 0)).length := by simp [h1]; omega
  exact ⟨_, h2.cell j this⟩
theorem Cps.free {w : World} {B n k : Nat} {bss : List (List UInt8)} (h : Cps w B n bss k) (j : Nat) : w.frozen? ⟨B, j, none⟩ = false := by
  obtain ⟨vs, h1, h2, h3⟩ := h
  exact h2.free j
theorem Cps.rds {w : World} {B n : Nat} {bss : List (List UInt8)} (h : Cps w B n bss n) (hn : bss.length = n) : RdS w (some ⟨B, 0, none⟩) bss := by
  obtain ⟨vs, h1, h2, h3⟩ := h
  rw [Nat.sub_self, List.replicate_zero, List.append_nil] at h2
  obtain ⟨A, c, e, q1, q2, q3, q4, _⟩ := Own.form h2
  injection e with e1 e2 e3
  subst e1
  obtain ⟨_, hlt, _⟩ := q4 _ rfl
  refine .inr ⟨B, 0, rfl, hlt, fun k hk => ?_⟩
  obtain ⟨Ak, ck, g1, g2, g3, g4, _⟩ := h3 k (by omega) hk
  refine ⟨Ak, ck, ?_, g2, g3, g4⟩
  rw [Nat.zero_add, h2.cell k (by omega), g1]
end Go.Proofs.Ytgnciejbhaebeaa

/- Cuts of slices whose bound is known under another spelling. Conditions: the bound lies in the slice. -/
namespace Go.Proofs.Ytgnciejbhaebeaa
open Go Go.RowKit

/-- A guarded operation whose guard lets it run is walked as a plain one. -/
theorem wpList_open {P : Program} {ops : Array Oper} {Q : Exit → Act → World → Prop} {a : Act} {w : World} {rest : List Oper} {o : Oper} (hw : Region.wanted o (yielded ops a.tmps) = true)
    (h : wpList P ops Q ({ o with guard := none } :: rest) a w) : wpList P ops Q (o :: rest) a w := by
  unfold wpList at h ⊢
  rw [if_pos hw]
  rw [if_pos (by simp [Region.wanted])] at h
  exact h
theorem wpList_sliceTo (w : World) {ops : Array Oper} {rest : List Oper} {o : Oper} {a : Act} {Q : Exit → Act → World → Prop} (hgd : o.guard = none) (x y : Operand) (ho : o.op = .slice 27 x none (some y) none)
    (A : Option Addr) (m c : Nat) (hx : a.eval x = .slice A m c) (V : Int) (hy : a.eval y = .int .i64 V) (k : Nat) (hV : V = (k : Int)) (hk : k ≤ c)
    (h : wpList Try.prog ops Q rest (a.put o.dst (.slice A k c)) w) : wpList Try.prog ops Q (o :: rest) a w := by
  subst hV
  refine wpList_plain hgd fun K hK => ?_
  have hk' : (k : Int) ≤ (c : Int) := by omega
  unfold Oper.wp execOp
  simp only [ho, Option.map_some, Option.map_none, hx, hy]
  go_simp
  exact hK _ _ h

theorem wpList_sliceFrom (w w0 : World) {ops : Array Oper} {rest : List Oper} {o : Oper} {a : Act} {Q : Exit → Act → World → Prop} (hgd : o.guard = none) (x y : Operand) (ho : o.op = .slice 27 x (some y) none none)
    (A : Option Addr) (m c : Nat) (hx : a.eval x = .slice A m c) (V : Int) (hy : a.eval y = .int .i64 V) (k : Nat) (hV : V = (k : Int)) (hk : k ≤ m) (hm : m ≤ c) (l : List UInt8) (hl : l.length = m) (hr : Rd w0 A (l.map bv))
    (h : ∀ A' c', Rd w0 A' ((l.drop k).map bv) → m - k ≤ c' → c' ≤ c → wpList Try.prog ops Q rest (a.put o.dst (.slice A' (m - k) c')) w) : wpList Try.prog ops Q (o :: rest) a w := by
  subst hV
  refine wpList_plain hgd fun K hK => ?_
  have hk' : (k : Int) ≤ (m : Int) := by omega
  have hc := hr.cut (k := k) (n := m) (c := c) (by rw [List.length_map]; exact hl) hk hm
  rw [← List.map_drop] at hc
  unfold Oper.wp execOp
  simp only [ho, Option.map_some, Option.map_none, hx, hy]
  go_simp
  exact hK _ _ (h _ _ hc (by omega) (by omega))

/-- The values are slices of these bytes, in the memory of that world. -/
def SlL (w : World) (vs : List Value) (bss : List (List UInt8)) : Prop :=
  vs.length = bss.length ∧ ∀ j (h1 : j < vs.length) (h2 : j < bss.length), ∃ A c, vs[j] = .slice A bss[j].length c ∧ Rd w A (bss[j].map bv) ∧ bss[j].length ≤ c ∧ c ≤ maxLen
theorem SlL.nil_ (w : World) : SlL w [] [] := ⟨rfl, fun j h => absurd h (by simp)⟩
theorem SlL.snoc {w : World} {vs : List Value} {bss : List (List UInt8)} (h : SlL w vs bss) (A : Option Addr) (n c : Nat) (b : List UInt8) (hn : b.length = n) (hr : Rd w A (b.map bv)) (h1 : n ≤ c) (h2 : c ≤ maxLen) : SlL w (vs ++ [.slice A n c]) (bss ++ [b]) := by
  refine ⟨by simp [h.1], fun j g1 g2 => ?_⟩
  rcases Nat.lt_or_ge j vs.length with hj | hj
  · rw [List.getElem_append_left hj]
    obtain ⟨A', c', q1, q2, q3, q4⟩ := h.2 j hj (by have := h.1; omega)
    refine ⟨A', c', ?_, ?_⟩
    · rw [q1, List.getElem_append_left (by have := h.1; omega)]
    · rw [List.getElem_append_left (by have := h.1; omega)]; exact ⟨q2, q3, q4⟩
  · have e : j = vs.length := by simp at g1; omega
    subst e
    have e2 := h.1
    refine ⟨A, c, ?_, ?_⟩
    · simp [e2, hn]
    · simp [e2, hn]; exact ⟨hr, h1, h2⟩
theorem SlL.rds {w w' : World} {B : Nat} {v : Value} {vs : List Value} {bss : List (List UInt8)} (h : SlL w vs bss) (hb : Below w.heap.size w w') (ho : Own w' B 27 v vs) :
    ∃ A c, v = .slice A bss.length c ∧ RdS w' A bss := by
  obtain ⟨A, c, e, q1, q2, q3, q4, _⟩ := Own.form ho
  refine ⟨A, c, by rw [e, h.1], ?_⟩
  rcases Nat.eq_zero_or_pos bss.length with h0 | h0
  · left; exact List.eq_nil_of_length_eq_zero h0
  · obtain ⟨b, off, rfl, hlt, hc⟩ := q3.addr (by rw [h.1]; exact h0)
    refine .inr ⟨b, off, rfl, hlt, fun k hk => ?_⟩
    have hk' : k < vs.length := by rw [h.1]; exact hk
    obtain ⟨Ak, ck, g1, g2, g3, g4⟩ := h.2 k hk' hk
    exact ⟨Ak, ck, by rw [hc k hk', g1], g2.below hb, g3, g4⟩
end Go.Proofs.Ytgnciejbhaebeaa

/- The code of a text under a key, in plain lists. Rows of 64 bytes. Conditions: none. -/
namespace Go.Proofs.Ytgnciejbhaebeaa
open Go Go.RowKit

def keyL (key : List UInt8) : List UInt8 := if 64 < key.length then sumL key else key
theorem keyL_len (key : List UInt8) : (keyL key).length ≤ 64 := by
  unfold keyL
  split
  · rw [sumL_len]; omega
  · omega
def padK (k : List UInt8) : List UInt8 := k ++ List.replicate (64 - k.length) 0
theorem padK_len {k : List UInt8} (h : k.length ≤ 64) : (padK k).length = 64 := by simp [padK]; omega
def xorL (c : UInt8) (l : List UInt8) : List UInt8 := l.map (· ^^^ c)
theorem xorL_len (c : UInt8) (l : List UInt8) : (xorL c l).length = l.length := by simp [xorL]
def innerB (key p : List UInt8) : List UInt8 := xorL 54 (padK (keyL key)) ++ p
def codeB (key p : List UInt8) : List UInt8 := xorL 92 (padK (keyL key)) ++ sumL (innerB key p)
theorem innerB_len (key p : List UInt8) : (innerB key p).length = 64 + p.length := by
  rw [innerB, List.length_append, xorL_len, padK_len (keyL_len key)]
theorem codeB_len (key p : List UInt8) : (codeB key p).length = 96 := by
  rw [codeB, List.length_append, xorL_len, padK_len (keyL_len key), sumL_len]
/-- The first k are turned. -/
def xorK (c : UInt8) (l : List UInt8) (k : Nat) : List UInt8 := xorL c (l.take k) ++ l.drop k
theorem xorK_len (c : UInt8) (l : List UInt8) (k : Nat) : (xorK c l k).length = l.length := by
  rw [xorK, List.length_append, xorL_len, List.length_take, List.length_drop]; omega
theorem xorK_zero (c : UInt8) (l : List UInt8) : xorK c l 0 = l := by simp [xorK, xorL]
theorem xorK_all (c : UInt8) (l : List UInt8) : xorK c l l.length = xorL c l := by simp [xorK]
theorem xorK_get (c : UInt8) (l : List UInt8) (k : Nat) (h : k < l.length) : getB (xorK c l k) k = getB l k := by
  unfold getB xorK
  rw [List.getD_eq_getElem?_getD, List.getD_eq_getElem?_getD, List.getElem?_append_right (by rw [xorL_len, List.length_take]; omega), xorL_len, List.length_take, List.getElem?_drop]
  congr 2; omega
theorem xorK_set (c : UInt8) (l : List UInt8) (k : Nat) (h : k < l.length) : (xorK c l k).set k (getB l k ^^^ c) = xorK c l (k + 1) := by
  unfold xorK
  have hl : (xorL c (l.take k)).length = k := by rw [xorL_len, List.length_take]; omega
  rw [List.set_append_right _ _ (by omega), hl, Nat.sub_self, List.drop_eq_getElem_cons h, List.set_cons_zero, List.take_succ_eq_append_getElem h]
  unfold xorL
  rw [List.map_append, List.append_assoc]
  simp [getB, List.getD, h]
theorem bv_xorc (t : TypeId) (b c : UInt8) (n : Int) (hn : n = (c.toNat : Int)) : binOp .xor t (bv b) (.int .u8 n) = pure (bv (b ^^^ c)) := by
  subst hn
  have h1 := b.toNat_lt
  have h2 := c.toNat_lt
  have h3 := (b ^^^ c).toNat_lt
  simp only [bv, binOp, Op.intBits, ne_eq, not_true_eq_false, if_false]
  congr 2
  have h := u8_xor_nat b.toNat c.toNat h1 h2
  rw [UInt8.toNat_xor]
  rw [← h]
  rfl
theorem bv_xor54 (t : TypeId) (b : UInt8) : binOp .xor t (bv b) (.int .u8 54) = pure (bv (b ^^^ 54)) := bv_xorc t b 54 54 rfl
theorem bv_xor92 (t : TypeId) (b : UInt8) : binOp .xor t (bv b) (.int .u8 92) = pure (bv (b ^^^ 92)) := bv_xorc t b 92 92 rfl

theorem OwnB.ofBs {w : World} {B g n : Nat} {l : List UInt8} (h : Bs w g 5 l) (hn : l.length = n) (hB : B ≤ g) (hm : n ≤ maxLen) : OwnB w B (.slice (some ⟨g, 0, none⟩) n n) l := by
  subst hn
  refine ⟨by simp, .inr ⟨g, l.length, _, by simp, hB, h, by simp, hm, by simp, by simp [List.take_of_length_le]⟩⟩
theorem OwnB.toBs {w : World} {B g n : Nat} {l : List UInt8} (h : OwnB w B (.slice (some ⟨g, 0, none⟩) n n) l) : Bs w g 5 l := by
  have hl := h.len
  obtain ⟨_, ⟨hb, _⟩ | ⟨g', cap, cur, hv, _, hg, hn, _, hcs, ht⟩⟩ := h
  · cases hb
  · injection hv with h1 h2 h3
    injection h1 with h1
    injection h1 with h1
    subst h1 h3
    unfold Bs
    rw [hg]
    have hc : cur.toList = l.map bv := by
      rw [← ht, List.take_of_length_le]
      simp at hcs ⊢; omega
    rw [← hc]
end Go.Proofs.Ytgnciejbhaebeaa

/- What mac.coder answers: a function that holds the two turned keys. Conditions: the table stands. -/
namespace Go.Proofs.Ytgnciejbhaebeaa
open Go Go.RowKit
attribute [local go_sem] wv_store bv_store bv_cells no_cells bv_cellsOf bv_xor54 bv_xor92

def zb64 : Array Value := ((List.replicate 64 (0 : UInt8)).map bv).toArray
theorem mk64 (w : World) : (Instr.makeSlice 27 (.int .i64 64) (.int .i64 64)).run Try.prog w = .ok (.slice (some ⟨w.heap.size, 0, none⟩) 64 64) (w.alloc (.cells zb64 5)) := by kernel_rfl
section
variable (w : World) (a b c d : Obj)
theorem four_0 : ((((w.alloc a).alloc b).alloc c).alloc d).heap[w.heap.size]? = some a := by
  rw [Below.heap_alloc _ d _ (by simp; try omega), Below.heap_alloc _ c _ (by simp; try omega), Below.heap_alloc _ b _ (by simp)]
  exact heap_alloc_new w a
theorem four_1 : ((((w.alloc a).alloc b).alloc c).alloc d).heap[w.heap.size + 1]? = some b := by
  rw [Below.heap_alloc _ d _ (by simp; try omega), Below.heap_alloc _ c _ (by simp)]
  have := heap_alloc_new (w.alloc a) b
  simpa using this
theorem four_2 : ((((w.alloc a).alloc b).alloc c).alloc d).heap[w.heap.size + 1 + 1]? = some c := by
  rw [Below.heap_alloc _ d _ (by simp)]
  have := heap_alloc_new ((w.alloc a).alloc b) c
  simpa using this
theorem four_3 : ((((w.alloc a).alloc b).alloc c).alloc d).heap[w.heap.size + 1 + 1 + 1]? = some d := by
  have := heap_alloc_new (((w.alloc a).alloc b).alloc c) d
  simpa using this
theorem four_below : Below w.heap.size w ((((w.alloc a).alloc b).alloc c).alloc d) :=
  ((((Below.refl _ _).alloc (Nat.le_refl _) _).alloc (by simp) _).alloc (by simp; omega) _).alloc (by simp; omega) _
end

/-- Two rows of 64 bytes, each behind a variable of its own. -/
structure Two (w : World) (B p q g h : Nat) (xs ys : List UInt8) : Prop where
  hp : w.heap[p]? = some (.cells #[.slice (some ⟨g, 0, none⟩) 64 64] 27 (0, 0))
  hq : w.heap[q]? = some (.cells #[.slice (some ⟨h, 0, none⟩) 64 64] 27 (0, 0))
  hg : Bs w g 5 xs
  hh : Bs w h 5 ys
  ne : p ≠ g ∧ p ≠ h ∧ q ≠ g ∧ q ≠ h ∧ g ≠ h
  lo : B ≤ p ∧ B ≤ q ∧ B ≤ g ∧ B ≤ h
section
variable {w w' : World} {B p q g h : Nat} {xs ys xs' : List UInt8}
theorem Two.setG (t : Two w B p q g h xs ys) (hg : w.grownBy w' (some g)) (hb : Bs w' g 5 xs') : Two w' B p q g h xs' ys :=
  have ⟨n1, n2, n3, n4, n5⟩ := t.ne
  ⟨(hg.block _ (heap_lt t.hp) (fun e => by injection e with e; omega)).trans t.hp, (hg.block _ (heap_lt t.hq) (fun e => by injection e with e; omega)).trans t.hq, hb, t.hh.grown hg (fun e => by injection e with e; omega), t.ne, t.lo⟩
theorem Two.setH (t : Two w B p q g h xs ys) (hg : w.grownBy w' (some h)) (hb : Bs w' h 5 xs') : Two w' B p q g h xs xs' :=
  have ⟨n1, n2, n3, n4, n5⟩ := t.ne
  ⟨(hg.block _ (heap_lt t.hp) (fun e => by injection e with e; omega)).trans t.hp, (hg.block _ (heap_lt t.hq) (fun e => by injection e with e; omega)).trans t.hq, t.hg.grown hg (fun e => by injection e with e; omega), hb, t.ne, t.lo⟩
theorem Two.below (t : Two w B p q g h xs ys) (hb : Below w.heap.size w w') : Two w' B p q g h xs ys :=
  ⟨(hb.block _ (heap_lt t.hp)).trans t.hp, (hb.block _ (heap_lt t.hq)).trans t.hq, t.hg.below hb, t.hh.below hb, t.ne, t.lo⟩
theorem Two.drewN (t : Two w B p q g h xs ys) (n : Nat) : Two (w.drewN n) B p q g h xs ys := ⟨t.hp, t.hq, t.hg, t.hh, t.ne, t.lo⟩
theorem Two.cp (t : Two w B p q g h xs ys) : w.cell? ⟨p, 0, none⟩ = some (.slice (some ⟨g, 0, none⟩) 64 64) := by rw [heap_cell t.hp]; rfl
theorem Two.cq (t : Two w B p q g h xs ys) : w.cell? ⟨q, 0, none⟩ = some (.slice (some ⟨h, 0, none⟩) 64 64) := by rw [heap_cell t.hq]; rfl
end

theorem Bs.rd {w : World} {g : Nat} {t : TypeId} {l : List UInt8} (h : Bs w g t l) : Rd w (some ⟨g, 0, none⟩) (l.map bv) := by
  refine .inr ⟨g, 0, rfl, h.lt, fun k hk => ?_⟩
  rw [Nat.zero_add, heap_cell h]
  simp at hk
  simp [hk]
theorem zeros64_len : (List.replicate 64 (0 : UInt8)).length = 64 := by simp

end Go.Proofs.Ytgnciejbhaebeaa

/- How a law's arguments are opened: integers, bools, strings, slices of bytes. Conditions: none. -/
namespace Go.Proofs.Ytgnciejbhaebeaa
open Go Go.RowKit Go.ChangeShapes Go.WideShapes

theorem opn_int {H : Type} {enc : TypeId × Value → H} {P : Program} {W : World} {base t : Nat} {k : IntKind} {v : Value} {d : DataW H} {p : List MemPlace} (ht : P.underlying t = some (.int k))
    (hv : Value.okWide P W .any base t v) (hj : DataW.Trod enc P W 0 (fun _ => true) true t v d p) : ∃ a, v = .int k a ∧ (Lit.int k a).wf = true := by
  obtain ⟨a, h1, _, _, h2⟩ := open_int ht hv hj
  exact ⟨a, h1, h2⟩
theorem opn_bool {H : Type} {enc : TypeId × Value → H} {P : Program} {W : World} {base t : Nat} {v : Value} {d : DataW H} {p : List MemPlace} (ht : P.underlying t = some .bool)
    (hv : Value.okWide P W .any base t v) (hj : DataW.Trod enc P W 0 (fun _ => true) true t v d p) : ∃ a, v = .bool a := by
  obtain ⟨a, h1, _, _⟩ := open_bool ht hv hj
  exact ⟨a, h1⟩
theorem opn_string {H : Type} {enc : TypeId × Value → H} {P : Program} {W : World} {base t j : Nat} {v : Value} {d : DataW H} {p : List MemPlace} {ts : List TypeId} {ds : List (DataW H)} (ht : P.underlying t = some .string)
    (hv : Value.okWide P W .any base t v) (hj : DataW.Trod enc P W 0 (fun _ => true) true t v d p) (hsz : (DataW.weightsEach P ts ds).all (· ≤ reachBytes) = true) (h1 : ts[j]? = some t) (h2 : ds[j]? = some d) :
    ∃ s : ByteArray, v = .string s ∧ s.size ≤ 140737488351232 := by
  obtain ⟨s, g1, g2, _, _⟩ := Go.ChangeMaps.open_string ht hv hj
  subst g2
  have := sized_string hsz h1 h2
  exact ⟨s, g1, by simpa [reachBytes] using this⟩

/-- The values of a slice of bytes. -/
theorem rd_of_ints {W : World} {a : Addr} {zs : List Int} {len : Nat} (hl : len ≤ zs.length) (hcell : ∀ i, i < zs.length → W.cell? (a.add i) = some (.int .u8 (zs.getD i 0))) (hwz : ∀ n ∈ zs, (Lit.int .u8 n).wf = true) :
    ∃ bs : List UInt8, bs.length = len ∧ Rd W (some a) (bs.map bv) := by
  refine ⟨(zs.take len).map (fun z => UInt8.ofNat z.toNat), by simp; omega, ?_⟩
  rcases Nat.eq_zero_or_pos len with h0 | h0
  · subst h0; exact .inl (by simp)
  · obtain ⟨b, off, spot⟩ := a
    have h1 := hcell 0 (by omega)
    have hs : spot = none := by simpa [Addr.add] using World.cell?_spot h1
    subst hs
    refine .inr ⟨b, off, rfl, ?_, fun k hk => ?_⟩
    · exact World.block_lt_of_cell? W ⟨b, off, none⟩ (by simpa [Addr.add] using h1)
    · have hk' : k < zs.length := by simp at hk; omega
      have h2 := hcell k hk'
      rw [Addr.add_lit] at h2
      rw [h2]
      have hb := bounds_u8 (hwz zs[k] (List.getElem_mem hk'))
      simp only [List.getElem_map, List.getElem_take, bv, List.getD_eq_getElem?_getD, List.getElem?_eq_getElem hk', Option.getD_some, UInt8.toNat_ofNat']
      congr 2
      omega

theorem opn_bytes {H : Type} {enc : TypeId × Value → H} {P : Program} {W : World} {base t e j : Nat} {v : Value} {d : DataW H} {p : List MemPlace} {ts : List TypeId} {ds : List (DataW H)} (ht : P.underlying t = some (.slice e)) (he : P.underlying e = some (.int .u8)) (hc : P.cellsOf e = 1) (hb : P.bytesOf e = 1)
    (hv : Value.okWide P W .any base t v) (hj : DataW.Trod enc P W 0 (fun _ => true) true t v d p) (hsz : (DataW.weightsEach P ts ds).all (· ≤ reachBytes) = true) (h1 : ts[j]? = some t) (h2 : ds[j]? = some d) :
    ∃ (A : Option Addr) (n c : Nat) (bs : List UInt8), v = .slice A n c ∧ bs.length = n ∧ Rd W A (bs.map bv) ∧ n ≤ c ∧ c ≤ maxLen ∧ n ≤ 140737488351232 := by
  obtain ⟨a0, len, cap, rfl⟩ := okWide_slice ht hv
  obtain ⟨fuel, hf⟩ := hj
  rcases open_ints ht he hc hf with ⟨hcs, _⟩ | ⟨x, l, c, zs, hcs, _, hl, hm, hz, hx, hcell, hwz⟩
  · simp [Value.cells] at hcs
    obtain ⟨rfl, rfl, rfl⟩ := hcs
    exact ⟨none, 0, 0, [], rfl, rfl, .inl rfl, Nat.le_refl _, Nat.zero_le _, by decide⟩
  · simp [Value.cells] at hcs
    obtain ⟨rfl, rfl, rfl⟩ := hcs
    simp only [Prod.mk.injEq] at hx
    obtain ⟨rfl, _⟩ := hx
    simp only [if_true] at hz
    have hs := sized_slice hsz h1 h2 ht
    rw [hb] at hs
    simp only [lits, List.length_map, List.length_take, List.length_drop, reachBytes] at hs
    obtain ⟨bs, g1, g2⟩ := rd_of_ints (len := len) (by omega) hcell hwz
    exact ⟨some x, len, cap, bs, rfl, g1, g2, hl, hm, by omega⟩

theorem list_of_all {α : Type} {Q : Nat → α → Prop} (n : Nat) (h : ∀ i, i < n → ∃ x, Q i x) : ∃ l : List α, l.length = n ∧ ∀ i (hi : i < l.length), Q i l[i] := by
  induction n with
  | zero => exact ⟨[], rfl, fun i hi => absurd hi (by simp)⟩
  | succ n ih =>
    obtain ⟨l, h1, h2⟩ := ih (fun i hi => h i (by omega))
    obtain ⟨x, hx⟩ := h n (by omega)
    refine ⟨l ++ [x], by simp [h1], fun i hi => ?_⟩
    rcases Nat.lt_or_ge i l.length with hlt | hge
    · rw [List.getElem_append_left hlt]; exact h2 i hlt
    · have : i = n := by simp at hi; omega
      subst this
      rw [List.getElem_append_right hge]
      simpa using hx

/-- A pair of ints by value. -/
theorem opn_pair {H : Type} {enc : TypeId × Value → H} {P : Program} {W : World} {base t : Nat} {f0 f1 : Field} {v : Value} {d : DataW H} {p : List MemPlace} (hs : P.underlying t = some (.struct #[f0, f1])) (hone : Deep.oneCellFields P #[f0, f1] = true) (hC : P.cellsOf t = 2)
    (h0 : P.underlying f0.type = some (.int .i64)) (h1 : P.underlying f1.type = some (.int .i64))
    (hv : Value.okWide P W .any base t v) (hj : DataW.Trod enc P W 0 (fun _ => true) true t v d p) : ∃ a b : Int, v = .agg #[.int .i64 a, .int .i64 b] ∧ ((Lit.int .i64 a).wf = true ∧ (Lit.int .i64 b).wf = true) := by
  obtain ⟨v0, v1, y0, y1, n, rfl, _, _, g0, g1⟩ := Joins.open_agg2 hs hone hC hv hj
  obtain ⟨a, e0, _, wa⟩ := DataW.trod_int h0 g0
  obtain ⟨b, e1, _, wb⟩ := DataW.trod_int h1 g1
  simp at e0 e1
  subst e0 e1
  exact ⟨a, b, rfl, wa, wb⟩

/-- The address reads as these pairs. -/
def RdP (w : World) (A : Option Addr) (zs : List (Int × Int)) : Prop :=
  zs = [] ∨ ∃ b off, A = some ⟨b, off, none⟩ ∧ b < w.heap.size ∧ ∀ k (h : k < zs.length), w.cell? ⟨b, off + k * 2, none⟩ = some (.int .i64 zs[k].1) ∧ w.cell? ⟨b, off + k * 2 + 1, none⟩ = some (.int .i64 zs[k].2)
theorem RdP.below {w w' : World} {A : Option Addr} {zs : List (Int × Int)} (h : RdP w A zs) (hb : Below w.heap.size w w') : RdP w' A zs := by
  rcases h with h | ⟨b, off, hA, hlt, hc⟩
  · exact .inl h
  · exact .inr ⟨b, off, hA, Nat.lt_of_lt_of_le hlt hb.size, fun k hk => ⟨(hb.cell (p := ⟨b, _, none⟩) hlt).trans (hc k hk).1, (hb.cell (p := ⟨b, _, none⟩) hlt).trans (hc k hk).2⟩⟩

theorem opn_pairs {H : Type} {enc : TypeId × Value → H} {P : Program} {W : World} {base t e j : Nat} {f0 f1 : Field} {v : Value} {d : DataW H} {p : List MemPlace} {ts : List TypeId} {ds : List (DataW H)} (ht : P.underlying t = some (.slice e)) (hs : P.underlying e = some (.struct #[f0, f1])) (hone : Deep.oneCellFields P #[f0, f1] = true) (hC : P.cellsOf e = 2) (hB : P.bytesOf e = 16)
    (h0 : P.underlying f0.type = some (.int .i64)) (h1 : P.underlying f1.type = some (.int .i64)) (_ : True)
    (hv : Value.okWide P W .any base t v) (hj : DataW.Trod enc P W 0 (fun _ => true) true t v d p) (hsz : (DataW.weightsEach P ts ds).all (· ≤ reachBytes) = true) (k1 : ts[j]? = some t) (k2 : ds[j]? = some d) :
    ∃ (A : Option Addr) (n c : Nat) (zs : List (Int × Int)), v = .slice A n c ∧ (zs.length = n ∧ RdP W A zs ∧ n ≤ c ∧ c ≤ maxLen ∧ n * 16 ≤ 140737488351232 ∧ ∀ z ∈ zs, (Lit.int .i64 z.1).wf = true ∧ (Lit.int .i64 z.2).wf = true) := by
  obtain ⟨a0, len, cap, rfl⟩ := okWide_slice ht hv
  obtain ⟨fuel, hf⟩ := hj
  rcases Deep.open_slice ht hf with ⟨hcs, _⟩ | ⟨a, l, c, m, n, D, Pl, hcs, _, hl, hm, hmm, hx, hcell⟩
  · simp [Value.cells] at hcs
    obtain ⟨rfl, rfl, rfl⟩ := hcs
    exact ⟨none, 0, 0, [], rfl, rfl, .inl rfl, Nat.le_refl _, Nat.zero_le _, by decide, by simp⟩
  · simp [Value.cells] at hcs
    obtain ⟨rfl, rfl, rfl⟩ := hcs
    simp only [if_true] at hmm
    subst hmm
    simp only [Prod.mk.injEq] at hx
    obtain ⟨rfl, _⟩ := hx
    have hb := sized_slice hsz k1 k2 ht
    rw [hB] at hb
    simp only [List.length_map, List.length_range, reachBytes] at hb
    obtain ⟨o0, o1⟩ := (⟨Deep.hone_of hone 0 f0 rfl, Deep.hone_of hone 1 f1 rfl⟩ : _ ∧ _)
    have each : ∀ i, i < len → ∃ z : Int × Int, (W.cell? (a.add (i * 2)) = some (.int .i64 z.1) ∧ W.cell? ((a.add (i * 2)).add 1) = some (.int .i64 z.2)) ∧ (Lit.int .i64 z.1).wf = true ∧ (Lit.int .i64 z.2).wf = true := by
      intro i hi
      obtain ⟨cs', g1, g2⟩ := hcell i (by omega)
      rw [hC] at g1
      obtain ⟨_, hlen, hg⟩ := World.cells?_some g1
      obtain ⟨y0, y1, m, _, _, t0, t1⟩ := trod_struct2 hs g2
      match cs', hlen with
      | [u0, u1], _ =>
        rw [o0.1, o0.2] at t0
        rw [o1.1, o1.2] at t1
        obtain ⟨x0, e0, _, wa⟩ := DataW.trod_int h0 t0
        obtain ⟨x1, e1, _, wb⟩ := DataW.trod_int h1 t1
        simp at e0 e1
        subst e0 e1
        have c0 := hg 0 (by decide)
        have c1 := hg 1 (by decide)
        exact ⟨(x0, x1), ⟨by simpa [Addr.add] using c0, by simpa using c1⟩, wa, wb⟩
    obtain ⟨zs, hz1, hz2⟩ := list_of_all len each
    refine ⟨some a, len, _, zs, rfl, hz1, ?_, hl, hm, by omega, fun z hz => ?_⟩
    · rcases Nat.eq_zero_or_pos len with h0 | h0
      · left; exact List.eq_nil_of_length_eq_zero (by omega)
      · obtain ⟨b, off, spot⟩ := a
        have hz0 := (hz2 0 (by omega)).1.1
        have hsp : spot = none := by simpa [Addr.add] using World.cell?_spot hz0
        subst hsp
        refine .inr ⟨b, off, rfl, World.block_lt_of_cell? W ⟨b, off, none⟩ (by simpa [Addr.add] using hz0), fun k hk => ?_⟩
        have := (hz2 k hk).1
        simpa [Addr.add_lit] using this
    · obtain ⟨i, hi, rfl⟩ := List.mem_iff_getElem.1 hz
      exact (hz2 i hi).2
end Go.Proofs.Ytgnciejbhaebeaa

/- How a law's argument is opened: a slice of slices of bytes; a slice of ints. Conditions: none. -/
namespace Go.Proofs.Ytgnciejbhaebeaa
open Go Go.RowKit Go.ChangeShapes Go.WideShapes

theorem weightsAll_mem {H : Type} {P : Program} {e : TypeId} : ∀ {l : List (DataW H)} {d : DataW H}, d ∈ l → ∀ n ∈ d.weights P e, n ∈ DataW.weightsAll P e l
  | d' :: r, d, hd, n, hn => by
    simp only [DataW.weightsAll, List.mem_append]
    rcases List.mem_cons.1 hd with rfl | h
    · exact Or.inl hn
    · exact Or.inr (weightsAll_mem h n hn)
theorem sized_inner {H : Type} {P : Program} {ts : List TypeId} {ds : List (DataW H)} (h : (DataW.weightsEach P ts ds).all (· ≤ reachBytes) = true) {j : Nat} {t e q : TypeId} {elems spare e' sp' : List (DataW H)}
    (ht : ts[j]? = some t) (hd : ds[j]? = some (.slice elems spare)) (hu : P.underlying t = some (.slice e)) (hu2 : P.underlying e = some (.slice q)) (hx : DataW.slice e' sp' ∈ elems) : (e'.length + sp'.length) * P.bytesOf q ≤ reachBytes := by
  refine of_decide_eq_true (List.all_eq_true.1 h _ (DataW.weights_mem_each ht hd _ ?_))
  simp only [DataW.weights, hu, List.mem_cons, List.mem_append]
  exact Or.inr (Or.inl (weightsAll_mem hx _ (by simp [DataW.weights, hu2])))

theorem opn_bytess {H : Type} {enc : TypeId × Value → H} {P : Program} {W : World} {base t e q j : Nat} {v : Value} {d : DataW H} {p : List MemPlace} {ts : List TypeId} {ds : List (DataW H)} (ht : P.underlying t = some (.slice e)) (he : P.underlying e = some (.slice q)) (hq : P.underlying q = some (.int .u8))
    (ce : P.cellsOf e = 1) (be : P.bytesOf e = 24) (cq : P.cellsOf q = 1) (bq : P.bytesOf q = 1)
    (hv : Value.okWide P W .any base t v) (hj : DataW.Trod enc P W 0 (fun _ => true) true t v d p) (hsz : (DataW.weightsEach P ts ds).all (· ≤ reachBytes) = true) (k1 : ts[j]? = some t) (k2 : ds[j]? = some d) :
    ∃ (A : Option Addr) (n c : Nat) (bss : List (List UInt8)), v = .slice A n c ∧ (bss.length = n ∧ RdS W A bss ∧ n ≤ c ∧ c ≤ maxLen ∧ n * 24 ≤ 140737488351232 ∧ ∀ b ∈ bss, b.length ≤ 140737488351232) := by
  obtain ⟨a0, len, cap, rfl⟩ := okWide_slice ht hv
  obtain ⟨fuel, hf⟩ := hj
  rcases Deep.open_int_rows ht he hq ce cq hf with ⟨hcs, _⟩ | ⟨a, l, c, A, L, C, Z, hcs, _, hl, hm, hx, hcell⟩
  · simp [Value.cells] at hcs
    obtain ⟨rfl, rfl, rfl⟩ := hcs
    exact ⟨none, 0, 0, [], rfl, rfl, .inl rfl, Nat.le_refl _, Nat.zero_le _, by decide, by simp⟩
  · simp [Value.cells] at hcs
    obtain ⟨rfl, rfl, rfl⟩ := hcs
    simp only [Prod.mk.injEq] at hx
    obtain ⟨rfl, _⟩ := hx
    have hb := sized_slice hsz k1 k2 ht
    rw [be] at hb
    simp only [List.length_map, List.length_range, reachBytes] at hb
    have each : ∀ i, i < len → ∃ b : List UInt8, b.length = L i ∧ Rd W (A i) (b.map bv) ∧ b.length ≤ 140737488351232 := by
      intro i hi
      obtain ⟨g1, g2, g3, g4, g5, g6, g7⟩ := hcell i (by omega)
      cases hA : A i with
      | none =>
        have h0 := g6 hA
        exact ⟨[], by simp; omega, .inl rfl, by simp⟩
      | some a' =>
        obtain ⟨_, h2⟩ := g7 a' hA
        obtain ⟨bs, h3, h4⟩ := rd_of_ints (W := W) (a := a') (zs := Z i) (len := L i) (by omega) (fun k hk => h2 k (by omega)) g5
        refine ⟨bs, h3, h4, ?_⟩
        have hmem : DataW.slice (lits (H := H) .u8 ((Z i).take (L i))) (lits .u8 ((Z i).drop (L i))) ∈ (List.range len).map (fun r => Deep.intRow (H := H) .u8 (A r) (L r) (Z r)) := by
          refine List.mem_map.2 ⟨i, List.mem_range.2 hi, ?_⟩
          simp [Deep.intRow, hA]
        have h5 := sized_inner hsz k1 k2 ht he hmem
        rw [bq] at h5
        simp only [lits, List.length_map, List.length_take, List.length_drop, reachBytes] at h5
        omega
    obtain ⟨bss, z1, z2⟩ := list_of_all len each
    refine ⟨some a, len, _, bss, rfl, z1, ?_, hl, hm, by omega, fun b hb' => ?_⟩
    · rcases Nat.eq_zero_or_pos len with h0 | h0
      · left; exact List.eq_nil_of_length_eq_zero (by omega)
      · obtain ⟨b, off, spot⟩ := a
        have hz0 := (hcell 0 (by omega)).1
        have hsp : spot = none := by simpa [Addr.add] using World.cell?_spot hz0
        subst hsp
        refine .inr ⟨b, off, rfl, World.block_lt_of_cell? W ⟨b, off, none⟩ (by simpa [Addr.add] using hz0), fun k hk => ?_⟩
        obtain ⟨g1, g2, g3, _⟩ := hcell k (by omega)
        obtain ⟨z3, z4, _⟩ := z2 k hk
        rw [Addr.add_lit] at g1
        exact ⟨A k, C k, by rw [z3]; exact g1, z4, by rw [z3]; exact g2, g3⟩
    · obtain ⟨i, hi, rfl⟩ := List.mem_iff_getElem.1 hb'
      exact (z2 i hi).2.2

/-- The address reads as these ints. -/
def RdI (w : World) (A : Option Addr) (zs : List Int) : Prop :=
  zs = [] ∨ ∃ b off, A = some ⟨b, off, none⟩ ∧ b < w.heap.size ∧ ∀ k (h : k < zs.length), w.cell? ⟨b, off + k, none⟩ = some (.int .i64 zs[k])
theorem RdI.below {w w' : World} {A : Option Addr} {zs : List Int} (h : RdI w A zs) (hb : Below w.heap.size w w') : RdI w' A zs := by
  rcases h with h | ⟨b, off, hA, hlt, hc⟩
  · exact .inl h
  · exact .inr ⟨b, off, hA, Nat.lt_of_lt_of_le hlt hb.size, fun k hk => (hb.cell (p := ⟨b, _, none⟩) hlt).trans (hc k hk)⟩
theorem RdI.addr {w : World} {A : Option Addr} {zs : List Int} (h : RdI w A zs) (h0 : 0 < zs.length) : ∃ b off, A = some ⟨b, off, none⟩ ∧ b < w.heap.size ∧ ∀ k (h : k < zs.length), w.cell? ⟨b, off + k, none⟩ = some (.int .i64 zs[k]) := by
  rcases h with rfl | h
  · simp at h0
  · exact h
theorem opn_ints {H : Type} {enc : TypeId × Value → H} {P : Program} {W : World} {base t e j : Nat} {v : Value} {d : DataW H} {p : List MemPlace} {ts : List TypeId} {ds : List (DataW H)} (ht : P.underlying t = some (.slice e)) (he : P.underlying e = some (.int .i64)) (hc : P.cellsOf e = 1) (hb : P.bytesOf e = 8)
    (hv : Value.okWide P W .any base t v) (hj : DataW.Trod enc P W 0 (fun _ => true) true t v d p) (hsz : (DataW.weightsEach P ts ds).all (· ≤ reachBytes) = true) (h1 : ts[j]? = some t) (h2 : ds[j]? = some d) :
    ∃ (A : Option Addr) (n c : Nat) (zs : List Int), v = .slice A n c ∧ (zs.length = n ∧ RdI W A zs ∧ n ≤ c ∧ c ≤ maxLen ∧ n * 8 ≤ 140737488351232 ∧ ∀ z ∈ zs, (Lit.int .i64 z).wf = true) := by
  obtain ⟨a0, len, cap, rfl⟩ := okWide_slice ht hv
  obtain ⟨fuel, hf⟩ := hj
  rcases open_ints ht he hc hf with ⟨hcs, _⟩ | ⟨x, l, c, zs, hcs, _, hl, hm, hz, hx, hcell, hwz⟩
  · simp [Value.cells] at hcs
    obtain ⟨rfl, rfl, rfl⟩ := hcs
    exact ⟨none, 0, 0, [], rfl, rfl, .inl rfl, Nat.le_refl _, Nat.zero_le _, by decide, by simp⟩
  · simp [Value.cells] at hcs
    obtain ⟨rfl, rfl, rfl⟩ := hcs
    simp only [Prod.mk.injEq] at hx
    obtain ⟨rfl, _⟩ := hx
    simp only [if_true] at hz
    have hs := sized_slice hsz h1 h2 ht
    rw [hb] at hs
    simp only [lits, List.length_map, List.length_take, List.length_drop, reachBytes] at hs
    refine ⟨some x, len, cap, zs.take len, rfl, by simp; omega, ?_, hl, hm, by omega, fun z hz' => hwz z (List.mem_of_mem_take hz')⟩
    rcases Nat.eq_zero_or_pos len with h0 | h0
    · subst h0; exact .inl (by simp)
    · obtain ⟨b, off, spot⟩ := x
      have h1 := hcell 0 (by omega)
      have hs : spot = none := by simpa [Addr.add] using World.cell?_spot h1
      subst hs
      refine .inr ⟨b, off, rfl, World.block_lt_of_cell? W ⟨b, off, none⟩ (by simpa [Addr.add] using h1), fun k hk => ?_⟩
      have hk' : k < zs.length := by simp at hk; omega
      have h2 := hcell k hk'
      rw [Addr.add_lit] at h2
      rw [h2]
      simp [hk']
end Go.Proofs.Ytgnciejbhaebeaa

/- What the inner function of mac.coder and mac.Code answer. Conditions: the table stands; lengths that fit. -/
namespace Go.Proofs.Ytgnciejbhaebeaa
open Go Go.RowKit
attribute [local go_sem] wv_store bv_store bv_cells no_cells bv_cellsOf

theorem SlL.append {w : World} {a b : List Value} {x y : List (List UInt8)} (h : SlL w a x) (k : SlL w b y) : SlL w (a ++ b) (x ++ y) := by
  refine ⟨by rw [List.length_append, List.length_append, h.1, k.1], fun j g1 g2 => ?_⟩
  rcases Nat.lt_or_ge j a.length with hj | hj
  · obtain ⟨A, c, q1, q2, q3, q4⟩ := h.2 j hj (by have := h.1; omega)
    rw [List.getElem_append_left hj, List.getElem_append_left (by have := h.1; omega)]
    exact ⟨A, c, q1, q2, q3, q4⟩
  · have hx : x.length ≤ j := by have := h.1; omega
    rw [List.getElem_append_right hj, List.getElem_append_right hx]
    have e : j - a.length = j - x.length := by have := h.1; omega
    obtain ⟨A, c, q⟩ := k.2 (j - x.length) (by rw [List.length_append] at g1; have := h.1; omega) (by rw [List.length_append] at g2; omega)
    refine ⟨A, c, ?_⟩
    simp only [e]
    exact q
theorem RdS.sll {w : World} {A : Option Addr} {bss : List (List UInt8)} (h : RdS w A bss) : ∃ vs, Rd w A vs ∧ SlL w vs bss ∧ ∀ u ∈ vs, u.oneCell' = true := by
  rcases h with rfl | ⟨b, off, rfl, hlt, hc⟩
  · exact ⟨[], .inl rfl, SlL.nil_ w, by simp⟩
  · obtain ⟨vs, h1, h2⟩ := list_of_all (Q := fun k u => ∃ h : k < bss.length, w.cell? ⟨b, off + k, none⟩ = some u ∧ ∃ Ak ck, u = .slice Ak bss[k].length ck ∧ Rd w Ak (bss[k].map bv) ∧ bss[k].length ≤ ck ∧ ck ≤ maxLen) bss.length (fun k hk => by
      obtain ⟨Ak, ck, g1, g2⟩ := hc k hk
      exact ⟨_, hk, g1, Ak, ck, rfl, g2⟩)
    refine ⟨vs, .inr ⟨b, off, rfl, hlt, fun k hk => ?_⟩, ⟨h1, fun j g1 g2 => ?_⟩, fun u hu => ?_⟩
    · obtain ⟨_, g, _⟩ := h2 k hk
      exact g
    · obtain ⟨_, _, Ak, ck, q⟩ := h2 j g1
      exact ⟨Ak, ck, q⟩
    · obtain ⟨i, hi, rfl⟩ := List.mem_iff_getElem.1 hu
      obtain ⟨_, _, Ak, ck, q, _⟩ := h2 i hi
      rw [q]; rfl

end Go.Proofs.Ytgnciejbhaebeaa

/- A relation for slices of slices laid as arguments; a cut whose bound is a number. Conditions: the bound lies in the slice. -/
namespace Go.Proofs.Ytgnciejbhaebeaa
open Go Go.RowKit

/-- A slice of n slices of these bytes. -/
def Rl.rds (n : Nat) (bss : List (List UInt8)) : Rl := ⟨fun w v => ∃ X, v = .slice X n n ∧ RdS w X bss, fun ⟨X, h, r⟩ hb => ⟨X, h, r.below hb⟩⟩
theorem cutFrom (w0 : World) (A : Option Addr) (m c k : Nat) (l : List UInt8) (hl : l.length = m) (hr : Rd w0 A (l.map bv)) (hk : k ≤ m) (hm : m ≤ c) :
    ∃ A' c', Hid (∀ w, (Sem.run Try.prog (Instr.sliceAt 27 (.slice A m c) (some (.int .i64 (k : Int))) none none) w) = Result.ok (Value.slice A' (m - k) c') w) ∧ Rd w0 A' ((l.drop k).map bv) ∧ m - k ≤ c' ∧ c' ≤ c := by
  have hk' : (k : Int) ≤ (m : Int) := by omega
  have hc := hr.cut (k := k) (n := m) (c := c) (by rw [List.length_map]; exact hl) hk hm
  rw [← List.map_drop] at hc
  refine ⟨_, c - k, Lib.hid (fun w => ?_), hc, by omega, by omega⟩
  go_simp
theorem rds_lit (w : World) (xs : List (Option Addr × Nat × Nat)) (bss : List (List UInt8)) (n : Nat) (hn : bss.length = n) (hl : xs.length = bss.length) (h : ∀ x ∈ xs.zip bss, x.2.length = x.1.2.1 ∧ Rd w x.1.1 (x.2.map bv) ∧ x.1.2.1 ≤ x.1.2.2 ∧ x.1.2.2 ≤ maxLen) :
    (Rl.rds n bss).R (w.alloc (.cells (xs.map fun x => .slice x.1 x.2.1 x.2.2).toArray 27)) (.slice (some ⟨w.heap.size, 0, none⟩) n n) :=
  ⟨_, rfl, RdS_lit w xs bss 27 hl h⟩
end Go.Proofs.Ytgnciejbhaebeaa
