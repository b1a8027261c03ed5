/- What the reference's Copy answers of events: the same events in memory of one's own. Conditions: events that can be read; lengths that fit. -/
import Derived.Test.YtgnciejbhaebeaaKe6
namespace Go.Proofs.Ytgnciejbhaebeaa
open Go Go.RowKit

/-- k of them are copied. -/
def Cq (w : World) (B g n c : Nat) (es : List Ev) (k : Nat) (d : Option EvV) : Prop :=
  ∃ ds' : List EvV, ds'.length = n ∧ OwnV w B (.slice (some ⟨g, 0, none⟩) n c) ds' ∧ (∀ i (h1 : i < ds'.length) (h2 : i < es.length), i < k → EvO (g < ·) w ds'[i] es[i]) ∧ ∀ (h : k < ds'.length) d', d = some d' → ds'[k] = d'
theorem Cq.below {w w' : World} {B g n c k : Nat} {es : List Ev} {d : Option EvV} (h : Cq w B g n c es k d) (hb : Below w.heap.size w w') : Cq w' B g n c es k d := by
  obtain ⟨ds', h1, h2, h3, h4⟩ := h
  exact ⟨ds', h1, h2.below hb, fun i g1 g2 g3 => (h3 i g1 g2 g3).frame (fun q _ hq => hb.block q hq), h4⟩
theorem Cq.setAll {w : World} {B g n c k : Nat} {es : List Ev} {d0 : Option EvV} (h : Cq w B g n c es k d0) (hk : k < n) (d : EvV) :
    Cq (((((w.setCell ⟨g, k * 5, none⟩ (.int .i64 d.k)).setCell ⟨g, k * 5 + 1, none⟩ (.slice d.A d.n d.c)).setCell ⟨g, k * 5 + 2, none⟩ (.int .i64 d.x)).setCell ⟨g, k * 5 + 3, none⟩ (.int .i64 d.y)).setCell ⟨g, k * 5 + 4, none⟩ (.int .i64 d.b)) B g n c es k (some d) := by
  obtain ⟨ds', h1, h2, h3, _⟩ := h
  refine ⟨_, by rw [List.length_set]; exact h1, h2.setAll k (by omega) d, fun i g1 g2 g3 => ?_, fun _ d' e => ?_⟩
  · rw [List.getElem_set, if_neg (by omega)]
    refine (h3 i _ _ g3).frame (fun q hq _ => ?_)
    have hq' : q ≠ g := by have : g < q := hq; omega
    rw [heap_far _ hq', heap_far _ hq', heap_far _ hq', heap_far _ hq', heap_far _ hq']
  · injection e with e
    subst e
    rw [List.getElem_set, if_pos rfl]
theorem Cq.put {w : World} {B g n c k : Nat} {es : List Ev} {d : EvV} (h : Cq w B g n c es k (some d)) (hk : k < n) (A' : Option Addr) (n' c' : Nat)
    (ht : ∀ (h2 : k < es.length), EvO (g < ·) w (d.txt A' n' c') es[k]) : Cq (w.setCell ⟨g, k * 5 + 1, none⟩ (.slice A' n' c')) B g n c es (k + 1) none := by
  obtain ⟨ds', h1, h2, h3, h4⟩ := h
  have far : ∀ {d : EvV} {e : Ev}, EvO (g < ·) w d e → EvO (g < ·) (w.setCell ⟨g, k * 5 + 1, none⟩ (.slice A' n' c')) d e := fun h => h.frame (fun q hq _ => heap_far _ (by have : g < q := hq; show q ≠ g; omega))
  have e := h4 (by omega) d rfl
  refine ⟨_, by rw [List.length_set]; exact h1, h2.setT k (by omega) A' n' c', fun i g1 g2 g3 => ?_, fun _ d' e => by cases e⟩
  rw [List.getElem_set]
  split
  · rename_i hki
    subst hki
    rw [e]
    exact far (ht _)
  · exact far (h3 i _ _ (by omega))
theorem Cq.cell {w : World} {B g n c k : Nat} {es : List Ev} {d : Option EvV} (h : Cq w B g n c es k d) (j : Nat) (hj : j < n) :
    ∃ u0 u1 u2 u3 u4, w.cell? ⟨g, j * 5, none⟩ = some u0 ∧ w.cell? ⟨g, j * 5 + 1, none⟩ = some u1 ∧ w.cell? ⟨g, j * 5 + 2, none⟩ = some u2 ∧ w.cell? ⟨g, j * 5 + 3, none⟩ = some u3 ∧ w.cell? ⟨g, j * 5 + 4, none⟩ = some u4 := by
  obtain ⟨ds', h1, h2, _⟩ := h
  obtain ⟨a0, a1, a2, a3, a4⟩ := h2.five j (by omega)
  exact ⟨_, _, _, _, _, a0, a1, a2, a3, a4⟩
theorem Cq.free {w : World} {B g n c k : Nat} {es : List Ev} {d : Option EvV} (h : Cq w B g n c es k d) (j : Nat) : w.frozen? ⟨g, j, none⟩ = false := by
  obtain ⟨ds', _, h2, _⟩ := h
  exact h2.free j
theorem Cq.out {w : World} {B g n c : Nat} {es : List Ev} {d : Option EvV} (h : Cq w B g n c es n d) (hes : es.length = n) : ∃ ds', EvsO (B ≤ ·) w (.slice (some ⟨g, 0, none⟩) n c) ds' es := by
  obtain ⟨ds', h1, h2, h3, h4⟩ := h
  have hg := h2.len.2.2.2.1
  refine ⟨ds', by omega, h2.low (Nat.zero_le _), fun k e => ?_, fun i g1 g2 => (h3 i g1 g2 (by omega)).weak (fun q hq _ => by have : g < q := hq; show B ≤ q; omega)⟩
  injection e with e
  subst e
  exact hg

set_option maxRecDepth 100000 in
set_option maxHeartbeats 2000000 in
theorem Copy24_c (ok : Nat → Prop) (A : Option Addr) (n c : Nat) (ds : List EvV) (es : List Ev) (w : World) (hn : es.length = n) (hr : EvsR ok w A ds es) (hl : n ≤ 2513169434916) :
    Calls Try.prog 18 #[.slice A n c] w fun r w' => ∃ v ds', r = .returned v ∧ EvsO (w.heap.size ≤ ·) w' v ds' es ∧ Below w.heap.size w w' := by
  have HN := Lib.hid hn; clear hn
  go_enter Try.func18, Try.ntmps18
  go_wp2_with (first | (at_make; refine wpList_makeV _ rfl (.tmp 6) (.tmp 6) rfl _ _ _ _ n rfl rfl rfl rfl hl ?_))
  intro w1 ho1 hb1 _
  have hcl : Cq w1 w.heap.size w.heap.size n n es 0 none := ⟨_, List.length_replicate, ho1, fun i _ _ h => absurd h (by omega), fun _ _ e => by cases e⟩
  have HC := Lib.hid hcl; clear hcl
  have hbw : w.heap.size < w1.heap.size := ho1.len.2.2.2.2
  clear ho1
  go_wp2_with (fail)
  go_loopw [10] (fun i wr => ∃ k : Nat, k ≤ n ∧ i = .int .i64 k ∧ Hid (Cq wr w.heap.size w.heap.size n n es k none) ∧ Below w.heap.size w wr ∧ w.heap.size < wr.heap.size) (fun i _ => n - (intOf i).toNat)
  case atStart => exact ⟨0, Nat.zero_le _, rfl, HC, hb1, hbw⟩
  case round =>
    clear HC hb1 hbw
    obtain ⟨k, hk, rfl, HC, kb, hbw⟩ := hrel
    rcases Nat.lt_or_ge k n with hlt | hge
    · obtain ⟨e, b1, o1, At, m, cm, ee, rfl, hb1, -, tt, c0, ca, cb, cc, cd⟩ := hr.at_ k (by rw [HN.out]; exact hlt)
      obtain ⟨t1, t2, t3, t4, -, t5⟩ := tt
      obtain ⟨z0, t, z2, z3, z4⟩ := e
      simp only at c0 ca cb cc cd t1 t2
      rw [← kb.cell (p := ⟨b1, _, none⟩) hb1] at c0 ca cb cc cd
      have T1 := Lib.hid t1; clear t1
      have EE := Lib.hid ee; clear ee
      obtain ⟨u0, u1, u2, u3, u4, f0, f1, f2, f3, f4⟩ := HC.out.cell k hlt
      have fr0 := HC.out.free (k * 5)
      have fr1 := HC.out.free (k * 5 + 1)
      have fr2 := HC.out.free (k * 5 + 2)
      have fr3 := HC.out.free (k * 5 + 3)
      have fr4 := HC.out.free (k * 5 + 4)
      have hne : b1 ≠ w.heap.size := by omega
      have hlt' : (k : Int) < (n : Int) := by omega
      obtain ⟨w2, ew2, hq2, kb2⟩ : ∃ w2, w2 = ((((wr.setCell ⟨w.heap.size, k * 5, none⟩ (.int .i64 z0)).setCell ⟨w.heap.size, k * 5 + 1, none⟩ (.slice At m cm)).setCell ⟨w.heap.size, k * 5 + 2, none⟩ (.int .i64 z2)).setCell ⟨w.heap.size, k * 5 + 3, none⟩ (.int .i64 z3)).setCell ⟨w.heap.size, k * 5 + 4, none⟩ (.int .i64 z4) ∧
          Cq w2 w.heap.size w.heap.size n n es k (some ⟨z0, At, m, cm, z2, z3, z4⟩) ∧ Below w.heap.size w w2 ∧ w2.heap.size = wr.heap.size := by
        refine ⟨_, rfl, HC.out.setAll hlt ⟨z0, At, m, cm, z2, z3, z4⟩, ?_, by simp [World.setCell]⟩
        have st : ∀ {wa : World} (j : Nat) (u : Value), Below w.heap.size w wa → Below w.heap.size w (wa.setCell ⟨w.heap.size, j, none⟩ u) := fun j u h => h.grown (only_set w.heap.size j u) h.size (fun q e => by injection e with e; omega)
        exact st _ _ (st _ _ (st _ _ (st _ _ (st _ _ kb))))
      obtain ⟨kb2, sz2⟩ := kb2
      have HQ2 := Lib.hid hq2; clear hq2
      have EW := Lib.hid ew2; clear ew2
      have r2 := t2.below kb2
      go_wp2_with (fail)
      rw [← EW.out]
      clear EW
      refine (Copy_c At m cm t w2 T1.out r2 t5).mono ?_
      rintro r w3 ⟨v3, rfl, ho3, hb3⟩
      obtain ⟨A3, c3, rfl, p1, p2, p3, p4⟩ := OwnB.form ho3
      rw [T1.out] at p1 ho3 ⊢
      have HO3 := Lib.hid ho3; clear ho3
      have HQ3 := Lib.hid (HQ2.out.below hb3)
      have kb3 := kb2.trans (hb3.mono kb2.size)
      have gs := hb3.size
      clear fr0 fr1 fr2 fr3 fr4 f0 f1 f2 f3 f4 c0 ca cb cc cd p3 r2 HQ2 hb3 kb2
      obtain ⟨v0, v1, v2, v3, v4, -, f1, -⟩ := HQ3.out.cell k hlt
      have fr1 := HQ3.out.free (k * 5 + 1)
      go_wp2_with (fail)
      have ho : EvO (w.heap.size < ·) w3 ((⟨z0, At, m, cm, z2, z3, z4⟩ : EvV).txt A3 m c3) (es[k]'(by rw [HN.out]; exact hlt)) := by
        rw [← EE.out]
        exact ⟨rfl, rfl, rfl, rfl, T1.out, Own.low HO3.out (Nat.zero_le _), fun a ea => Nat.lt_of_lt_of_le (by omega) (p4 a ea).1, t5⟩
      have hput := HQ3.out.put hlt A3 m c3 (fun _ => ho)
      have kset := kb3.grown (only_set w.heap.size (k * 5 + 1) (.slice A3 m c3)) kb3.size (fun q e => by injection e with e; omega)
      have hput' := Lib.hid hput
      clear hput ho
      go_roundw
      case rel => exact ⟨k + 1, by omega, by go_num, hput', kset, by show w.heap.size < _; simp [World.setCell]; omega⟩
      case measure => simp [intOf]; omega
    · obtain rfl : n = k := by omega
      go_wp2_with (fail)
      go_ret
      obtain ⟨ds', h1⟩ := HC.out.out HN.out
      exact ⟨_, ds', rfl, h1, kb⟩
end Go.Proofs.Ytgnciejbhaebeaa
