/- What slices.Clone, keys.clone and the reference's Copy answer of events: the same events in memory of one's own. Conditions: events that can be read; lengths that fit. -/
import Derived.Test.YtgnciejbhaebeaaKe5
import Derived.Test.YtgnciejbhaebeaaCp
namespace Go.Proofs.Ytgnciejbhaebeaa
open Go Go.RowKit

set_option maxRecDepth 100000 in
set_option maxHeartbeats 1000000 in
/-- slices.Clone: the same cells in a row of its own. -/
theorem CloneV_c (ok : Nat → Prop) (A : Option Addr) (n c : Nat) (ds : List EvV) (es : List Ev) (w : World) (hn : es.length = n) (hr : EvsR ok w A ds es) (hl : n ≤ 2513169434916) :
    Calls Try.prog 64 #[.slice A n c] w fun r w' => ∃ v, r = .returned v ∧ OwnV w' w.heap.size v ds ∧ Below w.heap.size w w' := by
  have hdn : ds.length = n := hr.len.trans hn
  have HD := Lib.hid hdn; clear hdn
  have HR := Lib.hid hr.row; clear hr hn
  cases A with
  | none =>
    have h0 : ds = [] := by
      rcases HR.out with h | ⟨_, _, h, _⟩
      · have := congrArg List.length h
        rw [cellsV_length] at this
        simp only [List.length_nil] at this
        exact List.eq_nil_of_length_eq_zero (by omega)
      · cases h
    subst h0
    have he : ∀ w : World, (binOp .eql 23 (.slice none n c) (.slice none 0 0)).run Try.prog w = .ok (.bool true) w := fun _ => rfl
    go_enter Try.func64, Try.ntmps64
    go_wp2_with (fail)
    go_ret
    exact ⟨_, rfl, World.ownsRow_nil _ _ _ _, Below.refl _ _⟩
  | some a =>
    have o1 : OwnV (w.alloc (.cells #[] 36)) w.heap.size (.slice (some ⟨w.heap.size, 0, none⟩) 0 0) [] := World.ownsRow_made w #[] 0 (Nat.le_refl _) (Nat.zero_le _) rfl
    have k1 : Below w.heap.size w (w.alloc (.cells #[] 36)) := (Below.refl _ _).alloc (Nat.le_refl _) _
    have O1 := Lib.hid o1; clear o1
    have he : ∀ w : World, (binOp .eql 23 (.slice (some a) n c) (.slice none 0 0)).run Try.prog w = .ok (.bool false) w := fun _ => rfl
    go_enter Try.func64, Try.ntmps64
    go_wp2_with (first | (at_builtin; refine wpList_appV _ rfl (.tmp 5) (.tmp 6) rfl w.heap.size _ [] rfl O1.out (some a) n c ds rfl HD.out (HR.out.below k1) (by simpa using hl) k1.size ?_; intro v2 w2 h2 h3 _; have H2 := Lib.hid h2; clear h2; have k2 := k1.grown h3 k1.size (fun k e => (World.ownsRow.lt O1.out k e).1); clear h3))
    go_ret
    exact ⟨_, rfl, by have := H2.out; simpa using this, k2⟩

/-- k of them have texts of their own. -/
def Cl (w : World) (B g n c : Nat) (ds : List EvV) (es : List Ev) (k : Nat) : Prop :=
  ∃ ds' : List EvV, ds'.length = n ∧ OwnV w B (.slice (some ⟨g, 0, none⟩) n c) ds' ∧ (∀ i (h1 : i < ds'.length) (h2 : i < es.length), i < k → EvO (g < ·) w ds'[i] es[i]) ∧ ∀ i (h1 : i < ds'.length) (h2 : i < ds.length), k ≤ i → ds'[i] = ds[i]
theorem Cl.below {w w' : World} {B g n c k : Nat} {ds : List EvV} {es : List Ev} (h : Cl w B g n c ds es k) (hb : Below w.heap.size w w') : Cl w' B g n c ds es k := by
  obtain ⟨ds', h1, h2, h3, h4⟩ := h
  exact ⟨ds', h1, h2.below hb, fun i g1 g2 g3 => (h3 i g1 g2 g3).frame (fun q _ hq => hb.block q hq), h4⟩
theorem Cl.put {w : World} {B g n c k : Nat} {ds : List EvV} {es : List Ev} (h : Cl w B g n c ds es k) (hds : ds.length = n) (hes : es.length = n) (hk : k < n) (A' : Option Addr) (n' c' : Nat)
    (ht : ∀ (h1 : k < ds.length) (h2 : k < es.length), EvO (g < ·) w (ds[k].txt A' n' c') es[k]) : Cl (w.setCell ⟨g, k * 5 + 1, none⟩ (.slice A' n' c')) B g n c ds es (k + 1) := by
  obtain ⟨ds', h1, h2, h3, h4⟩ := h
  have far : ∀ {d : EvV} {e : Ev}, EvO (g < ·) w d e → EvO (g < ·) (w.setCell ⟨g, k * 5 + 1, none⟩ (.slice A' n' c')) d e := fun h => h.frame (fun q hq _ => heap_far _ (by show q ≠ g; omega))
  have e := h4 k (by omega) (by omega) (Nat.le_refl _)
  refine ⟨_, by rw [List.length_set]; exact h1, h2.setT k (by omega) A' n' c', fun i g1 g2 g3 => ?_, fun i g1 g2 g3 => ?_⟩
  · rw [List.getElem_set]
    split
    · rename_i hki
      subst hki
      rw [e]
      exact far (ht _ _)
    · exact far (h3 i _ _ (by omega))
  · rw [List.getElem_set, if_neg (by omega)]
    exact h4 i _ _ (by omega)
theorem Cl.cell {w : World} {B g n c k : Nat} {ds : List EvV} {es : List Ev} (h : Cl w B g n c ds es k) (j : Nat) (hj : j < n) :
    ∃ u0 u1 u2 u3 u4, w.cell? ⟨g, j * 5, none⟩ = some u0 ∧ w.cell? ⟨g, j * 5 + 1, none⟩ = some u1 ∧ w.cell? ⟨g, j * 5 + 2, none⟩ = some u2 ∧ w.cell? ⟨g, j * 5 + 3, none⟩ = some u3 ∧ w.cell? ⟨g, j * 5 + 4, none⟩ = some u4 := by
  obtain ⟨ds', h1, h2, _⟩ := h
  obtain ⟨a0, a1, a2, a3, a4⟩ := h2.five j (by omega)
  exact ⟨_, _, _, _, _, a0, a1, a2, a3, a4⟩
theorem Cl.free {w : World} {B g n c k : Nat} {ds : List EvV} {es : List Ev} (h : Cl w B g n c ds es k) (j : Nat) : w.frozen? ⟨g, j, none⟩ = false := by
  obtain ⟨ds', _, h2, _⟩ := h
  exact h2.free j
theorem Cl.out {w : World} {B g n c : Nat} {ds : List EvV} {es : List Ev} (h : Cl w B g n c ds es n) (hes : es.length = n) : ∃ ds', EvsO (B ≤ ·) w (.slice (some ⟨g, 0, none⟩) n c) ds' es := by
  obtain ⟨ds', h1, h2, h3, h4⟩ := h
  have hg := h2.len.2.2.2.1
  refine ⟨ds', by omega, h2.low (Nat.zero_le _), fun k e => ?_, fun i g1 g2 => (h3 i g1 g2 (by omega)).weak (fun q hq _ => by have : g < q := hq; show B ≤ q; omega)⟩
  injection e with e
  subst e
  exact hg

set_option maxRecDepth 100000 in
set_option maxHeartbeats 2000000 in
theorem clone_c (ok : Nat → Prop) (A : Option Addr) (n c : Nat) (ds : List EvV) (es : List Ev) (w : World) (hn : es.length = n) (hr : EvsR ok w A ds es) (hl : n ≤ 2513169434916) :
    Calls Try.prog 63 #[.slice A n c] w fun r w' => ∃ v ds', r = .returned v ∧ EvsO (w.heap.size ≤ ·) w' v ds' es ∧ Below w.heap.size w w' := by
  have hdn : ds.length = n := hr.len.trans hn
  have HD := Lib.hid hdn; clear hdn
  have HN := Lib.hid hn
  go_enter Try.func63, Try.ntmps63
  go_wp2_with (fail)
  refine (CloneV_c ok A n c ds es w hn hr hl).mono ?_
  rintro e w1 ⟨v, rfl, ho1, hb1⟩
  obtain ⟨A1, c1, rfl, p1, p2, p3, p4, p5⟩ := OwnV.form ho1
  rw [HD.out] at p1 ho1 ⊢
  have HO1 := Lib.hid ho1; clear ho1
  rcases Nat.eq_zero_or_pos n with h0 | h0
  · subst h0
    have he : es = [] := List.eq_nil_of_length_eq_zero HN.out
    have hde : ds = [] := List.eq_nil_of_length_eq_zero HD.out
    subst he hde
    clear p3 p4 p5 hn hr
    go_wp2_with (fail)
    go_loopw [9] (fun i wr => i = .int .i64 (0 : Nat) ∧ wr = w1) (fun _ _ => 0)
    case atStart => exact ⟨rfl, rfl⟩
    case round =>
      obtain ⟨rfl, rfl⟩ := hrel
      go_wp2_with (fail)
      go_ret
      have h1 := HO1.out
      exact ⟨_, [], rfl, ⟨rfl, OwnV.low h1 (Nat.zero_le _), fun k e => (World.ownsRow.lt h1 k e).1, fun i h1 => absurd h1 (by simp)⟩, hb1⟩
  · obtain ⟨b, off, rfl, _⟩ := p3.addr (by rw [cellsV_length, HD.out]; omega)
    obtain ⟨q1, q2, q3, q4⟩ := p4 _ rfl
    simp only at q3 q4
    subst q3
    have hcl : Cl w1 w.heap.size b n c1 ds es 0 := ⟨ds, HD.out, HO1.out, fun i _ _ h => absurd h (by omega), fun i _ _ _ => rfl⟩
    have HC := Lib.hid hcl; clear hcl HO1
    clear p3 p4 p5 hn
    have hl2 := q2
    go_wp2_with (fail)
    go_loopw [9] (fun i wr => ∃ k : Nat, k ≤ n ∧ i = .int .i64 k ∧ Hid (Cl wr w.heap.size b n c1 ds es k) ∧ Below w.heap.size w wr ∧ b < wr.heap.size) (fun i _ => n - (intOf i).toNat)
    case atStart => exact ⟨0, Nat.zero_le _, rfl, HC, hb1, q2⟩
    case round =>
      clear HC hb1
      obtain ⟨k, hk, rfl, HC, kb, hbw⟩ := hrel
      rcases Nat.lt_or_ge k n with hlt | hge
      · obtain ⟨e, b1, o1, At, m, cm, ee, rfl, hb1, -, tt, c0, ca, cb, cc, cd⟩ := hr.at_ k (by rw [HN.out]; exact hlt)
        obtain ⟨t1, t2, t3, t4, -, t5⟩ := tt
        have ca' := ca
        rw [← kb.cell (p := ⟨b1, _, none⟩) hb1] at ca'
        have T1 := Lib.hid t1; clear t1
        have EE := Lib.hid ee; clear ee
        clear c0 ca cb cc cd
        have hlt' : (k : Int) < (n : Int) := by omega
        go_wp2_with (first | (at_builtin; refine wpList_cloneB _ rfl (.tmp 18) rfl At m cm e.t rfl T1.out (t2.below kb) (by omega) ?_; intro A2 c2 w2 g1 g2 g3 g4 g5 g6; have G1 := Lib.hid g1; clear g1 g5; have HC2 := Lib.hid (HC.out.below g2); have k2 := kb.trans (g2.mono kb.size); obtain ⟨u0, u1, u2, u3, u4, -, f1, -⟩ := HC2.out.cell k hlt; have fr := HC2.out.free (k * 5 + 1); have gs := g2.size))
        have ho : EvO (b < ·) w2 (ds[k]'(by rw [HD.out]; exact hlt) |>.txt A2 m c2) (es[k]'(by rw [HN.out]; exact hlt)) := by
          have h5 := hr.each k (by rw [HD.out]; exact hlt) (by rw [HN.out]; exact hlt)
          rw [← EE.out] at h5 ⊢
          exact ⟨h5.1, h5.2.1, h5.2.2.1, h5.2.2.2.1, T1.out, Own.low G1.out (Nat.zero_le _), fun a ea => Nat.lt_of_lt_of_le hbw (g6 a ea).1, t5⟩
        have hput := HC2.out.put HD.out HN.out hlt A2 m c2 (fun _ _ => ho)
        have kset := k2.grown (only_set b (k * 5 + 1) (.slice A2 m c2)) k2.size (fun q e => by injection e with e; omega)
        have hput' := Lib.hid hput
        clear hput ho
        go_roundw
        case rel => exact ⟨k + 1, by omega, by go_num, hput', kset, by show b < _; simp [World.setCell]; omega⟩
        case measure => simp [intOf]; omega
      · obtain rfl : n = k := by omega
        go_wp2_with (fail)
        go_ret
        obtain ⟨ds', h1⟩ := HC.out.out HN.out
        exact ⟨_, ds', rfl, h1, kb⟩
end Go.Proofs.Ytgnciejbhaebeaa
