/- Parts one behind the other: How a law's argument is opened: events within other data; Calls of a queue and an inbox to be read: what stays below an end stays read; the eight cells of one; A call of a queue in its box; a literal of one event; what is told of the round's worlds; A slice of ways (a kind, a number, an event) that came in, opened; The world of the law on a queue's batches: blocks by colours, so that what a step writes leaves all that has another colour; What is appended in the law on a queue's batches: to the accepted, the got, the said, the acknowledgements; The two closures of the law on a queue's batches: what is said, what comes; The plain law on a queue's batches: what an inbox took is a beginning of what was accepted; How the law on a queue's batches begins; a way in its box. Conditions: as told at each. -/
import Derived.Test.YtgnciejbhaebeaaPKeysPrefix4

/- How a law's argument is opened: events within other data. Conditions: none. -/
namespace Go.Proofs.Ytgnciejbhaebeaa
open Go Go.RowKit Go.ChangeShapes Go.WideShapes

theorem open_evs {H : Type} {enc : TypeId × Value → H} {P : Program} {W : World} {t et e fuel : Nat} {f0 f1 f2 f3 f4 : Field} (ht : P.underlying t = some (.slice et)) (hB : P.bytesOf et = 56) (T : EvT P et f0 f1 f2 f3 f4 e) {u : Value} {x : DataW H × List MemPlace}
    (hf : DataW.trod enc P W 0 (fun _ => true) true fuel t [u] = some x) (hw : ∀ n ∈ x.1.weights P t, n ≤ reachBytes) :
    ∃ (A : Option Addr) (n c : Nat) (dv : List EvV) (es : List Ev), u = .slice A n c ∧ (es.length = n ∧ EvsR (· < W.heap.size) W A dv es ∧ n ≤ c ∧ c ≤ maxLen ∧ n ≤ 2513169434843) := by
  rcases Deep.open_slice ht hf with ⟨hcs, _⟩ | ⟨a, len, cap, m, n, D, Pl, hcs, _, hl, hm, hmm, hx, hcell⟩
  · injection hcs with hcs _
    subst hcs
    exact ⟨none, 0, 0, [], [], rfl, rfl, ⟨rfl, .inl rfl, fun _ a e => (by cases e), fun i h => absurd h (by simp)⟩, Nat.le_refl _, Nat.zero_le _, by decide⟩
  · injection hcs with hcs _
    subst hcs
    simp only [if_true] at hmm
    subst hmm
    subst hx
    have hb := hw _ (by simp only [DataW.weights, ht, List.mem_cons]; exact Or.inl rfl)
    rw [hB] at hb
    simp only [List.length_map, List.length_range, reachBytes] at hb
    have each : ∀ i, i < len → ∃ z : EvV × Ev, (∀ q (hq : q < 5), W.cell? (a.add (i * 5 + q)) = (z.1.cells)[q]?) ∧ EvR (· < W.heap.size) W z.1 z.2 := by
      intro i hi
      obtain ⟨cs', g1, g2⟩ := hcell i (by omega)
      rw [T.hC] at g1
      obtain ⟨_, hlen, hg⟩ := World.cells?_some g1
      obtain ⟨k, A, m', c', x, y, b, bs, hcs, q1, q2, q3, q4, q5⟩ := open_ev T g2
      have hm' : m' ≤ 140737488351232 := q5 (fun n hn => hw n (by
        simp only [DataW.weights, ht, List.mem_cons, List.mem_append]
        exact Or.inr (Or.inl (weightsAll_mem (List.mem_map.2 ⟨i, List.mem_range.2 hi, rfl⟩) n hn))))
      refine ⟨(⟨k, A, m', c', x, y, b⟩, ⟨k, bs, x, y, b⟩), fun q hq => ?_, rfl, rfl, rfl, rfl, q1, q2, q3, q4, fun h0 a' e => ?_, (show m' ≤ 140737488355328 by omega)⟩
      · rw [← Deep.add_add]
        subst hcs
        have := hg q (by simpa using hq)
        rw [this]
        rfl
      · rcases q2 with h | ⟨b', off, rfl, hb', _⟩
        · have h0' : 0 < m' := h0
          have : bs = [] := by simpa using h
          rw [this, List.length_nil] at q1
          omega
        · injection e with e; subst e; exact hb'
    obtain ⟨zs, hz1, hz2⟩ := list_of_all len each
    have hcellz : ∀ i (hi : i < zs.length) q, q < 5 → W.cell? (a.add (i * 5 + q)) = (cellsV (zs.map (·.1)))[i * 5 + q]? := by
      intro i hi q hq
      rw [cellsV_get _ i (by simpa using hi) q hq, (hz2 i hi).1 q hq]
      simp
    have hblk : 0 < len → a.spot = none ∧ a.block < W.heap.size := by
      intro h0
      have h := hcellz 0 (by omega) 0 (by decide)
      have hc0 : (cellsV (zs.map (·.1)))[0 * 5 + 0]? ≠ none := by
        rw [List.getElem?_eq_getElem (by rw [cellsV_length, List.length_map]; omega)]
        simp
      have h2 : ∃ u, W.cell? a = some u := by
        have e1 : a.add (0 * 5 + 0) = a := by simp [Addr.add]
        rw [e1] at h
        rw [← h] at hc0
        exact Option.ne_none_iff_exists'.1 hc0
      obtain ⟨u, hu⟩ := h2
      exact ⟨World.cell?_spot hu, World.block_lt_of_cell? W a hu⟩
    refine ⟨some a, len, _, zs.map (·.1), zs.map (·.2), rfl, by simpa using hz1, ⟨by simp, ?_, fun h0 a' e => ?_, fun i h1 h2 => ?_⟩, hl, hm, by omega⟩
    · rcases Nat.eq_zero_or_pos len with h0 | h0
      · left
        have : zs = [] := List.eq_nil_of_length_eq_zero (by omega)
        rw [this]; rfl
      · obtain ⟨hsp, hlt⟩ := hblk h0
        obtain ⟨b, off, spot⟩ := a
        simp only at hsp
        subst hsp
        refine .inr ⟨b, off, rfl, hlt, fun k hk => ?_⟩
        have hk' : k < zs.length * 5 := by rw [cellsV_length] at hk; simpa using hk
        have h := hcellz (k / 5) (by omega) (k % 5) (Nat.mod_lt _ (by decide))
        rw [show k / 5 * 5 + k % 5 = k by omega, Addr.add_lit, List.getElem?_eq_getElem hk] at h
        exact h
    · injection e with e
      subst e
      exact (hblk (by rw [List.length_map] at h0; omega)).2
    · simp only [List.getElem_map]
      exact (hz2 i (by simpa using h1)).2

/-- A call of a queue and an inbox, as plain data. -/
structure OpD where
  k : Int
  e : Ev
  m : Nat
  l : List Ev
/-- It in memory: its eight cells. -/
structure OpV where
  k : Int
  e : EvV
  m : Nat
  A : Option Addr
  n : Nat
  c : Nat
  ds : List EvV
def OpV.cells (o : OpV) : List Value := .int .i64 o.k :: (o.e.cells ++ [.int .u64 (o.m : Int), .slice o.A o.n o.c])
def OpR (ok : Nat → Prop) (w : World) (v : OpV) (d : OpD) : Prop :=
  v.k = d.k ∧ EvR ok w v.e d.e ∧ v.m = d.m ∧ d.m < 18446744073709551616 ∧ (d.l.length = v.n ∧ EvsR ok w v.A v.ds d.l ∧ v.n ≤ v.c ∧ v.c ≤ maxLen ∧ v.n ≤ 2513169434843)
/-- The fields of such a call's type. -/
structure OpT (P : Program) (t : TypeId) (f0 f1 f2 f3 : Field) (et e : TypeId) (g0 g1 g2 g3 g4 : Field) : Prop where
  hs : P.underlying t = some (.struct #[f0, f1, f2, f3])
  hC : P.cellsOf t = 8
  o0 : f0.offset = 0
  o1 : f1.offset = 1
  o2 : f2.offset = 6
  o3 : f3.offset = 7
  k0 : P.cellsOf f0.type = 1
  k2 : P.cellsOf f2.type = 1
  k3 : P.cellsOf f3.type = 1
  h0 : P.underlying f0.type = some (.int .i64)
  h1 : f1.type = et
  h2 : P.underlying f2.type = some (.int .u64)
  h3 : P.underlying f3.type = some (.slice et)
  hB : P.bytesOf et = 56
  T : EvT P et g0 g1 g2 g3 g4 e
theorem open_op {H : Type} {enc : TypeId × Value → H} {P : Program} {W : World} {t et e fuel : Nat} {f0 f1 f2 f3 g0 g1 g2 g3 g4 : Field} (T : OpT P t f0 f1 f2 f3 et e g0 g1 g2 g3 g4) {cs : List Value} {x : DataW H × List MemPlace}
    (hf : DataW.trod enc P W 0 (fun _ => true) true fuel t cs = some x) (hw : ∀ n ∈ x.1.weights P t, n ≤ reachBytes) : ∃ (v : OpV) (d : OpD), cs = v.cells ∧ OpR (· < W.heap.size) W v d := by
  obtain ⟨ys, n, _, rfl, hl, hlen, hg⟩ := DataW.trod_struct T.hs hf
  rw [T.hC] at hl
  match cs, hl, ys, hlen with
  | [u0, u1, u2, u3, u4, u5, u6, u7], _, [y0, y1, y2, y3], _ =>
    have q0 := hg 0 f0 rfl
    have q1 := hg 1 f1 rfl
    have q2 := hg 2 f2 rfl
    have q3 := hg 3 f3 rfl
    rw [T.o0, T.k0] at q0
    rw [T.o1, T.h1, T.T.hC] at q1
    rw [T.o2, T.k2] at q2
    rw [T.o3, T.k3] at q3
    obtain ⟨a0, e0, _, _⟩ := DataW.trod_int T.h0 q0
    obtain ⟨a2, e2, _, w2⟩ := DataW.trod_int T.h2 q2
    have hwe : ∀ (j : Nat) (f : Field) (y : DataW H × List MemPlace), (#[f0, f1, f2, f3] : Array Field)[j]? = some f → ([y0, y1, y2, y3] : List (DataW H × List MemPlace))[j]? = some y → ∀ n ∈ y.1.weights P f.type, n ≤ reachBytes := by
      intro j f y hj hy n hn
      refine hw n ?_
      simp only [DataW.weights, T.hs]
      refine DataW.weights_mem_each (j := j) (t := f.type) (d := y.1) ?_ ?_ n hn
      · rw [List.getElem?_map]
        have : ([f0, f1, f2, f3] : List Field)[j]? = some f := by simpa using hj
        show Option.map _ (([f0, f1, f2, f3] : List Field)[j]?) = _
        rw [this]; rfl
      · rw [List.getElem?_map, hy]; rfl
    obtain ⟨k, A, m, c, X, Y, b, bs, ecs, r1, r2, r3, r4, r5⟩ := open_ev T.T q1
    have hm := r5 (fun n hn => hwe 1 f1 y1 rfl rfl n (by rw [T.h1]; exact hn))
    obtain ⟨A3, n3, c3, dv, es, eu, s1⟩ := open_evs T.h3 T.hB T.T q3 (hwe 3 f3 y3 rfl rfl)
    simp at e0 e2 ecs eu
    obtain ⟨z1, z2, z3, z4, z5⟩ := ecs
    subst e0 e2 eu z1 z2 z3 z4 z5
    simp only [Lit.wf, IntKind.min, IntKind.max, IntKind.signed, IntKind.bits, Bool.and_eq_true, decide_eq_true_eq] at w2
    have v1 : (0 : Int) ≤ a2 := by simpa using w2.1
    have v2 : a2 ≤ 18446744073709551615 := by simpa using w2.2
    refine ⟨⟨a0, ⟨k, A, m, c, X, Y, b⟩, a2.toNat, A3, n3, c3, dv⟩, ⟨a0, ⟨k, bs, X, Y, b⟩, a2.toNat, es⟩, ?_, rfl, ⟨rfl, rfl, rfl, rfl, r1, r2, r3, r4, fun h0 a' e' => ?_, (show m ≤ 140737488355328 by omega)⟩, rfl, (show a2.toNat < 18446744073709551616 by omega), s1⟩
    · simp only [OpV.cells, EvV.cells, Int.toNat_of_nonneg v1]
      rfl
    · rcases r2 with h | ⟨b', off, rfl, hb', _⟩
      · have h0' : 0 < m := h0
        have : bs = [] := by simpa using h
        rw [this, List.length_nil] at r1
        omega
      · injection e' with e'; subst e'; exact hb'

/-- Calls to be read at an address. -/
structure OpsR (ok : Nat → Prop) (w : World) (A : Option Addr) (ovs : List OpV) (ods : List OpD) : Prop where
  len : ovs.length = ods.length
  row : 0 < ovs.length → ∃ b off, A = some ⟨b, off, none⟩ ∧ b < w.heap.size ∧ ok b ∧ ∀ i (h : i < ovs.length) (q : Nat), q < 8 → w.cell? ⟨b, off + i * 8 + q, none⟩ = (ovs[i].cells)[q]?
  each : ∀ i (h1 : i < ovs.length) (h2 : i < ods.length), OpR ok w ovs[i] ods[i]
theorem opn_ops {H : Type} {enc : TypeId × Value → H} {P : Program} {W : World} {base t eo et e j : Nat} {f0 f1 f2 f3 g0 g1 g2 g3 g4 : Field} (ht : P.underlying t = some (.slice eo)) (hB : P.bytesOf eo = 96) (T : OpT P eo f0 f1 f2 f3 et e g0 g1 g2 g3 g4) {v : Value} {d : DataW H} {p : List MemPlace} {ts : List TypeId} {ds : List (DataW H)}
    (hv : Value.okWide P W .any base t v) (hj : DataW.Trod enc P W 0 (fun _ => true) true t v d p) (hsz : (DataW.weightsEach P ts ds).all (· ≤ reachBytes) = true) (k1 : ts[j]? = some t) (k2 : ds[j]? = some d) :
    ∃ (A : Option Addr) (n c : Nat) (ovs : List OpV) (ods : List OpD), v = .slice A n c ∧ (ods.length = n ∧ OpsR (· < W.heap.size) W A ovs ods ∧ n ≤ c ∧ c ≤ maxLen ∧ n ≤ 1466015503658) := by
  obtain ⟨a0, len, cap, rfl⟩ := okWide_slice ht hv
  obtain ⟨fuel, hf⟩ := hj
  rcases Deep.open_slice ht hf with ⟨hcs, _⟩ | ⟨a, l, c, m, n, D, Pl, hcs, _, hl, hm, hmm, hx, hcell⟩
  · simp [Value.cells] at hcs
    obtain ⟨rfl, rfl, rfl⟩ := hcs
    exact ⟨none, 0, 0, [], [], rfl, rfl, ⟨rfl, fun h => absurd h (by simp), fun i h => absurd h (by simp)⟩, Nat.le_refl _, Nat.zero_le _, by decide⟩
  · simp [Value.cells] at hcs
    obtain ⟨rfl, rfl, rfl⟩ := hcs
    simp only [if_true] at hmm
    subst hmm
    simp only [Prod.mk.injEq] at hx
    obtain ⟨rfl, _⟩ := hx
    have hb := sized_slice hsz k1 k2 ht
    rw [hB] at hb
    simp only [List.length_map, List.length_range, reachBytes] at hb
    have each : ∀ i, i < len → ∃ z : OpV × OpD, (∀ q (hq : q < 8), W.cell? (a.add (i * 8 + q)) = (z.1.cells)[q]?) ∧ OpR (· < W.heap.size) W z.1 z.2 := by
      intro i hi
      obtain ⟨cs', q1, q2⟩ := hcell i (by omega)
      rw [T.hC] at q1
      obtain ⟨_, hlen, hg⟩ := World.cells?_some q1
      obtain ⟨vv, dd, hcs, ho⟩ := open_op T q2 (fun n hn => of_decide_eq_true (List.all_eq_true.1 hsz n (DataW.weights_mem_each k1 k2 n (by
        simp only [DataW.weights, ht, List.mem_cons, List.mem_append]
        exact Or.inr (Or.inl (weightsAll_mem (List.mem_map.2 ⟨i, List.mem_range.2 hi, rfl⟩) n hn))))))
      refine ⟨(vv, dd), fun q hq => ?_, ho⟩
      rw [← Deep.add_add]
      subst hcs
      exact hg q (by simpa using hq)
    obtain ⟨zs, hz1, hz2⟩ := list_of_all len each
    refine ⟨some a, len, _, zs.map (·.1), zs.map (·.2), rfl, by simpa using hz1, ⟨by simp, fun h0 => ?_, fun i h1 h2 => ?_⟩, hl, hm, by omega⟩
    · have h0' : 0 < zs.length := by simpa using h0
      have h := (hz2 0 h0').1 0 (by decide)
      have hu : W.cell? a = some (.int .i64 zs[0].1.k) := by
        have e1 : a.add (0 * 8 + 0) = a := by simp [Addr.add]
        rw [e1] at h
        rw [h]; rfl
      have hsp := World.cell?_spot hu
      have hlt := World.block_lt_of_cell? W a hu
      obtain ⟨b, off, spot⟩ := a
      simp only at hsp
      subst hsp
      refine ⟨b, off, rfl, hlt, hlt, fun i hi q hq => ?_⟩
      have := (hz2 i (by simpa using hi)).1 q hq
      rw [Addr.add_lit] at this
      rw [Nat.add_assoc, this]
      simp
    · simp only [List.getElem_map]
      exact (hz2 i (by simpa using h1)).2
end Go.Proofs.Ytgnciejbhaebeaa

/- Calls of a queue and an inbox to be read: what stays below an end stays read; the eight cells of one. Conditions: none. -/
namespace Go.Proofs.Ytgnciejbhaebeaa
open Go Go.RowKit

theorem OpR.below {ok : Nat → Prop} {w w' : World} {v : OpV} {d : OpD} (h : OpR ok w v d) (hb : Below w.heap.size w w') : OpR ok w' v d :=
  ⟨h.1, h.2.1.frame (fun k _ hk => hb.block k hk) hb.size, h.2.2.1, h.2.2.2.1, h.2.2.2.2.1, h.2.2.2.2.2.1.below hb, h.2.2.2.2.2.2⟩
theorem OpsR.below {ok : Nat → Prop} {w w' : World} {A : Option Addr} {ovs : List OpV} {ods : List OpD} (h : OpsR ok w A ovs ods) (hb : Below w.heap.size w w') : OpsR ok w' A ovs ods := by
  refine ⟨h.len, fun h0 => ?_, fun i h1 h2 => (h.each i h1 h2).below hb⟩
  obtain ⟨b, off, e, hl, ho, hc⟩ := h.row h0
  exact ⟨b, off, e, Nat.lt_of_lt_of_le hl hb.size, ho, fun i hi q hq => (World.cell?_of_block (w := w) (a := ⟨b, off + i * 8 + q, none⟩) (hb.block b hl)).trans (hc i hi q hq)⟩
/-- One call among them. -/
theorem OpsR.at_ {ok : Nat → Prop} {w : World} {A : Option Addr} {ovs : List OpV} {ods : List OpD} (h : OpsR ok w A ovs ods) (i : Nat) (hi : i < ods.length) : ∃ (b off : Nat) (v : OpV) (d : OpD), A = some ⟨b, off, none⟩ ∧ b < w.heap.size ∧ d = ods[i] ∧ OpR ok w v d ∧ ∀ q, q < 8 → w.cell? ⟨b, off + i * 8 + q, none⟩ = (v.cells)[q]? := by
  have h1 : i < ovs.length := by rw [h.len]; exact hi
  obtain ⟨b, off, e, hl, _, hc⟩ := h.row (Nat.lt_of_le_of_lt (Nat.zero_le _) h1)
  exact ⟨b, off, ovs[i], ods[i], e, hl, rfl, h.each i h1 hi, hc i h1⟩
end Go.Proofs.Ytgnciejbhaebeaa

/- A call of a queue in its box; a literal of one event; what is told of the round's worlds. Conditions: none. -/
namespace Go.Proofs.Ytgnciejbhaebeaa
open Go Go.RowKit

/-- A call's eight cells in a box of its own. -/
def OpBx (v : OpV) (g : Nat) (w : World) : Prop := w.heap[g]? = some (.cells #[.int .i64 v.k, .int .i64 v.e.k, .slice v.e.A v.e.n v.e.c, .int .i64 v.e.x, .int .i64 v.e.y, .int .i64 v.e.b, .int .u64 (v.m : Int), .slice v.A v.n v.c] 56 (0, 0))
theorem OpBx.cells {k0 ek ex ey eb : Int} {At A0 : Option Addr} {tn tc m0 n0 cp0 g : Nat} {ds0 : List EvV} {w : World} (h : OpBx ⟨k0, ⟨ek, At, tn, tc, ex, ey, eb⟩, m0, A0, n0, cp0, ds0⟩ g w) :
    w.cell? ⟨g, 0, none⟩ = some (.int .i64 k0) ∧ w.cell? ⟨g, 1, none⟩ = some (.int .i64 ek) ∧ w.cell? ⟨g, 2, none⟩ = some (.slice At tn tc) ∧ w.cell? ⟨g, 3, none⟩ = some (.int .i64 ex) ∧ w.cell? ⟨g, 4, none⟩ = some (.int .i64 ey) ∧ w.cell? ⟨g, 5, none⟩ = some (.int .i64 eb) ∧ w.cell? ⟨g, 6, none⟩ = some (.int .u64 (m0 : Int)) ∧ w.cell? ⟨g, 7, none⟩ = some (.slice A0 n0 cp0) :=
  ⟨by rw [heap_cell h]; rfl, by rw [heap_cell h]; rfl, by rw [heap_cell h]; rfl, by rw [heap_cell h]; rfl, by rw [heap_cell h]; rfl, by rw [heap_cell h]; rfl, by rw [heap_cell h]; rfl, by rw [heap_cell h]; rfl⟩
theorem OpBx.below {v : OpV} {g : Nat} {w w' : World} (h : OpBx v g w) (hb : Below w.heap.size w w') : OpBx v g w' := (hb.block g (heap_lt h)).trans h
/-- A literal of one event in a block of its own. -/
theorem EvsR.one {ok : Nat → Prop} {w : World} {g : Nat} {k x y b : Int} {A : Option Addr} {n c : Nat} {e : Ev} (hg : w.heap[g]? = some (.cells #[.int .i64 k, .slice A n c, .int .i64 x, .int .i64 y, .int .i64 b] 36 (0, 0))) (hok : ok g) (he : EvR ok w ⟨k, A, n, c, x, y, b⟩ e) :
    EvsR ok w (some ⟨g, 0, none⟩) [⟨k, A, n, c, x, y, b⟩] [e] := by
  refine ⟨rfl, .inr ⟨g, 0, rfl, heap_lt hg, fun i hi => ?_⟩, fun _ a ea => by injection ea with ea; subst ea; exact hok, fun i h1 h2 => ?_⟩
  · rw [Nat.zero_add, heap_cell hg]
    have h5 : i < 5 := by simpa [cellsV, EvV.cells] using hi
    match i, h5, hi with
    | 0, _, _ => rfl
    | 1, _, _ => rfl
    | 2, _, _ => rfl
    | 3, _, _ => rfl
    | 4, _, _ => rfl
  · obtain rfl : i = 0 := by simp at h1; omega
    exact he
/-- What a round's world holds: the four; the call's box; the call's own data. -/
structure RP (F : Nat → Prop) (w0 : World) (q b m c came got : Nat) (es all : List Ev) (v : OpV) (d : OpD) (g : Nat) (w : World) : Prop where
  ks : KSF F w0 q b m c came came got got es all w
  bx : OpBx v g w
  op0 : OpR (· < w0.heap.size) w0 v d
section
variable {F G : Nat → Prop} {w0 w w' wr wa : World} {q b m c came got came' got' g : Nat} {es all es' all' : List Ev} {v : OpV} {d : OpD}
theorem RP.op (h : RP F w0 q b m c came got es all v d g w) : OpR (· < w0.heap.size) w v d := h.op0.below h.ks.bel
theorem RP.below (h : RP F w0 q b m c came got es all v d g w) (hb : Below w.heap.size w w') (hG : ∀ j, G j → F j ∨ Fresh w w' j) : RP G w0 q b m c came got es all v d g w' :=
  ⟨h.ks.below hb hG, h.bx.below hb, h.op0⟩
theorem RP.same (h : RP F w0 q b m c came got es all v d g w) (hb : Below w.heap.size w w') : RP F w0 q b m c came got es all v d g w' := h.below hb (fun _ hj => .inl hj)
theorem RP.drewN (h : RP F w0 q b m c came got es all v d g w) (j : Nat) : RP F w0 q b m c came got es all v d g (w.drewN j) := h.same (below_drewN (Below.refl _ _) j)
/-- Behind a call that leaves the blocks F. -/
theorem RP.moved (h : RP F w0 q b m c came got es all v d g w) (hg : F g) (hk : KSF G w0 q b m c came' came' got' got' es' all' w') (hf : Kf F w w') : RP G w0 q b m c came' got' es' all' v d g w' :=
  ⟨hk, (hf.2 g hg).trans h.bx, h.op0⟩
theorem OpBx.kf (h : OpBx v g w) (hg : F g) (hf : Kf F w w') : OpBx v g w' := (hf.2 g hg).trans h
theorem RP.start {k0 ek ex ey eb : Int} {At A0 : Option Addr} {tn tc m0 n0 cp0 : Nat} {ds0 : List EvV} (h : KSF F w0 q b m c came came got got es all wr)
    (hop : OpR (· < w0.heap.size) w0 ⟨k0, ⟨ek, At, tn, tc, ex, ey, eb⟩, m0, A0, n0, cp0, ds0⟩ d) (hg : g = wr.heap.size)
    (hw : wa = wr.alloc (.cells #[.int .i64 k0, .int .i64 ek, .slice At tn tc, .int .i64 ex, .int .i64 ey, .int .i64 eb, .int .u64 (m0 : Int), .slice A0 n0 cp0] 56)) :
    RP (fun j => j = g) w0 q b m c came got es all ⟨k0, ⟨ek, At, tn, tc, ex, ey, eb⟩, m0, A0, n0, cp0, ds0⟩ d g wa := by
  have hb : Below wr.heap.size wr wa := by rw [hw]; exact (Below.refl _ _).alloc (Nat.le_refl _) _
  have hs : wa.heap.size = wr.heap.size + 1 := by rw [hw]; simp
  refine ⟨h.below hb (fun j hj => .inr ⟨by omega, by omega⟩), ?_, hop⟩
  rw [hw, hg]
  exact heap_alloc_new wr _
theorem Kf.evsO {ok : Nat → Prop} {x : Value} {ds : List EvV} {l : List Ev} (hf : Kf F w w') (h : EvsO ok w x ds l) (hok : ∀ j, ok j → F j) : EvsO ok w' x ds l := h.frame (fun k hk _ => hf.2 k (hok k hk))
end
/-- One event of one's own: its five cells. -/
theorem EvsO.one {ok : Nat → Prop} {w : World} {v : Value} {ds : List EvV} {e : Ev} (h : EvsO ok w v ds [e]) : ∃ (g c : Nat) (A : Option Addr) (n cT : Nat), v = .slice (some ⟨g, 0, none⟩) 1 c ∧ 1 ≤ c ∧ c ≤ maxLen ∧ TxtO ok w A n cT e.t ∧
    w.cell? ⟨g, 0, none⟩ = some (.int .i64 e.k) ∧ w.cell? ⟨g, 1, none⟩ = some (.slice A n cT) ∧ w.cell? ⟨g, 2, none⟩ = some (.int .i64 e.x) ∧ w.cell? ⟨g, 3, none⟩ = some (.int .i64 e.y) ∧ w.cell? ⟨g, 4, none⟩ = some (.int .i64 e.b) := by
  have hl : ds.length = 1 := h.len
  obtain ⟨A, c, rfl, h1, h2, h3, h4, -⟩ := h.row.form
  obtain ⟨d, rfl⟩ : ∃ d, ds = [d] := List.length_eq_one_iff.1 hl
  obtain ⟨e1, e2, e3, e4, e5⟩ := h.each 0 (by simp) (by simp)
  obtain ⟨b, off, rfl, hb, hc⟩ := h3.addr (by simp [cellsV, EvV.cells])
  have ho : off = 0 := (h4 _ rfl).2.2.1
  subst ho
  simp only [List.getElem_cons_zero] at e1 e2 e3 e4 e5
  have at_ : ∀ j (hj : j < 5), w.cell? ⟨b, 0 + j, none⟩ = (EvV.cells d)[j]? := by
    intro j hj
    have hj' : j < (cellsV [d]).length := by rw [cellsV_length]; simpa using hj
    rw [hc j hj', ← List.getElem?_eq_getElem]
    match j, hj with
    | 0, _ => rfl
    | 1, _ => rfl
    | 2, _ => rfl
    | 3, _ => rfl
    | 4, _ => rfl
  exact ⟨b, c, d.A, d.n, d.c, rfl, by simpa using h1, h2, e5, by rw [← e1]; exact at_ 0 (by decide), at_ 1 (by decide), by rw [← e2]; exact at_ 2 (by decide), by rw [← e3]; exact at_ 3 (by decide), by rw [← e4]; exact at_ 4 (by decide)⟩
theorem EvsO.rd {ok : Nat → Prop} {w : World} {A : Option Addr} {n c : Nat} {ds : List EvV} {es : List Ev} (h : EvsO ok w (.slice A n c) ds es) (_ : n = es.length) : EvsR ok w A ds es := by
  obtain ⟨A', c', e, -, -, hR⟩ := h.form
  injection e with e1 e2 e3
  subst e1
  exact hR
theorem take_len (got base : Nat) (es : List Ev) : (takeR got base es).1.length ≤ 16 := by
  unfold takeR
  split
  · exact Nat.zero_le _
  · rename_i h
    split
    · exact Nat.zero_le _
    · split
      · exact Nat.zero_le _
      · show (es.drop _).length ≤ 16
        rw [List.length_drop]
        have : ¬ 16 < es.length := fun e => h (.inr e)
        omega
theorem push_all {came : Nat} {all all' : List Ev} {e : Ev} {N er : Nat} (h : came ≤ all.length) (hr : rpushR came all e = (N, er, all')) : pushR came (all.drop came) e = (N, er, all'.drop came) ∧ came ≤ all'.length ∧ all'.length ≤ all.length + 1 := by
  obtain ⟨p1, p2, p3, p4, p5⟩ := push_same h e
  rw [hr] at p1 p2 p3 p4 p5
  exact ⟨Prod.ext p1 (Prod.ext p2 p3), p4, p5⟩
theorem ack_all {came : Nat} {all : List Ev} {x N gt : Nat} (h : came ≤ all.length) (hr : rackR came all x = (N, gt)) : ackR came (all.drop came) x = (N, gt, all.drop gt) ∧ gt ≤ all.length := by
  obtain ⟨p1, p2, p3, p4⟩ := ack_same h x
  rw [hr] at p1 p2 p3 p4
  exact ⟨Prod.ext p1 (Prod.ext p2 p3), p4⟩
end Go.Proofs.Ytgnciejbhaebeaa

/- A slice of ways (a kind, a number, an event) that came in, opened. Conditions: the row's own. -/
namespace Go.Proofs.Ytgnciejbhaebeaa
open Go Go.RowKit Go.ChangeShapes Go.WideShapes

/-- A way, as plain data. -/
structure WyD where
  k : Int
  i : Int
  e : Ev
/-- It in memory: its seven cells. -/
structure WyV where
  k : Int
  i : Int
  e : EvV
def WyV.cells (o : WyV) : List Value := .int .i64 o.k :: .int .i64 o.i :: o.e.cells
def WyR (ok : Nat → Prop) (w : World) (v : WyV) (d : WyD) : Prop :=
  v.k = d.k ∧ v.i = d.i ∧ EvR ok w v.e d.e ∧ (Lit.int .i64 d.i).wf = true
/-- The fields of such a way's type. -/
structure WyT (P : Program) (t : TypeId) (f0 f1 f2 : Field) (et e : TypeId) (g0 g1 g2 g3 g4 : Field) : Prop where
  hs : P.underlying t = some (.struct #[f0, f1, f2])
  hC : P.cellsOf t = 7
  o0 : f0.offset = 0
  o1 : f1.offset = 1
  o2 : f2.offset = 2
  k0 : P.cellsOf f0.type = 1
  k1 : P.cellsOf f1.type = 1
  h0 : P.underlying f0.type = some (.int .i64)
  h1 : P.underlying f1.type = some (.int .i64)
  h2 : f2.type = et
  T : EvT P et g0 g1 g2 g3 g4 e
theorem open_way {H : Type} {enc : TypeId × Value → H} {P : Program} {W : World} {t et e fuel : Nat} {f0 f1 f2 g0 g1 g2 g3 g4 : Field} (T : WyT P t f0 f1 f2 et e g0 g1 g2 g3 g4) {cs : List Value} {x : DataW H × List MemPlace}
    (hf : DataW.trod enc P W 0 (fun _ => true) true fuel t cs = some x) (hw : ∀ n ∈ x.1.weights P t, n ≤ reachBytes) : ∃ (v : WyV) (d : WyD), cs = v.cells ∧ WyR (· < W.heap.size) W v d := by
  obtain ⟨ys, n, _, rfl, hl, hlen, hg⟩ := DataW.trod_struct T.hs hf
  rw [T.hC] at hl
  match cs, hl, ys, hlen with
  | [u0, u1, u2, u3, u4, u5, u6], _, [y0, y1, y2], _ =>
    have q0 := hg 0 f0 rfl
    have q1 := hg 1 f1 rfl
    have q2 := hg 2 f2 rfl
    rw [T.o0, T.k0] at q0
    rw [T.o1, T.k1] at q1
    rw [T.o2, T.h2, T.T.hC] at q2
    obtain ⟨a0, e0, _, _⟩ := DataW.trod_int T.h0 q0
    obtain ⟨a1, e1, _, w1⟩ := DataW.trod_int T.h1 q1
    have hwe : ∀ (j : Nat) (f : Field) (y : DataW H × List MemPlace), (#[f0, f1, f2] : Array Field)[j]? = some f → ([y0, y1, y2] : List (DataW H × List MemPlace))[j]? = some y → ∀ n ∈ y.1.weights P f.type, n ≤ reachBytes := by
      intro j f y hj hy n hn
      refine hw n ?_
      simp only [DataW.weights, T.hs]
      refine DataW.weights_mem_each (j := j) (t := f.type) (d := y.1) ?_ ?_ n hn
      · rw [List.getElem?_map]
        have : ([f0, f1, f2] : List Field)[j]? = some f := by simpa using hj
        show Option.map _ (([f0, f1, f2] : List Field)[j]?) = _
        rw [this]; rfl
      · rw [List.getElem?_map, hy]; rfl
    obtain ⟨k, A, m, c, X, Y, b, bs, ecs, r1, r2, r3, r4, r5⟩ := open_ev T.T q2
    have hm := r5 (fun n hn => hwe 2 f2 y2 rfl rfl n (by rw [T.h2]; exact hn))
    simp at e0 e1 ecs
    obtain ⟨z1, z2, z3, z4, z5⟩ := ecs
    subst e0 e1 z1 z2 z3 z4 z5
    refine ⟨⟨a0, a1, ⟨k, A, m, c, X, Y, b⟩⟩, ⟨a0, a1, ⟨k, bs, X, Y, b⟩⟩, rfl, rfl, rfl, ⟨rfl, rfl, rfl, rfl, r1, r2, r3, r4, fun h0 a' e' => ?_, (show m ≤ 140737488355328 by omega)⟩, w1⟩
    rcases r2 with h | ⟨b', off, rfl, hb', _⟩
    · have h0' : 0 < m := h0
      have : bs = [] := by simpa using h
      rw [this, List.length_nil] at r1
      omega
    · injection e' with e'; subst e'; exact hb'

/-- Ways to be read at an address. -/
structure WysR (ok : Nat → Prop) (w : World) (A : Option Addr) (ovs : List WyV) (ods : List WyD) : Prop where
  len : ovs.length = ods.length
  row : 0 < ovs.length → ∃ b off, A = some ⟨b, off, none⟩ ∧ b < w.heap.size ∧ ok b ∧ ∀ i (h : i < ovs.length) (q : Nat), q < 7 → w.cell? ⟨b, off + i * 7 + q, none⟩ = (ovs[i].cells)[q]?
  each : ∀ i (h1 : i < ovs.length) (h2 : i < ods.length), WyR ok w ovs[i] ods[i]
theorem opn_ways {H : Type} {enc : TypeId × Value → H} {P : Program} {W : World} {base t eo et e j : Nat} {f0 f1 f2 g0 g1 g2 g3 g4 : Field} (ht : P.underlying t = some (.slice eo)) (hB : P.bytesOf eo = 72) (T : WyT P eo f0 f1 f2 et e g0 g1 g2 g3 g4) {v : Value} {d : DataW H} {p : List MemPlace} {ts : List TypeId} {ds : List (DataW H)}
    (hv : Value.okWide P W .any base t v) (hj : DataW.Trod enc P W 0 (fun _ => true) true t v d p) (hsz : (DataW.weightsEach P ts ds).all (· ≤ reachBytes) = true) (k1 : ts[j]? = some t) (k2 : ds[j]? = some d) :
    ∃ (A : Option Addr) (n c : Nat) (ovs : List WyV) (ods : List WyD), v = .slice A n c ∧ (ods.length = n ∧ WysR (· < W.heap.size) W A ovs ods ∧ n ≤ c ∧ c ≤ maxLen ∧ n ≤ 1954687338211) := by
  obtain ⟨a0, len, cap, rfl⟩ := okWide_slice ht hv
  obtain ⟨fuel, hf⟩ := hj
  rcases Deep.open_slice ht hf with ⟨hcs, _⟩ | ⟨a, l, c, m, n, D, Pl, hcs, _, hl, hm, hmm, hx, hcell⟩
  · simp [Value.cells] at hcs
    obtain ⟨rfl, rfl, rfl⟩ := hcs
    exact ⟨none, 0, 0, [], [], rfl, rfl, ⟨rfl, fun h => absurd h (by simp), fun i h => absurd h (by simp)⟩, Nat.le_refl _, Nat.zero_le _, by decide⟩
  · simp [Value.cells] at hcs
    obtain ⟨rfl, rfl, rfl⟩ := hcs
    simp only [if_true] at hmm
    subst hmm
    simp only [Prod.mk.injEq] at hx
    obtain ⟨rfl, _⟩ := hx
    have hb := sized_slice hsz k1 k2 ht
    rw [hB] at hb
    simp only [List.length_map, List.length_range, reachBytes] at hb
    have each : ∀ i, i < len → ∃ z : WyV × WyD, (∀ q (hq : q < 7), W.cell? (a.add (i * 7 + q)) = (z.1.cells)[q]?) ∧ WyR (· < W.heap.size) W z.1 z.2 := by
      intro i hi
      obtain ⟨cs', q1, q2⟩ := hcell i (by omega)
      rw [T.hC] at q1
      obtain ⟨_, hlen, hg⟩ := World.cells?_some q1
      obtain ⟨vv, dd, hcs, ho⟩ := open_way T q2 (fun n hn => of_decide_eq_true (List.all_eq_true.1 hsz n (DataW.weights_mem_each k1 k2 n (by
        simp only [DataW.weights, ht, List.mem_cons, List.mem_append]
        exact Or.inr (Or.inl (weightsAll_mem (List.mem_map.2 ⟨i, List.mem_range.2 hi, rfl⟩) n hn))))))
      refine ⟨(vv, dd), fun q hq => ?_, ho⟩
      rw [← Deep.add_add]
      subst hcs
      exact hg q (by simpa using hq)
    obtain ⟨zs, hz1, hz2⟩ := list_of_all len each
    refine ⟨some a, len, _, zs.map (·.1), zs.map (·.2), rfl, by simpa using hz1, ⟨by simp, fun h0 => ?_, fun i h1 h2 => ?_⟩, hl, hm, by omega⟩
    · have h0' : 0 < zs.length := by simpa using h0
      have h := (hz2 0 h0').1 0 (by decide)
      have hu : W.cell? a = some (.int .i64 zs[0].1.k) := by
        have e1 : a.add (0 * 7 + 0) = a := by simp [Addr.add]
        rw [e1] at h
        rw [h]; rfl
      have hsp := World.cell?_spot hu
      have hlt := World.block_lt_of_cell? W a hu
      obtain ⟨b, off, spot⟩ := a
      simp only at hsp
      subst hsp
      refine ⟨b, off, rfl, hlt, hlt, fun i hi q hq => ?_⟩
      have := (hz2 i (by simpa using hi)).1 q hq
      rw [Addr.add_lit] at this
      rw [Nat.add_assoc, this]
      simp
    · simp only [List.getElem_map]
      exact (hz2 i (by simpa using h1)).2
end Go.Proofs.Ytgnciejbhaebeaa

/- The world of the law on a queue's batches: blocks by colours, so that what a step writes leaves all that has another colour. Conditions: none. -/
namespace Go.Proofs.Ytgnciejbhaebeaa
open Go Go.RowKit

/-- Events in a row of one's own, their texts elsewhere. -/
structure EvX (okr okt : Nat → Prop) (w : World) (v : Value) (ds : List EvV) (es : List Ev) : Prop where
  len : ds.length = es.length
  row : OwnV w 0 v ds
  ok_ : ∀ k, v.ownBlock = some k → okr k
  each : ∀ i (h1 : i < ds.length) (h2 : i < es.length), EvR okt w ds[i] es[i]
theorem EvX.frame {okr okt okr' okt' : Nat → Prop} {w w' : World} {v : Value} {ds : List EvV} {es : List Ev} (h : EvX okr okt w v ds es) (hs : w.heap.size ≤ w'.heap.size) (hr : ∀ k, okr k → k < w.heap.size → w'.heap[k]? = w.heap[k]?)
    (ht : ∀ k, okt k → k < w.heap.size → w'.heap[k]? = w.heap[k]?) (hr' : ∀ k, okr k → k < w.heap.size → okr' k) (ht' : ∀ k, okt k → k < w.heap.size → okt' k) : EvX okr' okt' w' v ds es := by
  have hlt : ∀ k, v.ownBlock = some k → k < w.heap.size := fun k e => (World.ownsRow.lt h.row k e).2
  exact ⟨h.len, Own.frameK h.row (fun g e => hr g (h.ok_ g e) (hlt g e)), fun k e => hr' k (h.ok_ k e) (hlt k e), fun i h1 h2 => ((h.each i h1 h2).weak (ok' := fun k => okt k ∧ okt' k) (fun k hk hl => ⟨hk, ht' k hk hl⟩)).frame (fun k hk hl => ht k hk.1 hl) hs |>.weak (fun k hk _ => hk.2)⟩
theorem EvX.form {okr okt : Nat → Prop} {w : World} {v : Value} {ds : List EvV} {es : List Ev} (h : EvX okr okt w v ds es) : ∃ A c, v = .slice A es.length c ∧ es.length ≤ c ∧ c ≤ maxLen ∧ EvsR (fun _ => True) w A ds es := by
  obtain ⟨A, c, rfl, h1, h2, h3, -, -⟩ := h.row.form
  have hl := h.len
  rw [hl] at h1 ⊢
  exact ⟨A, c, rfl, h1, h2, ⟨hl, h3, fun _ _ _ => trivial, fun i a b => (h.each i a b).weak (fun _ _ _ => trivial)⟩⟩

/-- A batch that was said: its base, where its events lie, the events. -/
structure Bt where
  base : Nat
  A : Option Addr
  n : Nat
  c : Nat
  ds : List EvV
  ev : List Ev
def Bt.cells (b : Bt) : List Value := [.int .u64 (b.base : Int), .slice b.A b.n b.c]
def cellsB (l : List Bt) : List Value := l.flatMap Bt.cells
theorem cellsB_append (a b : List Bt) : cellsB (a ++ b) = cellsB a ++ cellsB b := by simp [cellsB]
theorem cellsB_length (l : List Bt) : (cellsB l).length = l.length * 2 := by
  induction l with
  | nil => rfl
  | cons d l ih => simp only [cellsB, List.flatMap_cons, List.length_append, List.length_cons] at ih ⊢; rw [ih]; simp [Bt.cells]; omega
theorem cellsB_get : ∀ (l : List Bt) (i : Nat) (h : i < l.length) (j : Nat), j < 2 → (cellsB l)[i * 2 + j]? = (l[i].cells)[j]?
  | d :: l, 0, _, j, hj => by
    rw [cellsB, List.flatMap_cons, Nat.zero_mul, Nat.zero_add, List.getElem?_append_left (by simpa [Bt.cells] using hj)]
    rfl
  | d :: l, i + 1, h, j, hj => by
    rw [cellsB, List.flatMap_cons, List.getElem?_append_right (by simp [Bt.cells]; omega)]
    have e : (i + 1) * 2 + j - d.cells.length = i * 2 + j := by simp [Bt.cells]; omega
    rw [e]
    exact cellsB_get l i (by simpa using h) j hj
theorem cellsB_one (l : List Bt) : ∀ u ∈ cellsB l, u.oneCell' = true := by
  intro u hu
  simp only [cellsB, List.mem_flatMap] at hu
  obtain ⟨d, _, hd⟩ := hu
  simp only [Bt.cells, List.mem_cons, List.not_mem_nil, or_false] at hd
  rcases hd with rfl | rfl <;> rfl
def BtR (ok : Nat → Prop) (w : World) (b : Bt) : Prop := b.ev.length = b.n ∧ EvsR ok w b.A b.ds b.ev ∧ b.n ≤ b.c ∧ b.c ≤ maxLen
/-- Batches in a row of one's own. -/
structure BtX (okr okt : Nat → Prop) (w : World) (v : Value) (l : List Bt) : Prop where
  row : w.ownsRow 0 72 2 v l.length (cellsB l)
  ok_ : ∀ k, v.ownBlock = some k → okr k
  each : ∀ b ∈ l, BtR okt w b
theorem BtR.frame {ok ok' : Nat → Prop} {w w' : World} {b : Bt} (h : BtR ok w b) (hs : w.heap.size ≤ w'.heap.size) (ht : ∀ k, ok k → k < w.heap.size → w'.heap[k]? = w.heap[k]?) (ht' : ∀ k, ok k → k < w.heap.size → ok' k) : BtR ok' w' b :=
  ⟨h.1, ((h.2.1.weak (ok' := fun k => ok k ∧ ok' k) (fun k hk hl => ⟨hk, ht' k hk hl⟩)).frame (fun k hk hl => ht k hk.1 hl) hs).weak (fun k hk _ => hk.2), h.2.2⟩
theorem BtX.frame {okr okt okr' okt' : Nat → Prop} {w w' : World} {v : Value} {l : List Bt} (h : BtX okr okt w v l) (hs : w.heap.size ≤ w'.heap.size) (hr : ∀ k, okr k → k < w.heap.size → w'.heap[k]? = w.heap[k]?)
    (ht : ∀ k, okt k → k < w.heap.size → w'.heap[k]? = w.heap[k]?) (hr' : ∀ k, okr k → k < w.heap.size → okr' k) (ht' : ∀ k, okt k → k < w.heap.size → okt' k) : BtX okr' okt' w' v l := by
  have hlt : ∀ k, v.ownBlock = some k → k < w.heap.size := fun k e => (World.ownsRow.lt h.row k e).2
  exact ⟨Own.frameK h.row (fun g e => hr g (h.ok_ g e) (hlt g e)), fun k e => hr' k (h.ok_ k e) (hlt k e), fun b hb => (h.each b hb).frame hs ht ht'⟩
/-- Numbers in a row of one's own. -/
structure NmX (okr : Nat → Prop) (w : World) (v : Value) (l : List Nat) : Prop where
  row : Own w 0 22 v (l.map fun (n : Nat) => .int .u64 (n : Int))
  ok_ : ∀ k, v.ownBlock = some k → okr k
theorem NmX.frame {okr okr' : Nat → Prop} {w w' : World} {v : Value} {l : List Nat} (h : NmX okr w v l) (hr : ∀ k, okr k → k < w.heap.size → w'.heap[k]? = w.heap[k]?) (hr' : ∀ k, okr k → k < w.heap.size → okr' k) : NmX okr' w' v l := by
  have hlt : ∀ k, v.ownBlock = some k → k < w.heap.size := fun k e => (World.ownsRow.lt h.row k e).2
  exact ⟨Own.frameK h.row (fun g e => hr g (h.ok_ g e) (hlt g e)), fun k e => hr' k (h.ok_ k e) (hlt k e)⟩
/-- A variable in a block of its own. -/
def Vr (c : Nat) (col : Nat → Nat) (w : World) (x : Nat) (v : Value) (t : TypeId) : Prop := w.heap[x]? = some (.cells #[v] t (0, 0)) ∧ col x = c
theorem Vr.cell {c : Nat} {col : Nat → Nat} {w : World} {x : Nat} {v : Value} {t : TypeId} (h : Vr c col w x v t) : w.cell? ⟨x, 0, none⟩ = some v := by rw [heap_cell h.1]; rfl
theorem Vr.free {c : Nat} {col : Nat → Nat} {w : World} {x : Nat} {v : Value} {t : TypeId} (h : Vr c col w x v t) : w.frozen? ⟨x, 0, none⟩ = false := heap_free h.1 0
theorem Vr.lt {c : Nat} {col : Nat → Nat} {w : World} {x : Nat} {v : Value} {t : TypeId} (h : Vr c col w x v t) : x < w.heap.size := heap_lt h.1

/-- Which blocks there are: the queue's 10, its list's 1, the inbox' 11, the five variables' 12 to 16, the rows' 5 to 8, what nobody writes 9, what was there 0. -/
structure BL where
  q : Nat
  b : Nat
  bq : Nat
  bb : Nat
  bg : Nat
  bs : Nat
  ba : Nat
/-- The law's world: the queue's events are all.drop came, accepted is the row va, got gl, the batches said, the acknowledgements acks. -/
structure PX (w0 : World) (B : BL) (came G : Nat) (es acc gl : List Ev) (said : List Bt) (acks : List Nat) (va : Value) (col : Nat → Nat) (vq vg vs vk : Value) (dq dA dG : List EvV) (w : World) : Prop where
  bel : Below w0.heap.size w0 w
  c0 : ∀ j, j < w0.heap.size → col j = 0
  qu : Qu (fun j => col j = 1) w B.q came vq dq es
  cq : col B.q = 10
  ib : Ib w B.b G
  cb : col B.b = 11
  xq : Vr 12 col w B.bq (.pointer (some ⟨B.q, 0, none⟩)) 40
  xb : Vr 13 col w B.bb (.pointer (some ⟨B.b, 0, none⟩)) 47
  xg : Vr 14 col w B.bg vg 23
  xs : Vr 15 col w B.bs vs 69
  xa : Vr 16 col w B.ba vk 70
  ac : EvX (fun j => col j = 5) (fun j => col j = 0) w va dA acc
  go : EvX (fun j => col j = 6) (fun j => col j = 9) w vg dG gl
  sa : BtX (fun j => col j = 7) (fun j => col j = 9) w vs said
  ak : NmX (fun j => col j = 8) w vk acks
/-- Colours for what is new. -/
def ext (col : Nat → Nat) (s c : Nat) (j : Nat) : Nat := if j < s then col j else c
theorem ext_lt {col : Nat → Nat} {s c j : Nat} (h : j < s) : ext col s c j = col j := if_pos h
theorem ext_ge {col : Nat → Nat} {s c j : Nat} (h : s ≤ j) : ext col s c j = c := if_neg (by omega)
/-- What stays of the law's world where blocks of the colours C alone are written. -/
structure PK (C : Nat → Prop) (w0 : World) (B : BL) (came G : Nat) (es acc gl : List Ev) (said : List Bt) (acks : List Nat) (va : Value) (col : Nat → Nat) (vq vg vs vk : Value) (dq dA dG : List EvV) (w : World) : Prop where
  bel : Below w0.heap.size w0 w
  c0 : ∀ j, j < w0.heap.size → col j = 0
  qu : ¬ C 1 → ¬ C 10 → Qu (fun j => col j = 1) w B.q came vq dq es
  cq : col B.q = 10
  ib : ¬ C 11 → Ib w B.b G
  cb : col B.b = 11
  xq : ¬ C 12 → Vr 12 col w B.bq (.pointer (some ⟨B.q, 0, none⟩)) 40
  xb : ¬ C 13 → Vr 13 col w B.bb (.pointer (some ⟨B.b, 0, none⟩)) 47
  xg : ¬ C 14 → Vr 14 col w B.bg vg 23
  xs : ¬ C 15 → Vr 15 col w B.bs vs 69
  xa : ¬ C 16 → Vr 16 col w B.ba vk 70
  ac : ¬ C 5 → EvX (fun j => col j = 5) (fun j => col j = 0) w va dA acc
  go : ¬ C 6 → EvX (fun j => col j = 6) (fun j => col j = 9) w vg dG gl
  sa : ¬ C 7 → BtX (fun j => col j = 7) (fun j => col j = 9) w vs said
  ak : ¬ C 8 → NmX (fun j => col j = 8) w vk acks
  acE : ∀ i (h1 : i < dA.length) (h2 : i < acc.length), EvR (fun j => col j = 0) w dA[i] acc[i]
  goE : ∀ i (h1 : i < dG.length) (h2 : i < gl.length), EvR (fun j => col j = 9) w dG[i] gl[i]
  saE : ∀ b ∈ said, BtR (fun j => col j = 9) w b
section
variable {w0 w w' : World} {B : BL} {came G : Nat} {es acc gl : List Ev} {said : List Bt} {acks : List Nat} {va : Value} {col col' : Nat → Nat} {vq vg vs vk : Value} {dq dA dG : List EvV}
theorem PX.keep (h : PX w0 B came G es acc gl said acks va col vq vg vs vk dq dA dG w) (C : Nat → Prop) (hC0 : ¬ C 0) (hC9 : ¬ C 9) (hk : Keeps (fun j => C (col j)) w w') (hcol : ∀ j, j < w.heap.size → col' j = col j) :
    PK C w0 B came G es acc gl said acks va col' vq vg vs vk dq dA dG w' := by
  have hs := hk.size
  have blk : ∀ c, ¬ C c → ∀ j, col j = c → j < w.heap.size → w'.heap[j]? = w.heap[j]? := fun c hc j hj hl => hk.block j hl (by rw [hj]; exact hc)
  have nc : ∀ c j, col j = c → j < w.heap.size → col' j = c := fun c j hj hl => (hcol j hl).trans hj
  have vr : ∀ c x v t, ¬ C c → Vr c col w x v t → Vr c col' w' x v t := fun c x v t hc hv => ⟨(blk c hc x hv.2 hv.lt).trans hv.1, nc c x hv.2 hv.lt⟩
  have z0 := h.bel.size
  exact {
    bel := h.bel.trans (hk.below (fun j hj => ⟨Nat.lt_of_lt_of_le hj z0, by rw [h.c0 j hj]; exact hC0⟩))
    c0 := fun j hj => (hcol j (Nat.lt_of_lt_of_le hj z0)).trans (h.c0 j hj)
    qu := fun h1 h10 => by
      have k := h.qu.keep (w' := w') (blk 10 h10 B.q h.cq h.qu.lt) (fun j hj hl => blk 1 h1 j hj hl)
      exact ⟨k.row, (h.qu.evs.weak (ok' := fun j => col j = 1 ∧ col' j = 1) (fun j hj hl => ⟨hj, nc 1 j hj hl⟩)).frame (fun j hj hl => blk 1 h1 j hj.1 hl) |>.weak (fun j hj _ => hj.2), fun e => by rw [nc 10 _ h.cq h.qu.lt] at e; omega⟩
    cq := nc 10 _ h.cq h.qu.lt
    ib := fun hc => h.ib.keep (blk 11 hc _ h.cb h.ib.lt)
    cb := nc 11 _ h.cb h.ib.lt
    xq := fun hc => vr _ _ _ _ hc h.xq
    xb := fun hc => vr _ _ _ _ hc h.xb
    xg := fun hc => vr _ _ _ _ hc h.xg
    xs := fun hc => vr _ _ _ _ hc h.xs
    xa := fun hc => vr _ _ _ _ hc h.xa
    ac := fun hc => h.ac.frame hs (blk 5 hc) (blk 0 hC0) (nc 5) (nc 0)
    go := fun hc => h.go.frame hs (blk 6 hc) (blk 9 hC9) (nc 6) (nc 9)
    sa := fun hc => h.sa.frame hs (blk 7 hc) (blk 9 hC9) (nc 7) (nc 9)
    ak := fun hc => h.ak.frame (blk 8 hc) (nc 8)
    acE := fun i h1 h2 => (((h.ac.each i h1 h2).weak (ok' := fun k => col k = 0 ∧ col' k = 0) (fun k hk hl => ⟨hk, nc 0 k hk hl⟩)).frame (fun k hk hl => blk 0 hC0 k hk.1 hl) hs).weak (fun k hk _ => hk.2)
    goE := fun i h1 h2 => (((h.go.each i h1 h2).weak (ok' := fun k => col k = 9 ∧ col' k = 9) (fun k hk hl => ⟨hk, nc 9 k hk hl⟩)).frame (fun k hk hl => blk 9 hC9 k hk.1 hl) hs).weak (fun k hk _ => hk.2)
    saE := fun b hb => (h.sa.each b hb).frame hs (blk 9 hC9) (nc 9) }
theorem PX.below (h : PX w0 B came G es acc gl said acks va col vq vg vs vk dq dA dG w) (hb : Below w.heap.size w w') (hcol : ∀ j, j < w.heap.size → col' j = col j) : PX w0 B came G es acc gl said acks va col' vq vg vs vk dq dA dG w' := by
  have k := h.keep (fun _ => False) id id ((Keeps.of_below hb (fun _ => False) (fun k hk _ => hk))) hcol
  exact ⟨k.bel, k.c0, k.qu id id, k.cq, k.ib id, k.cb, k.xq id, k.xb id, k.xg id, k.xs id, k.xa id, k.ac id, k.go id, k.sa id, k.ak id⟩
theorem PX.drewN (h : PX w0 B came G es acc gl said acks va col vq vg vs vk dq dA dG w) (n : Nat) : PX w0 B came G es acc gl said acks va col vq vg vs vk dq dA dG (w.drewN n) := h.below (below_drewN (Below.refl _ _) n) (fun _ _ => rfl)
end
def PE (w0 : World) (B : BL) (came G : Nat) (es acc gl : List Ev) (said : List Bt) (acks : List Nat) (va : Value) (w : World) : Prop := ∃ col vq vg vs vk dq dA dG, PX w0 B came G es acc gl said acks va col vq vg vs vk dq dA dG w
section
variable {w0 w w' : World} {B : BL} {came G : Nat} {es acc gl : List Ev} {said : List Bt} {acks : List Nat} {va : Value}
theorem PE.below (h : PE w0 B came G es acc gl said acks va w) (hb : Below w.heap.size w w') : PE w0 B came G es acc gl said acks va w' := by
  obtain ⟨col, vq, vg, vs, vk, dq, dA, dG, h⟩ := h
  exact ⟨col, vq, vg, vs, vk, dq, dA, dG, h.below hb (fun _ _ => rfl)⟩
theorem PE.drewN (h : PE w0 B came G es acc gl said acks va w) (n : Nat) : PE w0 B came G es acc gl said acks va (w.drewN n) := h.below (below_drewN (Below.refl _ _) n)
theorem PE.bel (h : PE w0 B came G es acc gl said acks va w) : Below w0.heap.size w0 w := by
  obtain ⟨col, vq, vg, vs, vk, dq, dA, dG, h⟩ := h
  exact h.bel
/-- A push. -/
theorem push_x {col : Nat → Nat} {vq vg vs vk : Value} {dq dA dG : List EvV} (h : PX w0 B came G es acc gl said acks va col vq vg vs vk dq dA dG w) (hu : U63 came) (hl : es.length ≤ 1000000000)
    (ok : Nat → Prop) (k x y b' : Int) (A : Option Addr) (n c' : Nat) (t : List UInt8) (ht : TxtR ok w A n c' t) (N er : Nat) (es' : List Ev) (hp : pushR came es ⟨k, t, x, y, b'⟩ = (N, er, es')) :
    Calls Try.prog 26 #[.pointer (some ⟨B.q, 0, none⟩), .agg #[.int .i64 k, .slice A n c', .int .i64 x, .int .i64 y, .int .i64 b']] w fun r w' =>
      r = .returned (.tuple #[.int .u64 (N : Int), .int .i64 (er : Int)]) ∧ (∃ v' ds', PX w0 B came G es' acc gl said acks va (ext col w.heap.size 1) v' vg vs vk ds' dA dG w') ∧ Keeps (fun j => col j = 10 ∨ col j = 1) w w' := by
  refine (Push_c (fun j => col j = 1) B.q came vq dq es w h.qu hu hl ok k x y b' A n c' t ht).mono ?_
  rintro r w' ⟨hr, ⟨v', ds', hQ⟩, hK⟩
  rw [hp] at hr hQ
  have k := h.keep (fun c => c = 10 ∨ c = 1) (by omega) (by omega) (hK.mono (fun j hj => by rcases hj with rfl | hj; exact .inl h.cq; exact .inr hj)) (col' := ext col w.heap.size 1) (fun j hj => ext_lt hj)
  have hQ2 : Qu (fun j => ext col w.heap.size 1 j = 1) w' B.q came v' ds' es' := by
    refine ⟨hQ.row, hQ.evs.weak (fun j hj _ => ?_), fun e => ?_⟩
    · rcases Nat.lt_or_ge j w.heap.size with h1 | h1
      · rcases hj with hj | hj
        · rw [ext_lt h1]; exact hj
        · omega
      · exact ext_ge h1
    · rw [k.cq] at e; omega
  refine ⟨hr, ⟨_, _, ⟨k.bel, k.c0, hQ2, k.cq, k.ib (by omega), k.cb, k.xq (by omega), k.xb (by omega), k.xg (by omega), k.xs (by omega), k.xa (by omega), k.ac (by omega), k.go (by omega), k.sa (by omega), k.ak (by omega)⟩⟩, hK.mono (fun j hj => by rcases hj with rfl | hj; exact .inl h.cq; exact .inr hj)⟩
theorem ack_x (h : PE w0 B came G es acc gl said acks va w) (hu : U63 came) (hl : es.length ≤ 1000000000) (x : Nat) (hx : U64 x) (N gt : Nat) (es' : List Ev) (hp : ackR came es x = (N, gt, es')) :
    Calls Try.prog 27 #[.pointer (some ⟨B.q, 0, none⟩), .int .u64 x] w fun r w' => r = .returned (.int .i64 (N : Int)) ∧ PE w0 B gt G es' acc gl said acks va w' := by
  obtain ⟨col, vq, vg, vs, vk, dq, dA, dG, h⟩ := h
  refine (Ack_c (fun j => col j = 1) B.q came vq dq es w h.qu hu hl x hx).mono ?_
  rintro r w' ⟨hr, ⟨v', ds', hQ⟩, hK⟩
  rw [hp] at hr hQ
  have k := h.keep (fun c => c = 10) (by omega) (by omega) (hK.mono (fun j hj => by rw [hj]; exact h.cq)) (col' := ext col w.heap.size 1) (fun j hj => ext_lt hj)
  have hQ2 : Qu (fun j => ext col w.heap.size 1 j = 1) w' B.q gt v' ds' es' := by
    refine ⟨hQ.row, hQ.evs.weak (fun j hj _ => ?_), fun e => ?_⟩
    · rcases Nat.lt_or_ge j w.heap.size with h1 | h1
      · rcases hj with hj | hj
        · rw [ext_lt h1]; exact hj
        · omega
      · exact ext_ge h1
    · rw [k.cq] at e; omega
  exact ⟨hr, ⟨_, _, _, _, _, _, _, _, ⟨k.bel, k.c0, hQ2, k.cq, k.ib (by omega), k.cb, k.xq (by omega), k.xb (by omega), k.xg (by omega), k.xs (by omega), k.xa (by omega), k.ac (by omega), k.go (by omega), k.sa (by omega), k.ak (by omega)⟩⟩⟩
theorem got_x (h : PE w0 B came G es acc gl said acks va w) : Calls Try.prog 37 #[.pointer (some ⟨B.b, 0, none⟩)] w fun r w' => r = .returned (.int .u64 (G : Int)) ∧ w = w' := by
  obtain ⟨col, vq, vg, vs, vk, dq, dA, dG, h⟩ := h
  exact Got_c B.b G w h.ib
/-- What comes next: in blocks of the colour 9. -/
theorem batch_x {col : Nat → Nat} {vq vg vs vk : Value} {dq dA dG : List EvV} (h : PX w0 B came G es acc gl said acks va col vq vg vs vk dq dA dG w) (hl : es.length ≤ 1000000000) :
    Calls Try.prog 34 #[.pointer (some ⟨B.q, 0, none⟩)] w fun r w' => ∃ v', r = .returned (.tuple #[.int .u64 (came : Int), v']) ∧ Evs (fun j => ext col w.heap.size 9 j = 9) w' v' (es.take 16) ∧ PX w0 B came G es acc gl said acks va (ext col w.heap.size 9) vq vg vs vk dq dA dG w' := by
  refine (Batch_c (fun j => col j = 1) B.q came vq dq es w h.qu hl).mono ?_
  rintro r w' ⟨v', hr, ⟨ds, hE⟩, hb⟩
  exact ⟨v', hr, ⟨ds, hE.weak (fun k h1 _ => ext_ge h1)⟩, h.below hb (fun j hj => ext_lt hj)⟩
theorem take_x {col : Nat → Nat} {vq vg vs vk : Value} {dq dA dG : List EvV} (h : PX w0 B came G es acc gl said acks va col vq vg vs vk dq dA dG w) (ok : Nat → Prop) (hg : U63 G) (base : Nat) (hu : U64 base) (A : Option Addr) (n k : Nat) (ds : List EvV) (ev : List Ev) (hn : ev.length = n) (hr : EvsR ok w A ds ev) (hc : n ≤ k) (hm : k ≤ maxLen) (hl : n ≤ 140737488355328) :
    Calls Try.prog 32 #[.pointer (some ⟨B.b, 0, none⟩), .int .u64 base, .slice A n k] w fun r w' => ∃ v, r = .returned (.tuple #[v, .int .i64 ((takeR G base ev).2.1 : Int)]) ∧ Evs (fun j => ext col w.heap.size 9 j = 9) w' v (takeR G base ev).1 ∧
      PX w0 B came (takeR G base ev).2.2 es acc gl said acks va (ext col w.heap.size 9) vq vg vs vk dq dA dG w' ∧ Keeps (fun j => j = B.b) w w' := by
  refine (Take24_c ok B.b G base A n k ds ev w hg hu h.ib hn hr hc hm hl).mono ?_
  rintro r w' ⟨v, hr, ⟨ds', hE⟩, hI, hG⟩
  have hK : Keeps (fun j => j = B.b) w w' := Keeps.of_grown hG _ (fun k hk => by injection hk with hk; exact hk.symm)
  have kk := h.keep (fun c => c = 11) (by omega) (by omega) (hK.mono (fun j hj => by rw [hj]; exact h.cb)) (col' := ext col w.heap.size 9) (fun j hj => ext_lt hj)
  exact ⟨v, hr, ⟨ds', hE.weak (fun k h1 _ => ext_ge h1)⟩, ⟨kk.bel, kk.c0, kk.qu (by omega) (by omega), kk.cq, hI, kk.cb, kk.xq (by omega), kk.xb (by omega), kk.xg (by omega), kk.xs (by omega), kk.xa (by omega), kk.ac (by omega), kk.go (by omega), kk.sa (by omega), kk.ak (by omega)⟩, hK⟩
end
end Go.Proofs.Ytgnciejbhaebeaa

/- What is appended in the law on a queue's batches: to the accepted, the got, the said, the acknowledgements. Conditions: lengths that fit. -/
namespace Go.Proofs.Ytgnciejbhaebeaa
open Go Go.RowKit

theorem info_bt : (Try.prog.info? 72).map (fun i => (i.zero, i.size, i.bytes)) = some (some (.agg #[.int .u64 0, .slice none 0 0]), 2, 32) := by kernel_rfl
theorem info_num : (Try.prog.info? 22).map (fun i => (i.zero, i.size, i.bytes)) = some (some (.int .u64 0), 1, 8) := by kernel_rfl
/-- 'append(said, one batch)'. -/
theorem wpList_appBt (w : World) {ops : Array Oper} {rest : List Oper} {o : Oper} {a : Act} {Q : Exit → Act → World → Prop} (hgd : o.guard = none) (s x : Operand)
    (ho : o.op = .call { callee := .builtin .append, args := #[s, x], argTypes := #[69, 69] })
    (B : Nat) (v : Value) (l : List Bt) (hs : a.eval s = v) (hown : w.ownsRow B 72 2 v l.length (cellsB l))
    (A : Option Addr) (c : Nat) (b : Bt) (hx : a.eval x = .slice A 1 c) (hr : Rd w A b.cells)
    (hlen : l.length ≤ 1000000000) (hB : B ≤ w.heap.size)
    (h : ∀ v' w', Hid (w'.ownsRow B 72 2 v' (l ++ [b]).length (cellsB (l ++ [b]))) → w.grownBy w' v.ownBlock → (v'.ownBlock = v.ownBlock ∨ v'.ownBlock = some w.heap.size) → wpList Try.prog ops Q rest (a.put o.dst v') w') : wpList Try.prog ops Q (o :: rest) a w := by
  obtain ⟨i0, hi, hz0, hz1, hz2⟩ := info_parts info_bt
  refine wpList_plain hgd fun K hK => ?_
  obtain ⟨v', w', hrun, h2, h3, h4⟩ := run_appN (P := Try.prog) w B 69 o.type 72 i0 _ 2 32 Try.underlying69 hi hz0 hz1 hz2 rfl (by decide) v l.length (cellsB l) hown A 1 c b.cells rfl hr
    (fun u hu => cellsB_one [b] u (by simpa [cellsB] using hu)) (by unfold maxLen; omega) (by omega) hB
  unfold Oper.wp execOp
  simp only [ho, resolve, invoke, builtin, Sem.run_bind, Sem.run_pure, Result.andThen_ok, List.map_toArray, List.map_cons, List.map_nil, hs, hx, hrun]
  refine hK _ _ (h v' w' (Lib.hid ?_) h3 h4)
  rw [cellsB_append, List.length_append]
  simpa [cellsB] using h2
/-- 'append(acks, one number)'. -/
theorem wpList_appNm (w : World) {ops : Array Oper} {rest : List Oper} {o : Oper} {a : Act} {Q : Exit → Act → World → Prop} (hgd : o.guard = none) (s x : Operand)
    (ho : o.op = .call { callee := .builtin .append, args := #[s, x], argTypes := #[70, 70] })
    (B : Nat) (v : Value) (l : List Nat) (hs : a.eval s = v) (hown : Own w B 22 v (l.map fun (n : Nat) => .int .u64 (n : Int)))
    (A : Option Addr) (c : Nat) (n : Nat) (hx : a.eval x = .slice A 1 c) (hr : Rd w A [.int .u64 (n : Int)])
    (hlen : l.length ≤ 1000000000) (hB : B ≤ w.heap.size)
    (h : ∀ v' w', Hid (Own w' B 22 v' ((l ++ [n]).map fun (n : Nat) => .int .u64 (n : Int))) → w.grownBy w' v.ownBlock → (v'.ownBlock = v.ownBlock ∨ v'.ownBlock = some w.heap.size) → wpList Try.prog ops Q rest (a.put o.dst v') w') : wpList Try.prog ops Q (o :: rest) a w := by
  obtain ⟨i0, hi, hz0, hz1, hz2⟩ := info_parts info_num
  refine wpList_app w hgd s x 70 ho B 22 i0 (.int .u64 0) 8 Try.underlying70 hi hz0 hz1 hz2 rfl v _ hs hown A 1 c [.int .u64 (n : Int)] hx rfl hr (fun u hu => by simp at hu; subst hu; rfl) (by simp only [List.length_map, maxLen]; omega) (by simp only [List.length_map]; omega) hB ?_
  intro v' w' h1 h2 h3
  exact h v' w' (Lib.hid (by simpa using h1)) h2 h3
/-- The same as a step of a region that draws its order. -/
theorem step_appNm {ops : Array Oper} {o : Oper} {a : Act} {w : World} {K : Act → World → Prop} {Q : Exit → Act → World → Prop} {E : Prop} (hgd : o.guard = none) (s x : Operand)
    (ho : o.op = .call { callee := .builtin .append, args := #[s, x], argTypes := #[70, 70] })
    (B : Nat) (v : Value) (l : List Nat) (hs : a.eval s = v) (hown : Own w B 22 v (l.map fun (n : Nat) => .int .u64 (n : Int)))
    (A : Option Addr) (c : Nat) (n : Nat) (hx : a.eval x = .slice A 1 c) (hr : Rd w A [.int .u64 (n : Int)])
    (hlen : l.length ≤ 1000000000) (hB : B ≤ w.heap.size)
    (h : ∀ v' w', Hid (Own w' B 22 v' ((l ++ [n]).map fun (n : Nat) => .int .u64 (n : Int))) → w.grownBy w' v.ownBlock → (v'.ownBlock = v.ownBlock ∨ v'.ownBlock = some w.heap.size) → K (a.put o.dst v') w') :
    if Region.wanted o (yielded ops a.tmps) = true then Oper.wp Try.prog o a w K Q else E := by
  rw [if_pos (wanted_none hgd)]
  obtain ⟨i0, hi, hz0, hz1, hz2⟩ := info_parts info_num
  obtain ⟨v', w', hrun, h2, h3, h4⟩ := run_app (P := Try.prog) w B 70 o.type 22 i0 (.int .u64 0) 8 Try.underlying70 hi hz0 hz1 hz2 rfl v _ hown A 1 c [.int .u64 (n : Int)] rfl hr (fun u hu => by simp at hu; subst hu; rfl) (by simp only [List.length_map, maxLen]; omega) (by simp only [List.length_map]; omega) hB
  unfold Oper.wp execOp
  simp only [ho, resolve, invoke, builtin, Sem.run_bind, Sem.run_pure, Result.andThen_ok, List.map_toArray, List.map_cons, List.map_nil, hs, hx, hrun]
  exact h v' w' (Lib.hid (by simpa using h2)) h3 h4
section
variable {w0 w w' : World} {B : BL} {came G : Nat} {es acc gl : List Ev} {said : List Bt} {acks : List Nat} {va : Value} {col : Nat → Nat} {vq vg vs vk v' : Value} {dq dA dG ns : List EvV}
/-- The accepted have one more. -/
theorem PX.acc_ (h : PX w0 B came G es acc gl said acks va col vq vg vs vk dq dA dG w) (ho : OwnV w' 0 v' (dA ++ ns)) (hg : w.grownBy w' va.ownBlock) (hv : v'.ownBlock = va.ownBlock ∨ v'.ownBlock = some w.heap.size) (e : Ev) (d : EvV) (hns : ns = [d]) (hd0 : EvR (· < w0.heap.size) w0 d e) :
    PX w0 B came G es (acc ++ [e]) gl said acks v' (ext col w.heap.size 5) vq vg vs vk dq (dA ++ ns) dG w' := by
  subst hns
  have hb0 : Below w0.heap.size w0 w' := h.bel.grown hg h.bel.size (fun j hj => by
    rcases Nat.lt_or_ge j w0.heap.size with h1 | h1
    · have := h.c0 j h1; have := h.ac.ok_ j hj; omega
    · exact h1)
  have hd := hd0.frame (w' := w') (fun j _ hj => hb0.block j hj) hb0.size
  have k := h.keep (fun c => c = 5) (by omega) (by omega) ((Keeps.of_grown hg (fun j => va.ownBlock = some j) (fun j hj => hj)).mono (fun j hj => h.ac.ok_ j hj)) (col' := ext col w.heap.size 5) (fun j hj => ext_lt hj)
  refine ⟨k.bel, k.c0, k.qu (by omega) (by omega), k.cq, k.ib (by omega), k.cb, k.xq (by omega), k.xb (by omega), k.xg (by omega), k.xs (by omega), k.xa (by omega), ⟨by simp [h.ac.len], ho, fun j hj => ?_, fun i h1 h2 => ?_⟩, k.go (by omega), k.sa (by omega), k.ak (by omega)⟩
  · rcases hv with hv | hv
    · rw [hv] at hj
      rw [ext_lt (World.ownsRow.lt h.ac.row j hj).2]
      exact h.ac.ok_ j hj
    · rw [hv] at hj; injection hj with hj
      exact ext_ge (by omega)
  · have hl := h.ac.len
    rcases Nat.lt_or_ge i dA.length with h3 | h3
    · rw [List.getElem_append_left h3, List.getElem_append_left (by omega)]
      exact k.acE i h3 (by omega)
    · simp only [List.length_append, List.length_cons, List.length_nil] at h1
      obtain rfl : i = dA.length := by omega
      have e1 : (dA ++ [d])[dA.length] = d := by simp
      have e2 : (acc ++ [e])[dA.length] = e := by simp [hl]
      rw [e1, e2]
      exact hd.weak (fun j hj _ => k.c0 j hj)
/-- What the inbox took stands behind what it got. -/
theorem PX.got_ (h : PX w0 B came G es acc gl said acks va col vq vg vs vk dq dA dG w) (ho : OwnV w' 0 v' (dG ++ ns)) (hg : w.grownBy w' vg.ownBlock) (hv : v'.ownBlock = vg.ownBlock ∨ v'.ownBlock = some w.heap.size) (L : List Ev) (v : Value) (hL : EvsO (fun j => col j = 9) w v ns L) :
    PX w0 B came G es acc (gl ++ L) said acks va (ext col w.heap.size 6) vq v' vs vk dq dA (dG ++ ns) (w'.setCell ⟨B.bg, 0, none⟩ v') := by
  have hK0 : Keeps (fun j => vg.ownBlock = some j) w w' := Keeps.of_grown hg _ (fun j hj => hj)
  have hK1 : Keeps (fun j => col j = 6 ∨ col j = 14) w w' := hK0.mono (fun j hj => .inl (h.go.ok_ j hj))
  have hK := hK1.trans (Keeps.set (fun j => col j = 6 ∨ col j = 14) w' ⟨B.bg, 0, none⟩ v' (.inr h.xg.2))
  have k := h.keep (fun c => c = 6 ∨ c = 14) (by omega) (by omega) hK (col' := ext col w.heap.size 6) (fun j hj => ext_lt hj)
  have hlt := h.xg.lt
  have hbg : w'.heap[B.bg]? = some (.cells #[vg] 23 (0, 0)) := (hK0.block _ hlt (fun e => by have := h.go.ok_ _ e; have := h.xg.2; omega)).trans h.xg.1
  have hvn : ∀ j, v'.ownBlock = some j → ext col w.heap.size 6 j = 6 ∧ j ≠ B.bg := fun j hj => by
    rcases hv with hv | hv
    · rw [hv] at hj
      have c6 := h.go.ok_ j hj
      rw [ext_lt (World.ownsRow.lt h.go.row j hj).2]
      exact ⟨c6, fun e => by have := h.xg.2; rw [← e] at this; omega⟩
    · rw [hv] at hj; injection hj with hj
      exact ⟨ext_ge (by omega), by omega⟩
  refine ⟨k.bel, k.c0, k.qu (by omega) (by omega), k.cq, k.ib (by omega), k.cb, k.xq (by omega), k.xb (by omega), ⟨?_, (ext_lt hlt).trans h.xg.2⟩, k.xs (by omega), k.xa (by omega), k.ac (by omega),
    ⟨by simp [h.go.len, hL.len], Own.frameK ho (fun g eg => heap_far _ (hvn g eg).2), fun j hj => (hvn j hj).1, fun i h1 h2 => ?_⟩, k.sa (by omega), k.ak (by omega)⟩
  · rw [heap_set hbg 0]
    rfl
  · have hl := h.go.len
    rcases Nat.lt_or_ge i dG.length with h3 | h3
    · rw [List.getElem_append_left h3, List.getElem_append_left (by omega)]
      exact k.goE i h3 (by omega)
    · rw [List.getElem_append_right h3, List.getElem_append_right (by omega)]
      have hh := (hL.each (i - dG.length) (by simp at h1; omega) (by simp at h2; omega)).r
      have := ((hh.weak (ok' := fun j => col j = 9 ∧ ext col w.heap.size 6 j = 9) (fun j hj hl => ⟨hj, (ext_lt hl).trans hj⟩)).frame (w' := w'.setCell ⟨B.bg, 0, none⟩ v') (fun j hj hl => hK.block j hl (by have := hj.1; omega)) hK.size).weak (ok' := fun j => ext col w.heap.size 6 j = 9) (fun j hj _ => hj.2)
      simpa only [hl] using this
/-- One more batch is said. -/
theorem PX.said_ (h : PX w0 B came G es acc gl said acks va col vq vg vs vk dq dA dG w) (b : Bt) (ho : w'.ownsRow 0 72 2 v' (said ++ [b]).length (cellsB (said ++ [b]))) (hg : w.grownBy w' vs.ownBlock) (hv : v'.ownBlock = vs.ownBlock ∨ v'.ownBlock = some w.heap.size) (hb : BtR (fun j => col j = 9) w b) :
    PX w0 B came G es acc gl (said ++ [b]) acks va (ext col w.heap.size 7) vq vg v' vk dq dA dG (w'.setCell ⟨B.bs, 0, none⟩ v') := by
  have hK0 : Keeps (fun j => vs.ownBlock = some j) w w' := Keeps.of_grown hg _ (fun j hj => hj)
  have hK1 : Keeps (fun j => col j = 7 ∨ col j = 15) w w' := hK0.mono (fun j hj => .inl (h.sa.ok_ j hj))
  have hK := hK1.trans (Keeps.set (fun j => col j = 7 ∨ col j = 15) w' ⟨B.bs, 0, none⟩ v' (.inr h.xs.2))
  have k := h.keep (fun c => c = 7 ∨ c = 15) (by omega) (by omega) hK (col' := ext col w.heap.size 7) (fun j hj => ext_lt hj)
  have hlt := h.xs.lt
  have hbg : w'.heap[B.bs]? = some (.cells #[vs] 69 (0, 0)) := (hK0.block _ hlt (fun e => by have := h.sa.ok_ _ e; have := h.xs.2; omega)).trans h.xs.1
  have hvn : ∀ j, v'.ownBlock = some j → ext col w.heap.size 7 j = 7 ∧ j ≠ B.bs := fun j hj => by
    rcases hv with hv | hv
    · rw [hv] at hj
      have c6 := h.sa.ok_ j hj
      rw [ext_lt (World.ownsRow.lt h.sa.row j hj).2]
      exact ⟨c6, fun e => by have := h.xs.2; rw [← e] at this; omega⟩
    · rw [hv] at hj; injection hj with hj
      exact ⟨ext_ge (by omega), by omega⟩
  refine ⟨k.bel, k.c0, k.qu (by omega) (by omega), k.cq, k.ib (by omega), k.cb, k.xq (by omega), k.xb (by omega), k.xg (by omega), ⟨?_, (ext_lt hlt).trans h.xs.2⟩, k.xa (by omega), k.ac (by omega), k.go (by omega),
    ⟨Own.frameK ho (fun g eg => heap_far _ (hvn g eg).2), fun j hj => (hvn j hj).1, fun x hx => ?_⟩, k.ak (by omega)⟩
  · rw [heap_set hbg 0]
    rfl
  · rcases List.mem_append.1 hx with hx | hx
    · exact k.saE x hx
    · obtain rfl : x = b := by simpa using hx
      exact hb.frame hK.size (fun j hj hl => hK.block j hl (by omega)) (fun j hj hl => (ext_lt hl).trans hj)
theorem PX.saidc (h : PX w0 B came G es acc gl said acks va col vq vg vs vk dq dA dG w) (hg : w.grownBy w' vs.ownBlock) : w'.cell? ⟨B.bs, 0, none⟩ = some vs ∧ w'.frozen? ⟨B.bs, 0, none⟩ = false := by
  have hh : w'.heap[B.bs]? = some (.cells #[vs] 69 (0, 0)) := (hg.block _ h.xs.lt (fun e => by have := h.sa.ok_ _ e.symm; have := h.xs.2; omega)).trans h.xs.1
  exact ⟨by rw [heap_cell hh]; rfl, heap_free hh 0⟩
theorem PX.gotc (h : PX w0 B came G es acc gl said acks va col vq vg vs vk dq dA dG w) (hg : w.grownBy w' vg.ownBlock) : w'.cell? ⟨B.bg, 0, none⟩ = some vg ∧ w'.frozen? ⟨B.bg, 0, none⟩ = false := by
  have hh : w'.heap[B.bg]? = some (.cells #[vg] 23 (0, 0)) := (hg.block _ h.xg.lt (fun e => by have := h.go.ok_ _ e.symm; have := h.xg.2; omega)).trans h.xg.1
  exact ⟨by rw [heap_cell hh]; rfl, heap_free hh 0⟩
theorem PX.ackc (h : PX w0 B came G es acc gl said acks va col vq vg vs vk dq dA dG w) (hg : w.grownBy w' vk.ownBlock) : w'.cell? ⟨B.ba, 0, none⟩ = some vk ∧ w'.frozen? ⟨B.ba, 0, none⟩ = false := by
  have hh : w'.heap[B.ba]? = some (.cells #[vk] 70 (0, 0)) := (hg.block _ h.xa.lt (fun e => by have := h.ak.ok_ _ e.symm; have := h.xa.2; omega)).trans h.xa.1
  exact ⟨by rw [heap_cell hh]; rfl, heap_free hh 0⟩
/-- One more acknowledgement. -/
theorem PX.ack_ (h : PX w0 B came G es acc gl said acks va col vq vg vs vk dq dA dG w) (n : Nat) (ho : Own w' 0 22 v' ((acks ++ [n]).map fun (n : Nat) => .int .u64 (n : Int))) (hg : w.grownBy w' vk.ownBlock) (hv : v'.ownBlock = vk.ownBlock ∨ v'.ownBlock = some w.heap.size) :
    PX w0 B came G es acc gl said (acks ++ [n]) va (ext col w.heap.size 8) vq vg vs v' dq dA dG (w'.setCell ⟨B.ba, 0, none⟩ v') := by
  have hK0 : Keeps (fun j => vk.ownBlock = some j) w w' := Keeps.of_grown hg _ (fun j hj => hj)
  have hK1 : Keeps (fun j => col j = 8 ∨ col j = 16) w w' := hK0.mono (fun j hj => .inl (h.ak.ok_ j hj))
  have hK := hK1.trans (Keeps.set (fun j => col j = 8 ∨ col j = 16) w' ⟨B.ba, 0, none⟩ v' (.inr h.xa.2))
  have k := h.keep (fun c => c = 8 ∨ c = 16) (by omega) (by omega) hK (col' := ext col w.heap.size 8) (fun j hj => ext_lt hj)
  have hlt := h.xa.lt
  have hbg : w'.heap[B.ba]? = some (.cells #[vk] 70 (0, 0)) := (hK0.block _ hlt (fun e => by have := h.ak.ok_ _ e; have := h.xa.2; omega)).trans h.xa.1
  have hvn : ∀ j, v'.ownBlock = some j → ext col w.heap.size 8 j = 8 ∧ j ≠ B.ba := fun j hj => by
    rcases hv with hv | hv
    · rw [hv] at hj
      have c6 := h.ak.ok_ j hj
      rw [ext_lt (World.ownsRow.lt h.ak.row j hj).2]
      exact ⟨c6, fun e => by have := h.xa.2; rw [← e] at this; omega⟩
    · rw [hv] at hj; injection hj with hj
      exact ⟨ext_ge (by omega), by omega⟩
  refine ⟨k.bel, k.c0, k.qu (by omega) (by omega), k.cq, k.ib (by omega), k.cb, k.xq (by omega), k.xb (by omega), k.xg (by omega), k.xs (by omega), ⟨?_, (ext_lt hlt).trans h.xa.2⟩, k.ac (by omega), k.go (by omega), k.sa (by omega),
    ⟨Own.frameK ho (fun g eg => heap_far _ (hvn g eg).2), fun j hj => (hvn j hj).1⟩⟩
  rw [heap_set hbg 0]
  rfl
end
theorem row_form {w : World} {B : Nat} {e : TypeId} {s n : Nat} {v : Value} {vs : List Value} (h : w.ownsRow B e s v n vs) : ∃ A c, v = .slice A n c ∧ n ≤ c ∧ c ≤ maxLen ∧ Rd w A vs := by
  have hh := h
  obtain ⟨hl, h2⟩ := h
  rcases h2 with ⟨rfl, h0⟩ | ⟨g, cap, cur, rfl, hb, hg, hn, hm, hcs, ht⟩
  · have : vs = [] := by
      apply List.eq_nil_of_length_eq_zero
      rw [hl, h0]; simp
    rw [h0]
    exact ⟨none, 0, rfl, Nat.le_refl _, Nat.zero_le _, .inl this⟩
  · refine ⟨some ⟨g, 0, none⟩, cap, rfl, hn, hm, .inr ⟨g, 0, rfl, (Array.getElem?_eq_some_iff.1 hg).1, fun k hk => ?_⟩⟩
    rw [Nat.zero_add, hh.cellAt k (by omega), List.getElem?_eq_getElem hk]
end Go.Proofs.Ytgnciejbhaebeaa

/- The two closures of the law on a queue's batches: what is said, what comes. Conditions: lengths that fit. -/
namespace Go.Proofs.Ytgnciejbhaebeaa
open Go Go.RowKit

def Bt.pl (b : Bt) : Nat × List Ev := (b.base, b.ev)
def PF (w0 : World) (B : BL) (came G : Nat) (es acc gl : List Ev) (ps : List (Nat × List Ev)) (acks : List Nat) (va : Value) (w : World) : Prop := ∃ said, said.map Bt.pl = ps ∧ PE w0 B came G es acc gl said acks va w
theorem PF.bel {w0 w : World} {B : BL} {came G : Nat} {es acc gl : List Ev} {ps : List (Nat × List Ev)} {acks : List Nat} {va : Value} (h : PF w0 B came G es acc gl ps acks va w) : Below w0.heap.size w0 w := by
  obtain ⟨_, _, h⟩ := h
  exact h.bel
theorem PF.below {w0 w w' : World} {B : BL} {came G : Nat} {es acc gl : List Ev} {ps : List (Nat × List Ev)} {acks : List Nat} {va : Value} (h : PF w0 B came G es acc gl ps acks va w) (hb : Below w.heap.size w w') : PF w0 B came G es acc gl ps acks va w' := by
  obtain ⟨s, e, h⟩ := h
  exact ⟨s, e, h.below hb⟩
def sayR (came : Nat) (es : List Ev) (ps : List (Nat × List Ev)) : List (Nat × List Ev) := if es.take 16 = [] then ps else ps ++ [(came, es.take 16)]

set_option maxRecDepth 100000 in
set_option maxHeartbeats 4000000 in
theorem say_c (w0 : World) (B : BL) (came G : Nat) (es acc gl : List Ev) (ps : List (Nat × List Ev)) (acks : List Nat) (va : Value) (w : World) (h : PF w0 B came G es acc gl ps acks va w) (hl : es.length ≤ 1000000000) (hp : ps.length ≤ 1000000000) :
    Calls Try.prog 38 #[.pointer (some ⟨B.bq, 0, none⟩), .pointer (some ⟨B.bs, 0, none⟩)] w fun r w' => r = .returned (.tuple #[]) ∧ PF w0 B came G es acc gl (sayR came es ps) acks va w' := by
  obtain ⟨said, eps, col, vq, vg, vs, vk, dq, dA, dG, h⟩ := h
  obtain ⟨As, cs, evs, s1, s2, s3⟩ := row_form h.sa.row
  subst evs
  have hsl : said.length ≤ 1000000000 := by rw [← eps, List.length_map] at hp; exact hp
  have EPS := Lib.hid eps; clear eps hp
  have xq := h.xq.cell
  have HX := Lib.hid h; clear h s1 s2 s3
  obtain ⟨L, eL⟩ : ∃ L, L = es.take 16 := ⟨_, rfl⟩
  have hLl : L.length ≤ 16 := by rw [eL]; exact List.length_take_le _ _
  have EL := Lib.hid eL; clear eL
  go_enter Try.func38, Try.ntmps38
  go_wp2_with (fail)
  refine (batch_x HX.out hl).mono ?_
  rintro r w1 ⟨v1, rfl, ⟨d1, hE1⟩, hX1⟩
  rw [← EL.out] at hE1
  obtain ⟨A1, cp1, ev1, f1, f2, hR1⟩ := hE1.form
  obtain ⟨nl, enl⟩ : ∃ nl, nl = L.length := ⟨_, rfl⟩
  rw [← enl] at ev1 f1 hLl
  subst ev1
  have ENL := Lib.hid enl; clear enl
  have HX1 := Lib.hid hX1
  have R1 := Lib.hid hR1
  have F1 := Lib.hid f1
  have F2 := Lib.hid f2
  clear hE1 hX1 hR1 xq HX f1 f2
  rcases Nat.eq_zero_or_pos nl with h0 | h0
  · have hR : sayR came es ps = ps := by rw [sayR, if_pos (by rw [← EL.out]; exact List.eq_nil_of_length_eq_zero (ENL.out.symm.trans h0))]
    have HR := Lib.hid hR
    have d0 : decide (0 < nl) = false := decide_eq_false (by omega)
    clear h0 hR
    go_wp2_with (fail)
    go_end0
    exact ⟨rfl, said, EPS.out.trans HR.out.symm, _, _, _, _, _, _, _, _, HX1.out⟩
  · have hR : sayR came es ps = ps ++ [(came, L)] := by rw [sayR, if_neg (by rw [← EL.out]; intro e; rw [e] at ENL; have := ENL.out; simp at this; omega), EL.out]
    have HR := Lib.hid hR
    have d0 : decide (0 < nl) = true := decide_eq_true (by omega)
    clear h0 hR
    have xs := HX1.out.xs.cell
    obtain ⟨bt, ebt⟩ : ∃ bt : Bt, bt = ⟨came, A1, nl, cp1, d1, L⟩ := ⟨_, rfl⟩
    have hbt : BtR (fun j => ext col w.heap.size 9 j = 9) w1 bt := by rw [ebt]; exact ⟨ENL.out.symm, R1.out, F1.out, F2.out⟩
    have hbp : bt.pl = (came, L) := by rw [ebt]; rfl
    have hbc : bt.cells = [.int .u64 (came : Int), .slice A1 nl cp1] := by rw [ebt]; rfl
    have HBT := Lib.hid hbt
    have HBP := Lib.hid hbp
    have HBC := Lib.hid hbc
    clear ebt hbt hbp hbc
    have hX2 := HX1.out.below (w' := w1.alloc (.cells #[.int .u64 (came : Int), .slice A1 nl cp1] 72)) ((Below.refl _ _).alloc (Nat.le_refl _) _) (fun _ _ => rfl)
    have hb2 := HBT.out.frame (ok' := fun j => ext col w.heap.size 9 j = 9) (w' := w1.alloc (.cells #[.int .u64 (came : Int), .slice A1 nl cp1] 72)) (by simp) (fun j _ hl => Below.heap_alloc w1 _ j hl) (fun _ hj _ => hj)
    have HX2 := Lib.hid hX2
    have HB2 := Lib.hid hb2
    clear hX2 hb2 R1 F1 F2 HBT
    go_wp2_with (at_builtin; refine wpList_appBt _ rfl (.tmp 12) (.tmp 16) rfl 0 _ said rfl HX2.out.sa.row (some ⟨w1.heap.size, 0, none⟩) 1 bt rfl (HBC.out ▸ Rd.lit w1 [.int .u64 (came : Int), .slice A1 nl cp1] 72) hsl (Nat.zero_le _) ?_; intro v3 w3 ho3 hg3 hv3; obtain ⟨A3, c3, e3, q3, q4, q5⟩ := row_form ho3.out; replace e3 : v3 = .slice A3 (said.length + 1) c3 := e3.trans (by simp); subst e3; clear q3 q4 q5; have HX3 := Lib.hid (HX2.out.said_ bt ho3.out hg3 hv3 HB2.out); obtain ⟨x3, y3⟩ := HX2.out.saidc hg3; clear ho3 hg3 hv3 xs)
    go_end0
    exact ⟨rfl, said ++ [bt], by rw [List.map_append, EPS.out, HR.out]; simp [HBP.out], _, _, _, _, _, _, _, _, HX3.out⟩

set_option maxRecDepth 100000 in
set_option maxHeartbeats 4000000 in
theorem come_c (w0 : World) (B : BL) (came G : Nat) (es acc gl : List Ev) (ps : List (Nat × List Ev)) (acks : List Nat) (va : Value) (w : World) (ok : Nat → Prop) (base : Nat) (A : Option Addr) (n c : Nat) (ds : List EvV) (ev L : List Ev) (er G' : Nat) (h : PF w0 B came G es acc gl ps acks va w) (hn : ev.length = n) (hr : EvsR ok w A ds ev) (hc : n ≤ c) (hm : c ≤ maxLen) (hn2 : n ≤ 140737488355328)
    (hT : takeR G base ev = (L, er, G')) (hG : G ≤ 1000000000) (hG' : G' ≤ 1000000000) (hu : U64 base) (hg : gl.length ≤ 1000000000) (ha : acks.length ≤ 1000000000) :
    Calls Try.prog 39 #[.agg #[.int .u64 (base : Int), .slice A n c], .pointer (some ⟨B.bb, 0, none⟩), .pointer (some ⟨B.bg, 0, none⟩), .pointer (some ⟨B.ba, 0, none⟩)] w fun r w' => r = .returned (.tuple #[]) ∧ PF w0 B came G' es acc (gl ++ L) ps (acks ++ [G']) va w' := by
  obtain ⟨said, eps, col, vq, vg, vs, vk, dq, dA, dG, h⟩ := h
  have hLl := take_len G base ev
  rw [hT] at hLl
  have HN := Lib.hid hn; clear hn
  have HT := Lib.hid hT; clear hT
  have EPS := Lib.hid eps; clear eps
  obtain ⟨wa, ewa⟩ : ∃ wa, wa = w.alloc (.cells #[.int .u64 (base : Int), .slice A n c] 72) := ⟨_, rfl⟩
  obtain ⟨g, eg⟩ : ∃ g, g = w.heap.size := ⟨_, rfl⟩
  have ra : wa.heap[g]? = some (.cells #[.int .u64 (base : Int), .slice A n c] 72 (0, 0)) := by rw [ewa, eg]; exact heap_alloc_new w _
  have ba : Below w.heap.size w wa := by rw [ewa]; exact (Below.refl _ _).alloc (Nat.le_refl _) _
  have hXa := h.below (col' := col) ba (fun _ _ => rfl)
  have HXa := Lib.hid hXa
  have RA := Lib.hid (hr.below ba)
  have xb := h.xb.cell
  have EWA := Lib.hid ewa
  have EG := Lib.hid eg
  have xba := hXa.xb.cell
  rw [ewa] at xba
  clear h ewa eg ra ba hXa hr
  go_enter Try.func39, Try.ntmps39
  go_wp2_with (fail)
  rw [← EWA.out]
  have tk := take_x HXa.out ok (by unfold U63; omega) base hu A n c ds ev HN.out RA.out hc hm hn2
  rw [HT.out] at tk
  refine tk.mono ?_
  clear tk xb xba RA EWA EG
  rintro r w1 ⟨v1, rfl, ⟨d1, hE1⟩, hX1, -⟩
  replace hE1 : EvsO (fun j => ext col wa.heap.size 9 j = 9) w1 v1 d1 L := hE1
  replace hX1 : PX w0 B came G' es acc gl said acks va (ext col wa.heap.size 9) vq vg vs vk dq dA dG w1 := hX1
  obtain ⟨A1, cp1, ev1, f1, f2, hR1⟩ := hE1.form
  obtain ⟨nl, enl⟩ : ∃ nl, nl = L.length := ⟨_, rfl⟩
  replace hLl : nl ≤ 16 := by rw [enl]; exact hLl
  rw [← enl] at ev1 f1
  subst ev1
  have ENL := Lib.hid enl; clear enl
  obtain ⟨Ag, cg, evg, s1, s2, s3⟩ := row_form hX1.go.row
  have hgl := hX1.go.len
  rw [hgl] at evg
  subst evg
  have HGL := Lib.hid hgl
  have xg := hX1.xg.cell
  have HX1 := Lib.hid hX1
  have E1 := Lib.hid hE1
  have R1 := Lib.hid hR1
  clear hgl s1 s2 s3 hX1 hE1 hR1 f1 f2 HXa
  go_wp2_with (at_builtin; refine wpList_appV _ rfl (.tmp 16) (.tmp 17) rfl 0 _ dG rfl HX1.out.go.row A1 nl cp1 d1 rfl (R1.out.len.trans ENL.out.symm) R1.out.row (by rw [HGL.out]; omega) (Nat.zero_le _) ?_; intro v3 w3 ho3 hg3 hv3; obtain ⟨A3, c3, e3, q3, q4, q5⟩ := row_form ho3; replace e3 : v3 = .slice A3 (gl.length + nl) c3 := e3.trans (by rw [List.length_append, HGL.out, R1.out.len, ← ENL.out]); subst e3; clear q3 q4 q5; have HX3 := Lib.hid (HX1.out.got_ ho3 hg3 hv3 L _ E1.out); obtain ⟨x3, y3⟩ := HX1.out.gotc hg3; clear ho3 hg3 hv3 xg)
  obtain ⟨w4, ew4⟩ : ∃ w4, w4 = w3.setCell ⟨B.bg, 0, none⟩ (.slice A3 (gl.length + nl) c3) := ⟨_, rfl⟩
  rw [← ew4] at HX3 ⊢
  clear ew4 x3 y3 E1 R1 HX1
  obtain ⟨Ak, ck, evk, s1, s2, s3⟩ := row_form HX3.out.ak.row
  rw [List.length_map] at evk
  subst evk
  clear s1 s2 s3
  have HP4 : Hid (PE w0 B came G' es acc (gl ++ L) said acks va w4.drew) := Lib.hid ⟨_, _, _, _, _, _, _, _, HX3.out.drewN 1⟩
  obtain ⟨colx, ecx⟩ : ∃ colx, colx = ext (ext col wa.heap.size 9) w1.heap.size 6 := ⟨_, rfl⟩
  have HX5 : Hid (PX w0 B came G' es acc (gl ++ L) said acks va colx vq (.slice A3 (gl.length + nl) c3) vs (.slice Ak acks.length ck) dq dA (dG ++ d1) (w4.alloc (.cells #[.int .u64 (G' : Int)] 22)).drew) :=
    Lib.hid (ecx ▸ (HX3.out.below (w' := w4.alloc (.cells #[.int .u64 (G' : Int)] 22)) ((Below.refl _ _).alloc (Nat.le_refl _) _) (fun _ _ => rfl)).drewN 1)
  have xb4 := HX3.out.xb.cell
  have xa4 := HX3.out.xa.cell
  have ya4 := HX3.out.xa.free
  have xa5 : (w4.alloc (.cells #[.int .u64 (G' : Int)] 22)).cell? ⟨B.ba, 0, none⟩ = some (.slice Ak acks.length ck) := HX5.out.xa.cell
  have ne5 := World.new_ne w4 _ xa4
  clear ecx
  go_region_law (first
    | (go_simp; go_at_call 37; (with_reducible refine (got_x HP4.out).mono ?_); rintro _ w5 ⟨rfl, rfl⟩)
    | ((refine step_appNm rfl (.tmp 19) (.tmp 22) rfl 0 _ acks rfl HX5.out.ak.row (some ⟨w4.heap.size, 0, none⟩) 1 G' rfl ((Rd.lit w4 [.int .u64 (G' : Int)] 22).drewN 1) ha (Nat.zero_le _) ?_); intro v7 w7 ho7 hg7 hv7; obtain ⟨A7, c7, e7, q3, q4, q5⟩ := row_form ho7.out; replace e7 : v7 = .slice A7 (acks.length + 1) c7 := e7.trans (by simp); subst e7; clear q3 q4 q5; have HX7 := Lib.hid (HX5.out.ack_ G' ho7.out hg7 hv7); obtain ⟨x7, y7⟩ := HX5.out.ackc hg7; clear ho7 hg7 hv7))
  all_goals
    go_wp2_with (fail)
    go_end0
    exact ⟨rfl, said, EPS.out, _, _, _, _, _, _, _, _, HX7.out⟩
end Go.Proofs.Ytgnciejbhaebeaa

/- The plain law on a queue's batches: what an inbox took is a beginning of what was accepted. Conditions: none. -/
namespace Go.Proofs.Ytgnciejbhaebeaa
open Go Go.RowKit

/-- A batch that was said is a piece of what was accepted. -/
def Seg (all : List Ev) (p : Nat × List Ev) : Prop := p.2 = (all.drop p.1).take p.2.length ∧ p.1 + p.2.length ≤ all.length ∧ 1 ≤ p.2.length ∧ p.2.length ≤ 16
structure IV (all : List Ev) (came G : Nat) (gl : List Ev) (ps : List (Nat × List Ev)) (acks : List Nat) : Prop where
  c : came ≤ G
  g : G ≤ all.length
  l : gl = all.take G
  s : ∀ p ∈ ps, Seg all p
  a : ∀ x ∈ acks, x ≤ G
theorem IV.push {all : List Ev} {came G : Nat} {gl : List Ev} {ps : List (Nat × List Ev)} {acks : List Nat} (h : IV all came G gl ps acks) (e : Ev) : IV (all ++ [e]) came G gl ps acks := by
  have hg := h.g
  refine ⟨h.c, by rw [List.length_append]; omega, ?_, fun p hp => ?_, h.a⟩
  · rw [List.take_append_of_le_length hg]; exact h.l
  · obtain ⟨h1, h2, h3, h4⟩ := h.s p hp
    refine ⟨?_, by rw [List.length_append]; omega, h3, h4⟩
    rw [List.drop_append_of_le_length (by omega), List.take_append_of_le_length (by rw [List.length_drop]; omega)]
    exact h1
theorem IV.say {all : List Ev} {came G : Nat} {gl : List Ev} {ps : List (Nat × List Ev)} {acks : List Nat} (h : IV all came G gl ps acks) : IV all came G gl (sayR came (all.drop came) ps) acks ∧ (sayR came (all.drop came) ps).length ≤ ps.length + 1 := by
  unfold sayR
  split
  · exact ⟨h, Nat.le_succ _⟩
  · rename_i hn
    refine ⟨⟨h.c, h.g, h.l, fun p hp => ?_, h.a⟩, by rw [List.length_append]; exact Nat.le_refl _⟩
    rcases List.mem_append.1 hp with hp | hp
    · exact h.s p hp
    · obtain rfl : p = (came, (all.drop came).take 16) := by simpa using hp
      have hc := h.c
      have hg := h.g
      have h0 : 0 < ((all.drop came).take 16).length := List.length_pos_iff.2 hn
      have hl : ((all.drop came).take 16).length = min 16 (all.length - came) := by rw [List.length_take, List.length_drop]
      refine ⟨?_, show came + ((all.drop came).take 16).length ≤ _ by omega, h0, show ((all.drop came).take 16).length ≤ 16 by omega⟩
      show (all.drop came).take 16 = (all.drop came).take ((all.drop came).take 16).length
      rw [hl]
      rcases Nat.le_total 16 (all.length - came) with h1 | h1
      · rw [Nat.min_eq_left h1]
      · rw [Nat.min_eq_right h1, List.take_of_length_le (by rw [List.length_drop]; omega), List.take_of_length_le (by rw [List.length_drop]; omega)]
theorem IV.come {all : List Ev} {came G G' er : Nat} {gl L : List Ev} {ps : List (Nat × List Ev)} {acks : List Nat} (h : IV all came G gl ps acks) (p : Nat × List Ev) (hp : Seg all p) (hT : takeR G p.1 p.2 = (L, er, G')) :
    IV all came G' (gl ++ L) ps (acks ++ [G']) ∧ G ≤ G' ∧ (p.1 ≤ G → p.1 + p.2.length ≤ G') ∧ G' ≤ G + 16 := by
  obtain ⟨b, ev⟩ := p
  obtain ⟨h1, h2, h3, h4⟩ := hp
  simp only at h1 h2 h3 h4 hT
  have hg := h.g
  unfold takeR at hT
  have hne : ¬ (ev = [] ∨ 16 < ev.length) := by
    rintro (e | e)
    · rw [e] at h3; simp at h3
    · omega
  rw [if_neg hne] at hT
  have same : L = [] → G' = G → IV all came G' (gl ++ L) ps (acks ++ [G']) := by
    rintro rfl rfl
    refine ⟨h.c, h.g, by rw [List.append_nil]; exact h.l, h.s, fun x hx => ?_⟩
    rcases List.mem_append.1 hx with hx | hx
    · exact h.a x hx
    · simp at hx; omega
  split at hT
  · rename_i hb
    injection hT with e1 e2; injection e2 with e2 e3
    exact ⟨same e1.symm e3.symm, by omega, fun hh => by simp only at hh; omega, by omega⟩
  · rename_i hb
    split at hT
    · rename_i ho
      injection hT with e1 e2; injection e2 with e2 e3
      exact ⟨same e1.symm e3.symm, by omega, fun _ => by simp only; omega, by omega⟩
    · rename_i ho
      injection hT with e1 e2; injection e2 with e2 e3
      have eG : G' = b + ev.length := by omega
      refine ⟨⟨by have := h.c; omega, by omega, ?_, h.s, fun x hx => ?_⟩, by omega, fun _ => by simp only; omega, by omega⟩
      · have e4 : (all.drop b).drop (G - b) = all.drop G := by rw [List.drop_drop]; congr 1; omega
        have : L = (all.drop G).take (ev.length - (G - b)) := by
          rw [← e1, h1, List.drop_take, List.length_take, e4]
          congr 1
          rw [List.length_drop]; omega
        rw [this, h.l, ← List.take_add, show G + (ev.length - (G - b)) = G' by omega]
      · rcases List.mem_append.1 hx with hx | hx
        · have := h.a x hx; omega
        · simp at hx; omega
theorem IV.ack {all : List Ev} {came G x N gt : Nat} {gl es' : List Ev} {ps : List (Nat × List Ev)} {acks : List Nat} (h : IV all came G gl ps acks) (hx : x ≤ G) (hA : ackR came (all.drop came) x = (N, gt, es')) :
    IV all gt G gl ps acks ∧ es' = all.drop gt ∧ came ≤ gt ∧ x ≤ gt := by
  have hg := h.g
  have hc := h.c
  unfold ackR at hA
  rw [List.length_drop] at hA
  split at hA
  · rename_i hh
    injection hA with e1 e2; injection e2 with e2 e3
    subst e2
    exact ⟨h, e3.symm, Nat.le_refl _, by omega⟩
  · rename_i hh
    injection hA with e1 e2; injection e2 with e2 e3
    subst e2
    refine ⟨⟨hx, h.g, h.l, h.s, h.a⟩, ?_, by omega, Nat.le_refl _⟩
    rw [← e3, List.drop_drop]
    congr 1
    omega
theorem IV.glen {all : List Ev} {came G : Nat} {gl : List Ev} {ps : List (Nat × List Ev)} {acks : List Nat} (h : IV all came G gl ps acks) : gl.length = G := by
  rw [h.l, List.length_take]; exact Nat.min_eq_left h.g
theorem IV.next {all : List Ev} {came G : Nat} {gl : List Ev} {ps : List (Nat × List Ev)} {acks : List Nat} (h : IV all came G gl ps acks) (hn : (all.drop came).take 16 ≠ []) : Seg all (came, (all.drop came).take 16) := by
  have := (h.say).1.s (came, (all.drop came).take 16)
  unfold sayR at this
  rw [if_neg hn] at this
  exact this (by simp)
end Go.Proofs.Ytgnciejbhaebeaa

/- How the law on a queue's batches begins; a way in its box. Conditions: none. -/
namespace Go.Proofs.Ytgnciejbhaebeaa
open Go Go.RowKit

set_option maxHeartbeats 4000000 in
theorem PF_start {w w1 w2 w3 w4 w5 : World} {q b bq bb g m1 m2 : Nat} (hq : w1.heap[w.heap.size]? = some (.cells #[.int .u64 0, .slice none 0 0] 116 (0, 0))) (h1 : Below w.heap.size w w1) (hi : Ib w2 w1.heap.size 0) (h2 : Below w1.heap.size w1 w2)
    (e3 : w3 = (w2.alloc (Obj.cells #[Value.pointer (some ⟨q, 0, none⟩)] 40)).alloc (Obj.cells #[Value.pointer (some ⟨b, 0, none⟩)] 47)) (eq : q = w.heap.size) (eb : b = w1.heap.size) (ebq : bq = w2.heap.size) (ebb : bb = bq + 1) (h4 : Below w3.heap.size w3 w4) (eg : g = w4.heap.size) (em1 : m1 = g + 2) (em2 : m2 = g + 4)
    (e5 : w5 = (((((w4.alloc (Obj.cells #[Value.slice none 0 0] 23)).alloc (Obj.cells #[] 72)).alloc (Obj.cells #[Value.slice (some ⟨g + 1, 0, none⟩) 0 0] 69)).alloc (Obj.cells #[Value.int .u64 0] 22)).alloc (Obj.cells #[Value.slice (some ⟨g + 3, 0, none⟩) 1 1] 70))) :
    PF w ⟨q, b, bq, bb, g, m1, m2⟩ 0 0 [] [] [] [] [0] (.slice none 0 0) w5 := by
  subst eq eb ebq ebb eg em1 em2
  have s1 := heap_lt hq
  have s2 := hi.lt
  have b23 : Below w2.heap.size w2 w3 := by rw [e3]; exact ((Below.refl _ _).alloc (Nat.le_refl _) _).alloc (by simp) _
  have s3 : w3.heap.size = w2.heap.size + 2 := by rw [e3]; simp
  have z1 := h1.size; have z2 := h2.size; have z4 := h4.size
  have b45 : Below w4.heap.size w4 w5 := by rw [e5]; exact (((((Below.refl _ _).alloc (Nat.le_refl _) _).alloc (by simp) _).alloc (by simp <;> omega) _).alloc (by simp <;> omega) _).alloc (by simp <;> omega) _
  have s5 : w5.heap.size = w4.heap.size + 5 := by rw [e5]; simp
  have b35 : Below w3.heap.size w3 w5 := h4.trans (b45.mono z4)
  have b25 : Below w2.heap.size w2 w5 := b23.trans (b35.mono (by omega))
  have b15 : Below w1.heap.size w1 w5 := h2.trans (b25.mono z2)
  have b05 : Below w.heap.size w w5 := h1.trans (b15.mono z1)
  have rq : w3.heap[w2.heap.size]? = some (.cells #[.pointer (some ⟨w.heap.size, 0, none⟩)] 40 (0, 0)) := by
    rw [e3, Below.heap_alloc _ _ _ (by simp)]
    exact heap_alloc_new w2 _
  have rb : w3.heap[w2.heap.size + 1]? = some (.cells #[.pointer (some ⟨w1.heap.size, 0, none⟩)] 47 (0, 0)) := by
    have e : w2.heap.size + 1 = (w2.alloc (Obj.cells #[Value.pointer (some ⟨w.heap.size, 0, none⟩)] 40)).heap.size := by simp
    rw [e3, e]
    exact heap_alloc_new _ _
  have rg : w5.heap[w4.heap.size]? = some (.cells #[.slice none 0 0] 23 (0, 0)) := by
    rw [e5, Below.heap_alloc _ _ _ (by simp <;> omega), Below.heap_alloc _ _ _ (by simp <;> omega), Below.heap_alloc _ _ _ (by simp <;> omega), Below.heap_alloc _ _ _ (by simp)]
    exact heap_alloc_new w4 _
  have rs0 : w5.heap[w4.heap.size + 1]? = some (.cells #[] 72 (0, 0)) := by
    have e : w4.heap.size + 1 = (w4.alloc (Obj.cells #[Value.slice none 0 0] 23)).heap.size := by simp
    rw [e5, Below.heap_alloc _ _ _ (by simp <;> omega), Below.heap_alloc _ _ _ (by simp <;> omega), Below.heap_alloc _ _ _ (by simp), e]
    exact heap_alloc_new _ _
  have rs : w5.heap[w4.heap.size + 2]? = some (.cells #[.slice (some ⟨w4.heap.size + 1, 0, none⟩) 0 0] 69 (0, 0)) := by
    have e : w4.heap.size + 2 = ((w4.alloc (Obj.cells #[Value.slice none 0 0] 23)).alloc (Obj.cells #[] 72)).heap.size := by simp
    rw [e5, Below.heap_alloc _ _ _ (by simp <;> omega), Below.heap_alloc _ _ _ (by simp), e]
    exact heap_alloc_new _ _
  have ra0 : w5.heap[w4.heap.size + 3]? = some (.cells #[.int .u64 0] 22 (0, 0)) := by
    have e : w4.heap.size + 3 = (((w4.alloc (Obj.cells #[Value.slice none 0 0] 23)).alloc (Obj.cells #[] 72)).alloc (Obj.cells #[Value.slice (some ⟨w4.heap.size + 1, 0, none⟩) 0 0] 69)).heap.size := by simp
    rw [e5, Below.heap_alloc _ _ _ (by simp), e]
    exact heap_alloc_new _ _
  have ra : w5.heap[w4.heap.size + 4]? = some (.cells #[.slice (some ⟨w4.heap.size + 3, 0, none⟩) 1 1] 70 (0, 0)) := by
    have e : w4.heap.size + 4 = ((((w4.alloc (Obj.cells #[Value.slice none 0 0] 23)).alloc (Obj.cells #[] 72)).alloc (Obj.cells #[Value.slice (some ⟨w4.heap.size + 1, 0, none⟩) 0 0] 69)).alloc (Obj.cells #[Value.int .u64 0] 22)).heap.size := by simp
    rw [e5, e]
    exact heap_alloc_new _ _
  clear e3 e5
  obtain ⟨N0, e0⟩ : ∃ N, N = w.heap.size := ⟨_, rfl⟩
  obtain ⟨N1, e1⟩ : ∃ N, N = w1.heap.size := ⟨_, rfl⟩
  obtain ⟨N2, e2⟩ : ∃ N, N = w2.heap.size := ⟨_, rfl⟩
  obtain ⟨N4, e4⟩ : ∃ N, N = w4.heap.size := ⟨_, rfl⟩
  have qz : Qu (fun _ => False) w5 w.heap.size 0 (.slice none 0 0) [] [] := by
    have : Qu (fun _ => False) w1 w.heap.size 0 (.slice none 0 0) [] [] := ⟨hq, ⟨rfl, World.ownsRow_nil _ _ _ _, fun k e => (by cases e), fun i h => absurd h (by simp)⟩, fun e => e⟩
    exact this.below b15
  have ib := hi.below b25
  have rq5 := (b35.block _ (by omega)).trans rq
  have rb5 := (b35.block _ (by omega)).trans rb
  rw [← e0] at qz rq5 s1 h1 b05
  rw [← e1] at ib rb5
  rw [← e2] at rq5 rb5
  rw [← e4] at rg rs0 rs ra0 ra
  have o1 : N0 < N1 := by omega
  have o2 : N1 < N2 := by omega
  have o4 : N2 + 2 ≤ N4 := by omega
  obtain ⟨col, ec⟩ : ∃ col : Nat → Nat, col = fun j => if j < N0 then 0 else if j = N0 then 10 else if j = N1 then 11 else if j = N2 then 12 else if j = N2 + 1 then 13 else if j = N4 then 14 else if j = N4 + 1 then 7 else if j = N4 + 2 then 15 else if j = N4 + 3 then 8 else if j = N4 + 4 then 16 else 9 := ⟨_, rfl⟩
  have k0 : ∀ j, j < N0 → col j = 0 := fun j hj => by rw [ec]; exact if_pos hj
  have kq : col N0 = 10 := by rw [ec]; simp
  have kb : col N1 = 11 := by rw [ec]; show (if _ then _ else _) = _; rw [if_neg (by omega), if_neg (by omega), if_pos rfl]
  have kbq : col N2 = 12 := by rw [ec]; show (if _ then _ else _) = _; rw [if_neg (by omega), if_neg (by omega), if_neg (by omega), if_pos rfl]
  have kbb : col (N2 + 1) = 13 := by rw [ec]; show (if _ then _ else _) = _; rw [if_neg (by omega), if_neg (by omega), if_neg (by omega), if_neg (by omega), if_pos rfl]
  have kg : col N4 = 14 := by rw [ec]; show (if _ then _ else _) = _; rw [if_neg (by omega), if_neg (by omega), if_neg (by omega), if_neg (by omega), if_neg (by omega), if_pos rfl]
  have kg1 : col (N4 + 1) = 7 := by rw [ec]; show (if _ then _ else _) = _; rw [if_neg (by omega), if_neg (by omega), if_neg (by omega), if_neg (by omega), if_neg (by omega), if_neg (by omega), if_pos rfl]
  have kg2 : col (N4 + 2) = 15 := by rw [ec]; show (if _ then _ else _) = _; rw [if_neg (by omega), if_neg (by omega), if_neg (by omega), if_neg (by omega), if_neg (by omega), if_neg (by omega), if_neg (by omega), if_pos rfl]
  have kg3 : col (N4 + 3) = 8 := by rw [ec]; show (if _ then _ else _) = _; rw [if_neg (by omega), if_neg (by omega), if_neg (by omega), if_neg (by omega), if_neg (by omega), if_neg (by omega), if_neg (by omega), if_neg (by omega), if_pos rfl]
  have kg4 : col (N4 + 4) = 16 := by rw [ec]; show (if _ then _ else _) = _; rw [if_neg (by omega), if_neg (by omega), if_neg (by omega), if_neg (by omega), if_neg (by omega), if_neg (by omega), if_neg (by omega), if_neg (by omega), if_neg (by omega), if_pos rfl]
  have kn1 : ∀ j, col j ≠ 1 := fun j => by rw [ec]; simp only; repeat' split
                                           all_goals decide
  clear ec
  subst e0 e1 e2 e4
  refine ⟨[], rfl, col, .slice none 0 0, .slice none 0 0, .slice (some ⟨w4.heap.size + 1, 0, none⟩) 0 0, .slice (some ⟨w4.heap.size + 3, 0, none⟩) 1 1, [], [], [], ⟨b05, k0, ?_, kq, ib, kb, ⟨rq5, kbq⟩, ⟨rb5, kbb⟩, ⟨rg, kg⟩, ⟨rs, kg2⟩, ⟨ra, kg4⟩, ?_, ?_, ?_, ?_⟩⟩
  · exact ⟨qz.row, ⟨rfl, World.ownsRow_nil _ _ _ _, fun k e => (by cases e), fun i h => absurd h (by simp)⟩, kn1 _⟩
  · exact ⟨rfl, World.ownsRow_nil _ _ _ _, fun k e => (by cases e), fun i h => absurd h (by simp)⟩
  · exact ⟨rfl, World.ownsRow_nil _ _ _ _, fun k e => (by cases e), fun i h => absurd h (by simp)⟩
  · exact ⟨⟨rfl, .inr ⟨w4.heap.size + 1, 0, #[], rfl, Nat.zero_le _, rs0, Nat.le_refl _, Nat.zero_le _, rfl, rfl⟩⟩, fun k e => by injection e with e; rw [← e]; exact kg1, fun b hb => (by cases hb)⟩
  · exact ⟨⟨rfl, .inr ⟨w4.heap.size + 3, 1, #[.int .u64 0], rfl, Nat.zero_le _, ra0, Nat.le_refl _, (by decide), rfl, rfl⟩⟩, fun k e => by injection e with e; rw [← e]; exact kg3⟩

theorem PE.ptrs {w0 w : World} {B : BL} {came G : Nat} {es acc gl : List Ev} {said : List Bt} {acks : List Nat} {va : Value} (h : PE w0 B came G es acc gl said acks va w) : w.cell? ⟨B.bq, 0, none⟩ = some (.pointer (some ⟨B.q, 0, none⟩)) ∧ w.cell? ⟨B.bb, 0, none⟩ = some (.pointer (some ⟨B.b, 0, none⟩)) := by
  obtain ⟨col, vq, vg, vs, vk, dq, dA, dG, h⟩ := h
  exact ⟨h.xq.cell, h.xb.cell⟩
/-- The acknowledgement of all that came. -/
theorem IV.ackG {all : List Ev} {came G N gt : Nat} {gl es' : List Ev} {ps : List (Nat × List Ev)} {acks : List Nat} (h : IV all came G gl ps acks) (hA : ackR came (all.drop came) G = (N, gt, es')) : gt = G ∧ es' = all.drop G ∧ IV all G G gl ps acks := by
  obtain ⟨h1, h2, h3, h4⟩ := h.ack (Nat.le_refl _) hA
  obtain rfl : gt = G := Nat.le_antisymm h1.c h4
  exact ⟨rfl, h2, h1⟩
/-- One batch of those that were said. -/
theorem BtX.at_ {okr okt : Nat → Prop} {w : World} {As : Option Addr} {n cs : Nat} {l : List Bt} (h : BtX okr okt w (.slice As n cs) l) (j : Nat) (hj : j < l.length) : ∃ (b o base : Nat) (A : Option Addr) (m c : Nat) (ds : List EvV) (ev : List Ev), As = some ⟨b, o, none⟩ ∧ (base, ev) ∈ l.map Bt.pl ∧
    ev.length = m ∧ EvsR okt w A ds ev ∧ m ≤ c ∧ c ≤ maxLen ∧ w.cell? ⟨b, o + j * 2, none⟩ = some (.int .u64 (base : Int)) ∧ w.cell? ⟨b, o + j * 2 + 1, none⟩ = some (.slice A m c) := by
  obtain ⟨As', cs', e, -, -, s3⟩ := row_form h.row
  injection e with e1 e2 e3
  subst e1
  obtain ⟨b, o, rfl, hb, hcs⟩ := s3.addr (by rw [cellsB_length]; omega)
  have hbj : l[j] ∈ l := List.getElem_mem _
  obtain ⟨r1, r2, r3, r4⟩ := h.each _ hbj
  have cel : ∀ q, q < 2 → w.cell? ⟨b, o + (j * 2 + q), none⟩ = ((l[j]).cells)[q]? := fun q hq => by
    have hlt2 : j * 2 + q < (cellsB l).length := by rw [cellsB_length]; omega
    rw [hcs _ hlt2, ← List.getElem?_eq_getElem]
    exact cellsB_get l j hj q hq
  exact ⟨b, o, l[j].base, l[j].A, l[j].n, l[j].c, l[j].ds, l[j].ev, rfl, List.mem_map_of_mem (f := Bt.pl) hbj, r1, r2, r3, r4, cel 0 (by decide), cel 1 (by decide)⟩
/-- One number. -/
theorem NmX.at_ {okr : Nat → Prop} {w : World} {As : Option Addr} {n cs : Nat} {l : List Nat} (h : NmX okr w (.slice As n cs) l) (j : Nat) (hj : j < l.length) : ∃ (b o x : Nat), As = some ⟨b, o, none⟩ ∧ x ∈ l ∧ w.cell? ⟨b, o + j, none⟩ = some (.int .u64 (x : Int)) := by
  obtain ⟨As', cs', e, -, -, s3⟩ := row_form h.row
  injection e with e1 e2 e3
  subst e1
  obtain ⟨b, o, rfl, hb, hcs⟩ := s3.addr (by rw [List.length_map]; omega)
  refine ⟨b, o, l[j], rfl, List.getElem_mem _, ?_⟩
  rw [hcs j (by rw [List.length_map]; exact hj), List.getElem_map]
theorem wrap_u64 (i : Int) : ∃ U : Nat, IntKind.u64.wrap i = (U : Int) ∧ U64 U := by
  refine ⟨(IntKind.u64.wrap i).toNat, ?_, ?_⟩
  · unfold IntKind.wrap
    simp [IntKind.bits, IntKind.signed]
    omega
  · unfold IntKind.wrap U64
    simp [IntKind.bits, IntKind.signed]
    omega
/-- An index that is a number's rest. -/
theorem rest_ix (i : Int) (ln : Nat) (h0 : 0 < ln) (h1 : ln ≤ 1000) : ∃ (U j : Nat), j < ln ∧ IntKind.u64.wrap i = (U : Int) ∧ U64 U ∧ (U : Int) % (ln : Int) = (j : Int) ∧ (U : Int).tmod (ln : Int) = (j : Int) ∧ IntKind.u64.wrap (ln : Int) = (ln : Int) ∧ ((ln : Int) == 0) = false ∧ (0 : Int) ≤ (j : Int) ∧ (j : Int) < (ln : Int) := by
  obtain ⟨U, wI, hU⟩ := wrap_u64 i
  have rmm : (U : Int) % (ln : Int) = ((U % ln : Nat) : Int) := (Int.natCast_emod _ _).symm
  exact ⟨U, U % ln, Nat.mod_lt _ h0, wI, hU, rmm, by rw [Int.tmod_eq_emod_of_nonneg (by omega)]; exact rmm, u64_wrapN (by unfold U64; omega), by rw [beq_eq_false_iff_ne]; omega, by omega, by have := Nat.mod_lt U h0; omega⟩
/-- A way's seven cells in a box of its own. -/
def WyBx (v : WyV) (g : Nat) (w : World) : Prop := w.heap[g]? = some (.cells #[.int .i64 v.k, .int .i64 v.i, .int .i64 v.e.k, .slice v.e.A v.e.n v.e.c, .int .i64 v.e.x, .int .i64 v.e.y, .int .i64 v.e.b] 75 (0, 0))
theorem WyBx.cells {k0 i0 ek ex ey eb : Int} {At : Option Addr} {tn tc g : Nat} {w : World} (h : WyBx ⟨k0, i0, ⟨ek, At, tn, tc, ex, ey, eb⟩⟩ g w) :
    w.cell? ⟨g, 0, none⟩ = some (.int .i64 k0) ∧ w.cell? ⟨g, 1, none⟩ = some (.int .i64 i0) ∧ w.cell? ⟨g, 2, none⟩ = some (.int .i64 ek) ∧ w.cell? ⟨g, 3, none⟩ = some (.slice At tn tc) ∧ w.cell? ⟨g, 4, none⟩ = some (.int .i64 ex) ∧ w.cell? ⟨g, 5, none⟩ = some (.int .i64 ey) ∧ w.cell? ⟨g, 6, none⟩ = some (.int .i64 eb) :=
  ⟨by rw [heap_cell h]; rfl, by rw [heap_cell h]; rfl, by rw [heap_cell h]; rfl, by rw [heap_cell h]; rfl, by rw [heap_cell h]; rfl, by rw [heap_cell h]; rfl, by rw [heap_cell h]; rfl⟩
theorem WyBx.below {v : WyV} {g : Nat} {w w' : World} (h : WyBx v g w) (hb : Below w.heap.size w w') : WyBx v g w' := (hb.block g (heap_lt h)).trans h
theorem WyR.below {ok : Nat → Prop} {w w' : World} {v : WyV} {d : WyD} (h : WyR ok w v d) (hb : Below w.heap.size w w') : WyR ok w' v d :=
  ⟨h.1, h.2.1, h.2.2.1.frame (fun k _ hk => hb.block k hk) hb.size, h.2.2.2⟩
/-- One way among them. -/
theorem WysR.at_ {ok : Nat → Prop} {w : World} {A : Option Addr} {ovs : List WyV} {ods : List WyD} (h : WysR ok w A ovs ods) (i : Nat) (hi : i < ods.length) : ∃ (b off : Nat) (v : WyV) (d : WyD), A = some ⟨b, off, none⟩ ∧ b < w.heap.size ∧ d = ods[i] ∧ WyR ok w v d ∧ ∀ q, q < 7 → w.cell? ⟨b, off + i * 7 + q, none⟩ = (v.cells)[q]? := by
  have h1 : i < ovs.length := by rw [h.len]; exact hi
  obtain ⟨b, off, e, hl, _, hc⟩ := h.row (Nat.lt_of_le_of_lt (Nat.zero_le _) h1)
  exact ⟨b, off, ovs[i], ods[i], e, hl, rfl, h.each i h1 hi, hc i h1⟩
end Go.Proofs.Ytgnciejbhaebeaa
