/- Parts one behind the other: What the reference's PutData answers; How a law's argument is opened: an event by value; a slice of events; How a law's argument is opened: a list of items; How a law's argument is opened: data with a part, by value; The walk of the law BodyData: it returns true. Conditions: as told at each. -/
import Derived.Test.YtcffinkkfdfcaaaPBodyData8
import Derived.Test.YtcffinkkfdfcaaaPBodyData1
import Derived.Test.YtcffinkkfdfcaaaPBodyData6
import Derived.Deep.Fields

/- What the reference's PutData answers. Conditions: data of its kinds; texts that can be read. -/
namespace Go.Proofs.Ytcffinkkfdfcaaa
open Go Go.RowKit

set_option maxRecDepth 100000 in
set_option maxHeartbeats 8000000 in
theorem refPutData_c (v : Int) (st ec ak th : Nat) (has : Bool) (id : Nat) (ix ct : Int) (A : Option Addr) (n c : Nat) (bs : List UInt8) (w : World) (h1 : U16 st) (h2 : U16 ec) (h3 : U64 ak) (h4 : U64 th) (h5 : id < 4294967296) (ht : TxtR (· < w.heap.size) w A n c bs) (hl : n ≤ 140737488351232) :
    Calls Try.prog 12 #[.int .i64 v, .agg #[.int .u16 (st : Int), .int .u16 (ec : Int), .int .u64 (ak : Int), .int .u64 (th : Int), .bool has, .int .u32 (id : Int), .int .i64 ix, .int .i64 ct, .slice A n c]] w fun r w' => ∃ x, r = .returned (.tuple #[x, .int .i64 (putD v ⟨st, ec, ak, th, has, ⟨id, ix, ct, bs⟩⟩).1]) ∧ OwnB w' w.heap.size x (putD v ⟨st, ec, ak, th, has, ⟨id, ix, ct, bs⟩⟩).2 ∧ Below w.heap.size w w' := by
  by_cases hv : v < 1 ∨ 3 < v
  · have hR : putD v ⟨st, ec, ak, th, has, ⟨id, ix, ct, bs⟩⟩ = (1, []) := by
      rw [putD, if_pos]
      rcases hv with h | h
      · exact .inl h
      · exact .inr (.inl h)
    rw [hR]
    have HB : Hid (Below w.heap.size w (w.alloc (.cells #[.int .u16 (st : Int), .int .u16 (ec : Int), .int .u64 (ak : Int), .int .u64 (th : Int), .bool has, .int .u32 (id : Int), .int .i64 ix, .int .i64 ct, .slice A n c] 29))) := Lib.hid ((Below.refl _ _).alloc (Nat.le_refl _) _)
    clear hR ht hl h1 h2 h3 h4 h5
    show Calls _ _ _ _ fun r w' => ∃ x, r = .returned (.tuple #[x, .int .i64 1]) ∧ OwnB w' w.heap.size x [] ∧ Below w.heap.size w w'
    rcases Int.lt_or_le v 1 with v1 | v1
    · have d1 : decide (v < 1) = true := decide_eq_true v1
      clear v1 hv
      go_enter Try.func12, Try.ntmps12
      go_wp2_with (fail)
      go_ret2
      exact ⟨_, rfl, Own.nil_ _ _ _, HB.out⟩
    · have v3 : 3 < v := by omega
      have d1 : decide (v < 1) = false := decide_eq_false (by omega)
      have d2 : decide (3 < v) = true := decide_eq_true v3
      clear v1 v3 hv
      go_enter Try.func12, Try.ntmps12
      go_wp2_with (fail)
      go_ret2
      exact ⟨_, rfl, Own.nil_ _ _ _, HB.out⟩
  · have v1 : 1 ≤ v := by omega
    have v3 : v ≤ 3 := by omega
    obtain ⟨M, eM⟩ : ∃ M, dataB has id ix ct n = M := ⟨_, rfl⟩
    have hm : DataD.may ⟨st, ec, ak, th, has, ⟨id, ix, ct, bs⟩⟩ = M := by rw [← eM]; show dataB has id ix ct bs.length = _; rw [ht.1]
    cases M with
    | false =>
      have hR : putD v ⟨st, ec, ak, th, has, ⟨id, ix, ct, bs⟩⟩ = (1, []) := by rw [putD, if_pos (.inr (.inr hm))]
      rw [hR]
      clear hR hm hv
      show Calls _ _ _ _ fun r w' => ∃ x, r = .returned (.tuple #[x, .int .i64 1]) ∧ OwnB w' w.heap.size x [] ∧ Below w.heap.size w w'
      obtain ⟨W0, eW⟩ : ∃ W0, W0 = w.alloc (.cells #[.int .u16 (st : Int), .int .u16 (ec : Int), .int .u64 (ak : Int), .int .u64 (th : Int), .bool has, .int .u32 (id : Int), .int .i64 ix, .int .i64 ct, .slice A n c] 29) := ⟨_, rfl⟩
      have HB : Hid (Below w.heap.size w W0) := Lib.hid (by rw [eW]; exact (Below.refl _ _).alloc (Nat.le_refl _) _)
      have EW := Lib.hid eW
      have HT := Lib.hid ht
      have HL := Lib.hid hl
      have EM := Lib.hid eM
      have d1 : decide (v < 1) = false := decide_eq_false (by omega)
      have d2 : decide (3 < v) = false := decide_eq_false (by omega)
      clear eW ht hl eM h1 h2 h3 h4 h5 v1 v3
      go_enter Try.func12, Try.ntmps12
      go_wp2_with (fail)
      rw [← EW.out]
      refine (dataMay21_c st ec ak th has id ix ct A n c bs W0 HT.out.1 (HT.out.2.1.below HB.out) (by have := HL.out; unfold maxLen; omega)).mono ?_
      rintro _ w1 ⟨rfl, hb⟩
      rw [EM.out]
      have HB1 := Lib.hid (HB.out.trans (hb.mono HB.out.size))
      clear hb
      go_wp2_with (fail)
      go_ret2
      exact ⟨_, rfl, Own.nil_ _ _ _, HB1.out⟩
    | true =>
      have hR : putD v ⟨st, ec, ak, th, has, ⟨id, ix, ct, bs⟩⟩ = if v = 1 then (0, firstL ⟨st, ec, ak, th, has, ⟨id, ix, ct, bs⟩⟩) else (checkF (d5F ⟨st, ec, ak, th, has, ⟨id, ix, ct, bs⟩⟩), encF (d5F ⟨st, ec, ak, th, has, ⟨id, ix, ct, bs⟩⟩)) := by
        rw [putD, if_neg]
        rintro (h | h | h)
        · omega
        · omega
        · rw [hm] at h; cases h
      by_cases e1 : v = 1
      · subst e1
        rw [hR, if_pos rfl]
        exact refPut_one st ec ak th has id ix ct A n c bs w h1 h2 h3 h4 h5 ht hl eM
      · rw [hR, if_neg e1]
        exact refPut_its v st ec ak th has id ix ct A n c bs w h1 h2 h3 h4 h5 ht hl eM v1 v3 e1
end Go.Proofs.Ytcffinkkfdfcaaa

/- How a law's argument is opened: an event by value; a slice of events. Conditions: none. -/
namespace Go.Proofs.Ytcffinkkfdfcaaa
open Go Go.RowKit Go.ChangeShapes Go.WideShapes

/-- The fields of an event's type. -/
structure EvT (P : Program) (t : TypeId) (f0 f1 f2 f3 f4 : Field) (e : TypeId) : Prop where
  hs : P.underlying t = some (.struct #[f0, f1, f2, f3, f4])
  hone : Deep.oneCellFields P #[f0, f1, f2, f3, f4] = true
  hC : P.cellsOf t = 5
  h0 : P.underlying f0.type = some (.int .i64)
  h1 : P.underlying f1.type = some (.slice e)
  h2 : P.underlying f2.type = some (.int .i64)
  h3 : P.underlying f3.type = some (.int .i64)
  h4 : P.underlying f4.type = some (.int .i64)
  he : P.underlying e = some (.int .u8)
  hc : P.cellsOf e = 1
  hb : P.bytesOf e = 1

theorem open_txt {H : Type} {enc : TypeId × Value → H} {P : Program} {W : World} {t e fuel : Nat} {u : Value} {y : DataW H × List MemPlace} (ht : P.underlying t = some (.slice e)) (he : P.underlying e = some (.int .u8)) (hc : P.cellsOf e = 1) (hb : P.bytesOf e = 1)
    (hf : DataW.trod enc P W 0 (fun _ => true) true fuel t [u] = some y) :
    ∃ (A : Option Addr) (m c : Nat) (bs : List UInt8), u = .slice A m c ∧ bs.length = m ∧ Rd W A (bs.map bv) ∧ m ≤ c ∧ c ≤ maxLen ∧ ((∀ n ∈ y.1.weights P t, n ≤ reachBytes) → m ≤ 140737488351232) := by
  rcases open_ints ht he hc hf with ⟨hcs, _⟩ | ⟨x, l, c, zs, hcs, _, hl, hm, hz, hx, hcell, hwz⟩
  · injection hcs with hcs _
    subst hcs
    exact ⟨none, 0, 0, [], rfl, rfl, .inl rfl, Nat.le_refl _, Nat.zero_le _, fun _ => by decide⟩
  · injection hcs with hcs _
    subst hcs
    subst hx
    simp only [if_true] at hz
    obtain ⟨bs, g1, g2⟩ := rd_of_ints (len := l) (by omega) hcell hwz
    refine ⟨some x, l, c, bs, rfl, g1, g2, hl, hm, fun hw => ?_⟩
    have h := hw ((zs.take l).length + (zs.drop l).length) (by
      simp only [DataW.weights, ht, List.mem_cons]
      left
      rw [hb]
      simp [lits])
    simp only [List.length_take, List.length_drop, reachBytes] at h
    omega

theorem open_ev {H : Type} {enc : TypeId × Value → H} {P : Program} {W : World} {t e fuel : Nat} {f0 f1 f2 f3 f4 : Field} (T : EvT P t f0 f1 f2 f3 f4 e) {cs : List Value} {x : DataW H × List MemPlace} (hf : DataW.trod enc P W 0 (fun _ => true) true fuel t cs = some x) :
    ∃ (k : Int) (A : Option Addr) (m c : Nat) (X Y b : Int) (bs : List UInt8), cs = [.int .i64 k, .slice A m c, .int .i64 X, .int .i64 Y, .int .i64 b] ∧ bs.length = m ∧ Rd W A (bs.map bv) ∧ m ≤ c ∧ c ≤ maxLen ∧ ((∀ n ∈ x.1.weights P t, n ≤ reachBytes) → m ≤ 140737488351232) := by
  obtain ⟨ys, n, _, rfl, hl, hlen, hg⟩ := DataW.trod_struct T.hs hf
  rw [T.hC] at hl
  obtain ⟨o0, k0⟩ := Deep.hone_of T.hone 0 f0 rfl
  obtain ⟨o1, k1⟩ := Deep.hone_of T.hone 1 f1 rfl
  obtain ⟨o2, k2⟩ := Deep.hone_of T.hone 2 f2 rfl
  obtain ⟨o3, k3⟩ := Deep.hone_of T.hone 3 f3 rfl
  obtain ⟨o4, k4⟩ := Deep.hone_of T.hone 4 f4 rfl
  match cs, hl, ys, hlen with
  | [u0, u1, u2, u3, u4], _, [y0, y1, y2, y3, y4], _ =>
    have g0 := hg 0 f0 rfl
    have g1 := hg 1 f1 rfl
    have g2 := hg 2 f2 rfl
    have g3 := hg 3 f3 rfl
    have g4 := hg 4 f4 rfl
    rw [o0, k0] at g0
    rw [o1, k1] at g1
    rw [o2, k2] at g2
    rw [o3, k3] at g3
    rw [o4, k4] at g4
    obtain ⟨a0, e0, _, _⟩ := DataW.trod_int T.h0 g0
    obtain ⟨a2, e2, _, _⟩ := DataW.trod_int T.h2 g2
    obtain ⟨a3, e3, _, _⟩ := DataW.trod_int T.h3 g3
    obtain ⟨a4, e4, _, _⟩ := DataW.trod_int T.h4 g4
    obtain ⟨A, m, c, bs, eu, q1, q2, q3, q4, q5⟩ := open_txt T.h1 T.he T.hc T.hb g1
    simp at e0 e2 e3 e4
    subst e0 e2 e3 e4 eu
    refine ⟨a0, A, m, c, a2, a3, a4, bs, rfl, q1, q2, q3, q4, fun hw => q5 (fun n hn => hw n ?_)⟩
    simp only [DataW.weights, T.hs]
    exact DataW.weights_mem_each (j := 1) (t := f1.type) (d := y1.1) (by simp) (by simp) n hn

theorem opn_ev {H : Type} {enc : TypeId × Value → H} {P : Program} {W : World} {base t e j : Nat} {f0 f1 f2 f3 f4 : Field} (T : EvT P t f0 f1 f2 f3 f4 e) {v : Value} {d : DataW H} {p : List MemPlace} {ts : List TypeId} {ds : List (DataW H)}
    (hv : Value.okWide P W .any base t v) (hj : DataW.Trod enc P W 0 (fun _ => true) true t v d p) (hsz : (DataW.weightsEach P ts ds).all (· ≤ reachBytes) = true) (k1 : ts[j]? = some t) (k2 : ds[j]? = some d) :
    ∃ (k : Int) (A : Option Addr) (n c : Nat) (x y b : Int) (bs : List UInt8), v = .agg #[.int .i64 k, .slice A n c, .int .i64 x, .int .i64 y, .int .i64 b] ∧ (bs.length = n ∧ Rd W A (bs.map bv) ∧ n ≤ c ∧ c ≤ maxLen ∧ n ≤ 140737488351232) := by
  obtain ⟨cs, rfl, hsz2⟩ := okWide_struct T.hs hv
  obtain ⟨fuel, hf⟩ := hj
  obtain ⟨k, A, m, c, x, y, b, bs, hcs, q1, q2, q3, q4, q5⟩ := open_ev T hf
  refine ⟨k, A, m, c, x, y, b, bs, ?_, q1, q2, q3, q4, q5 (fun n hn => ?_)⟩
  · congr 1
    apply Array.ext'
    simpa [Value.cells] using hcs
  · exact of_decide_eq_true (List.all_eq_true.1 hsz n (DataW.weights_mem_each k1 k2 n hn))

theorem opn_evs {H : Type} {enc : TypeId × Value → H} {P : Program} {W : World} {base t et e j : Nat} {f0 f1 f2 f3 f4 : Field} (ht : P.underlying t = some (.slice et)) (hB : P.bytesOf et = 56) (T : EvT P et f0 f1 f2 f3 f4 e) {v : Value} {d : DataW H} {p : List MemPlace} {ts : List TypeId} {ds : List (DataW H)}
    (hv : Value.okWide P W .any base t v) (hj : DataW.Trod enc P W 0 (fun _ => true) true t v d p) (hsz : (DataW.weightsEach P ts ds).all (· ≤ reachBytes) = true) (k1 : ts[j]? = some t) (k2 : ds[j]? = some d) :
    ∃ (A : Option Addr) (n c : Nat) (dv : List EvV) (es : List Ev), v = .slice A n c ∧ (es.length = n ∧ EvsR (· < W.heap.size) W A dv es ∧ n ≤ c ∧ c ≤ maxLen ∧ n ≤ 2513169434843) := by
  obtain ⟨a0, len, cap, rfl⟩ := okWide_slice ht hv
  obtain ⟨fuel, hf⟩ := hj
  rcases Deep.open_slice ht hf with ⟨hcs, _⟩ | ⟨a, l, c, m, n, D, Pl, hcs, _, hl, hm, hmm, hx, hcell⟩
  · simp [Value.cells] at hcs
    obtain ⟨rfl, rfl, rfl⟩ := hcs
    exact ⟨none, 0, 0, [], [], rfl, rfl, ⟨rfl, .inl rfl, fun _ a e => (by cases e), fun i h => absurd h (by simp)⟩, Nat.le_refl _, Nat.zero_le _, by decide⟩
  · simp [Value.cells] at hcs
    obtain ⟨rfl, rfl, rfl⟩ := hcs
    simp only [if_true] at hmm
    subst hmm
    simp only [Prod.mk.injEq] at hx
    obtain ⟨rfl, _⟩ := hx
    have hb := sized_slice hsz k1 k2 ht
    rw [hB] at hb
    simp only [List.length_map, List.length_range, reachBytes] at hb
    have each : ∀ i, i < len → ∃ z : EvV × Ev, (∀ q (hq : q < 5), W.cell? (a.add (i * 5 + q)) = (z.1.cells)[q]?) ∧ EvR (· < W.heap.size) W z.1 z.2 := by
      intro i hi
      obtain ⟨cs', g1, g2⟩ := hcell i (by omega)
      rw [T.hC] at g1
      obtain ⟨_, hlen, hg⟩ := World.cells?_some g1
      obtain ⟨k, A, m', c', x, y, b, bs, hcs, q1, q2, q3, q4, q5⟩ := open_ev T g2
      have hm' : m' ≤ 140737488351232 := q5 (fun n hn => of_decide_eq_true (List.all_eq_true.1 hsz n (DataW.weights_mem_each k1 k2 n (by
        simp only [DataW.weights, ht, List.mem_cons, List.mem_append]
        exact Or.inr (Or.inl (weightsAll_mem (List.mem_map.2 ⟨i, List.mem_range.2 hi, rfl⟩) n hn))))))
      refine ⟨(⟨k, A, m', c', x, y, b⟩, ⟨k, bs, x, y, b⟩), fun q hq => ?_, rfl, rfl, rfl, rfl, q1, q2, q3, q4, fun h0 a' e => ?_, (show m' ≤ 140737488355328 by omega)⟩
      · rw [← Deep.add_add]
        subst hcs
        have := hg q (by simpa using hq)
        rw [this]
        rfl
      · rcases q2 with h | ⟨b', off, rfl, hb', _⟩
        · have h0' : 0 < m' := h0
          have : bs = [] := by simpa using h
          rw [this, List.length_nil] at q1
          omega
        · injection e with e; subst e; exact hb'
    obtain ⟨zs, hz1, hz2⟩ := list_of_all len each
    have hcellz : ∀ i (hi : i < zs.length) q, q < 5 → W.cell? (a.add (i * 5 + q)) = (cellsV (zs.map (·.1)))[i * 5 + q]? := by
      intro i hi q hq
      rw [cellsV_get _ i (by simpa using hi) q hq, (hz2 i hi).1 q hq]
      simp
    have hblk : 0 < len → a.spot = none ∧ a.block < W.heap.size := by
      intro h0
      have h := hcellz 0 (by omega) 0 (by decide)
      have hc0 : (cellsV (zs.map (·.1)))[0 * 5 + 0]? ≠ none := by
        rw [List.getElem?_eq_getElem (by rw [cellsV_length, List.length_map]; omega)]
        simp
      have h2 : ∃ u, W.cell? a = some u := by
        have e1 : a.add (0 * 5 + 0) = a := by simp [Addr.add]
        rw [e1] at h
        rw [← h] at hc0
        exact Option.ne_none_iff_exists'.1 hc0
      obtain ⟨u, hu⟩ := h2
      exact ⟨World.cell?_spot hu, World.block_lt_of_cell? W a hu⟩
    refine ⟨some a, len, _, zs.map (·.1), zs.map (·.2), rfl, by simpa using hz1, ⟨by simp, ?_, fun h0 a' e => ?_, fun i h1 h2 => ?_⟩, hl, hm, by omega⟩
    · rcases Nat.eq_zero_or_pos len with h0 | h0
      · left
        have : zs = [] := List.eq_nil_of_length_eq_zero (by omega)
        rw [this]; rfl
      · obtain ⟨hsp, hlt⟩ := hblk h0
        obtain ⟨b, off, spot⟩ := a
        simp only at hsp
        subst hsp
        refine .inr ⟨b, off, rfl, hlt, fun k hk => ?_⟩
        have hk' : k < zs.length * 5 := by rw [cellsV_length] at hk; simpa using hk
        have h := hcellz (k / 5) (by omega) (k % 5) (Nat.mod_lt _ (by decide))
        rw [show k / 5 * 5 + k % 5 = k by omega, Addr.add_lit, List.getElem?_eq_getElem hk] at h
        exact h
    · injection e with e
      subst e
      exact (hblk (by rw [List.length_map] at h0; omega)).2
    · simp only [List.getElem_map]
      exact (hz2 i (by simpa using h1)).2
end Go.Proofs.Ytcffinkkfdfcaaa

/- How a law's argument is opened: a list of items. Conditions: none. -/
namespace Go.Proofs.Ytcffinkkfdfcaaa
open Go Go.RowKit Go.ChangeShapes Go.WideShapes

/-- The fields of an item's type (t: the type of a list of items). -/
structure ItT (P : Program) (t it : TypeId) (f0 f1 f2 f3 f4 : Field) (et e : TypeId) : Prop where
  ht : P.underlying t = some (.slice it)
  hs : P.underlying it = some (.struct #[f0, f1, f2, f3, f4])
  hone : Deep.oneCellFields P #[f0, f1, f2, f3, f4] = true
  hC : P.cellsOf it = 5
  hB : P.bytesOf it = 64
  h0 : P.underlying f0.type = some (.int .i64)
  h1 : P.underlying f1.type = some .bool
  h2 : P.underlying f2.type = some .bool
  h3 : f3.type = et
  h3' : P.underlying et = some (.slice e)
  h4 : f4.type = t
  he : P.underlying e = some (.int .u8)
  hc : P.cellsOf e = 1
  hb : P.bytesOf e = 1

/-- Items built from what is known at each place. -/
theorem fo_of_all {ok : Nat → Prop} {W : World} {b off len : Nat} (hb : b < W.heap.size) (hok : ok b)
    (h : ∀ i, i < len → ∃ (k : Int) (cr li : Bool) (At : Option Addr) (n c : Nat) (bs : List UInt8) (As : Option Addr) (d : Nat) (sub : Fo),
      (W.cell? ⟨b, off + i * 5, none⟩ = some (.int .i64 k) ∧ W.cell? ⟨b, off + i * 5 + 1, none⟩ = some (.bool cr) ∧ W.cell? ⟨b, off + i * 5 + 2, none⟩ = some (.bool li) ∧
       W.cell? ⟨b, off + i * 5 + 3, none⟩ = some (.slice At n c) ∧ W.cell? ⟨b, off + i * 5 + 4, none⟩ = some (.slice As sub.len d)) ∧
      TxtR ok W At n c bs ∧ FoR ok W As 0 sub ∧ sub.len ≤ d ∧ d ≤ maxLen ∧ sub.len ≤ 2199023255488) : ∀ (r i : Nat), i + r = len → ∃ f : Fo, f.len = r ∧ FoR ok W (some ⟨b, off, none⟩) i f
  | 0, i, _ => ⟨.nil, rfl, trivial⟩
  | r + 1, i, hi => by
    obtain ⟨k, cr, li, At, n, c, bs, As, d, sub, hc, ht, hsub, h1, h2, h3⟩ := h i (by omega)
    obtain ⟨f, e, hf⟩ := fo_of_all hb hok h r (i + 1) (by omega)
    exact ⟨.cons k cr li bs sub f, by rw [Fo.len, e], ⟨b, off, At, n, c, As, d, rfl, hb, hok, hc, ht, hsub, h1, h2, h3⟩, hf⟩

theorem open_fo {H : Type} {enc : TypeId × Value → H} {P : Program} {W : World} {t it et e : TypeId} {f0 f1 f2 f3 f4 : Field} (T : ItT P t it f0 f1 f2 f3 f4 et e) : ∀ (fuel : Nat) (u : Value) (x : DataW H × List MemPlace),
    DataW.trod enc P W 0 (fun _ => true) true fuel t [u] = some x → (∀ n ∈ x.1.weights P t, n ≤ reachBytes) →
    ∃ (A : Option Addr) (n c : Nat) (f : Fo), u = .slice A n c ∧ FoR (· < W.heap.size) W A 0 f ∧ f.len = n ∧ n ≤ c ∧ c ≤ maxLen ∧ n ≤ 2199023255488 := by
  intro fuel
  induction fuel using Nat.strongRecOn with
  | _ fuel ih =>
    intro u x hf hw
    rcases DataW.trod_slice T.ht hf with ⟨hcs, _⟩ | ⟨a, len, cap, elems, rest, n, hfu, hcs, hx, _, hl, hm, hlen, hel, hsp, _⟩
    · injection hcs with hcs _
      subst hcs
      exact ⟨none, 0, 0, .nil, rfl, trivial, rfl, Nat.le_refl _, Nat.zero_le _, by decide⟩
    · injection hcs with hcs _
      subst hcs
      subst hx
      obtain ⟨hrl, _⟩ := hsp rfl
      have hbd := hw _ (by simp only [DataW.weights, T.ht, List.mem_cons]; exact Or.inl rfl)
      rw [T.hB] at hbd
      simp only [List.length_map, reachBytes] at hbd
      have each : ∀ i, i < len → ∃ (k : Int) (cr li : Bool) (At : Option Addr) (n c : Nat) (bs : List UInt8) (As : Option Addr) (d : Nat) (sub : Fo),
          (W.cell? (a.add (i * 5 + 0)) = some (.int .i64 k) ∧ W.cell? (a.add (i * 5 + 1)) = some (.bool cr) ∧ W.cell? (a.add (i * 5 + 2)) = some (.bool li) ∧
           W.cell? (a.add (i * 5 + 3)) = some (.slice At n c) ∧ W.cell? (a.add (i * 5 + 4)) = some (.slice As sub.len d)) ∧
          TxtR (· < W.heap.size) W At n c bs ∧ FoR (· < W.heap.size) W As 0 sub ∧ sub.len ≤ d ∧ d ≤ maxLen ∧ sub.len ≤ 2199023255488 := by
        intro i hi
        have he := hel i hi
        have hi' : i < elems.length := by omega
        rw [List.getElem?_eq_getElem hi', T.hC, Option.bind_eq_some_iff] at he
        obtain ⟨cs', g1, g2⟩ := he
        obtain ⟨_, hlen5, hg⟩ := World.cells?_some g1
        obtain ⟨ys, n', hfu', hy, hl5, hlen', hgs⟩ := DataW.trod_struct T.hs g2
        rw [T.hC] at hl5
        obtain ⟨o0, k0⟩ := Deep.hone_of T.hone 0 f0 rfl
        obtain ⟨o1, k1⟩ := Deep.hone_of T.hone 1 f1 rfl
        obtain ⟨o2, k2⟩ := Deep.hone_of T.hone 2 f2 rfl
        obtain ⟨o3, k3⟩ := Deep.hone_of T.hone 3 f3 rfl
        obtain ⟨o4, k4⟩ := Deep.hone_of T.hone 4 f4 rfl
        match cs', hl5, ys, hlen' with
        | [u0, u1, u2, u3, u4], _, [y0, y1, y2, y3, y4], _ =>
          have q0 := hgs 0 f0 rfl
          have q1 := hgs 1 f1 rfl
          have q2 := hgs 2 f2 rfl
          have q3 := hgs 3 f3 rfl
          have q4 := hgs 4 f4 rfl
          rw [o0, k0] at q0
          rw [o1, k1] at q1
          rw [o2, k2] at q2
          rw [o3, k3, T.h3] at q3
          rw [o4, k4, T.h4] at q4
          have hwe : ∀ n ∈ (elems[i]).1.weights P it, n ≤ reachBytes := fun n hn => hw n (by
            simp only [DataW.weights, T.ht, List.mem_cons, List.mem_append]
            exact Or.inr (Or.inl (weightsAll_mem (List.mem_map.2 ⟨elems[i], List.getElem_mem _, rfl⟩) n hn)))
          rw [hy] at hwe
          have hwf : ∀ (j : Nat) (f : Field) (y : DataW H × List MemPlace), (#[f0, f1, f2, f3, f4] : Array Field)[j]? = some f → ([y0, y1, y2, y3, y4] : List (DataW H × List MemPlace))[j]? = some y → ∀ n ∈ y.1.weights P f.type, n ≤ reachBytes := by
            intro j f y hj hy' n hn
            refine hwe n ?_
            simp only [DataW.weights, T.hs]
            refine DataW.weights_mem_each (j := j) (t := f.type) (d := y.1) ?_ ?_ n hn
            · rw [List.getElem?_map]
              have : ([f0, f1, f2, f3, f4] : List Field)[j]? = some f := by simpa using hj
              show Option.map _ (([f0, f1, f2, f3, f4] : List Field)[j]?) = _
              rw [this]; rfl
            · rw [List.getElem?_map, hy']; rfl
          obtain ⟨a0, e0, _, _⟩ := DataW.trod_int T.h0 q0
          obtain ⟨a1, e1, _⟩ := DataW.trod_bool T.h1 q1
          obtain ⟨a2, e2, _⟩ := DataW.trod_bool T.h2 q2
          obtain ⟨At, m, c', bs, eu, r1, r2, r3, r4, r5⟩ := open_txt T.h3' T.he T.hc T.hb (show DataW.trod enc P W 0 (fun _ => true) true n' et [u3] = some y3 from q3)
          have hm' : m ≤ 140737488351232 := r5 (fun n hn => hwf 3 f3 y3 rfl rfl n (by rw [T.h3]; exact hn))
          obtain ⟨As, m2, d, sub, es, s1, s2, s3, s4, s5⟩ := ih n' (by omega) u4 y4 (show DataW.trod enc P W 0 (fun _ => true) true n' t [u4] = some y4 from q4) (fun n hn => hwf 4 f4 y4 rfl rfl n (by rw [T.h4]; exact hn))
          simp at e0 e1 e2
          subst e0 e1 e2 eu es s2
          have g : ∀ q (hq : q < 5), W.cell? (a.add (i * 5 + q)) = [Value.int .i64 a0, .bool a1, .bool a2, .slice At m c', .slice As sub.len d][q]? := fun q hq => by
            rw [← Deep.add_add]
            exact hg q (by simpa using hq)
          refine ⟨a0, a1, a2, At, m, c', bs, As, d, sub, ⟨g 0 (by decide), g 1 (by decide), g 2 (by decide), g 3 (by decide), g 4 (by decide)⟩, ⟨r1, r2, r3, r4, fun h0 a' e' => ?_, by omega⟩, s1, s3, s4, s5⟩
          rcases r2 with h | ⟨b', off, rfl, hb', _⟩
          · have h0' : 0 < m := h0
            have : bs = [] := by simpa using h
            rw [this, List.length_nil] at r1
            omega
          · injection e' with e'; subst e'; exact hb'
      rcases Nat.eq_zero_or_pos len with h0 | h0
      · subst h0
        exact ⟨some a, 0, cap, .nil, rfl, trivial, rfl, Nat.zero_le _, hm, Nat.zero_le _⟩
      · obtain ⟨k, _, _, _, _, _, _, _, _, _, ⟨hc0, _⟩, _⟩ := each 0 h0
        have e1 : a.add (0 * 5 + 0) = a := by simp [Addr.add]
        rw [e1] at hc0
        have hsp' := World.cell?_spot hc0
        have hlt := World.block_lt_of_cell? W a hc0
        obtain ⟨b, off, spot⟩ := a
        simp only at hsp' hlt
        subst hsp'
        have each' : ∀ i, i < len → ∃ (k : Int) (cr li : Bool) (At : Option Addr) (n c : Nat) (bs : List UInt8) (As : Option Addr) (d : Nat) (sub : Fo),
            (W.cell? ⟨b, off + i * 5, none⟩ = some (.int .i64 k) ∧ W.cell? ⟨b, off + i * 5 + 1, none⟩ = some (.bool cr) ∧ W.cell? ⟨b, off + i * 5 + 2, none⟩ = some (.bool li) ∧
             W.cell? ⟨b, off + i * 5 + 3, none⟩ = some (.slice At n c) ∧ W.cell? ⟨b, off + i * 5 + 4, none⟩ = some (.slice As sub.len d)) ∧
            TxtR (· < W.heap.size) W At n c bs ∧ FoR (· < W.heap.size) W As 0 sub ∧ sub.len ≤ d ∧ d ≤ maxLen ∧ sub.len ≤ 2199023255488 := by
          intro i hi
          obtain ⟨k, cr, li, At, n, c, bs, As, d, sub, ⟨g0, g1, g2, g3, g4⟩, r⟩ := each i hi
          rw [Addr.add_lit] at g0 g1 g2 g3 g4
          exact ⟨k, cr, li, At, n, c, bs, As, d, sub, ⟨g0, g1, g2, g3, g4⟩, r⟩
        obtain ⟨f, hf1, hf2⟩ := fo_of_all (ok := (· < W.heap.size)) hlt hlt each' len 0 (by omega)
        exact ⟨some ⟨b, off, none⟩, len, cap, f, rfl, hf2, hf1, hl, hm, by omega⟩
theorem opn_fo {H : Type} {enc : TypeId × Value → H} {P : Program} {W : World} {base t it et e j : Nat} {f0 f1 f2 f3 f4 : Field} (T : ItT P t it f0 f1 f2 f3 f4 et e) {v : Value} {d : DataW H} {p : List MemPlace} {ts : List TypeId} {ds : List (DataW H)}
    (hv : Value.okWide P W .any base t v) (hj : DataW.Trod enc P W 0 (fun _ => true) true t v d p) (hsz : (DataW.weightsEach P ts ds).all (· ≤ reachBytes) = true) (k1 : ts[j]? = some t) (k2 : ds[j]? = some d) :
    ∃ (A : Option Addr) (n c : Nat) (f : Fo), v = .slice A n c ∧ (FoR (· < W.heap.size) W A 0 f ∧ f.len = n ∧ n ≤ c ∧ c ≤ maxLen ∧ n ≤ 2199023255488) := by
  obtain ⟨a0, len, cap, rfl⟩ := okWide_slice T.ht hv
  obtain ⟨fuel, hf⟩ := hj
  have hf' : DataW.trod enc P W 0 (fun _ => true) true fuel t [.slice a0 len cap] = some (d, p) := by
    simpa [Value.cells] using hf
  obtain ⟨A, n, c, f, e1, r⟩ := open_fo T fuel _ _ hf' (fun n hn => of_decide_eq_true (List.all_eq_true.1 hsz n (DataW.weights_mem_each k1 k2 n hn)))
  exact ⟨A, n, c, f, e1, r⟩
end Go.Proofs.Ytcffinkkfdfcaaa

/- How a law's argument is opened: data with a part, by value. Conditions: none. -/
namespace Go.Proofs.Ytcffinkkfdfcaaa
open Go Go.RowKit Go.ChangeShapes Go.WideShapes

/-- The fields of a part's type. -/
structure PaT (P : Program) (t : TypeId) (f0 f1 f2 f3 : Field) (e : TypeId) : Prop where
  hs : P.underlying t = some (.struct #[f0, f1, f2, f3])
  hC : P.cellsOf t = 4
  hone : Deep.oneCellFields P #[f0, f1, f2, f3] = true
  h0 : P.underlying f0.type = some (.int .u32)
  h1 : P.underlying f1.type = some (.int .i64)
  h2 : P.underlying f2.type = some (.int .i64)
  h3 : P.underlying f3.type = some (.slice e)
  he : P.underlying e = some (.int .u8)
  hc : P.cellsOf e = 1
  hb : P.bytesOf e = 1
/-- The fields of data's type. -/
structure DaT (P : Program) (t : TypeId) (f0 f1 f2 f3 f4 f5 : Field) (pt : TypeId) (g0 g1 g2 g3 : Field) (e : TypeId) : Prop where
  hs : P.underlying t = some (.struct #[f0, f1, f2, f3, f4, f5])
  hC : P.cellsOf t = 9
  o0 : f0.offset = 0
  o1 : f1.offset = 1
  o2 : f2.offset = 2
  o3 : f3.offset = 3
  o4 : f4.offset = 4
  o5 : f5.offset = 5
  k0 : P.cellsOf f0.type = 1
  k1 : P.cellsOf f1.type = 1
  k2 : P.cellsOf f2.type = 1
  k3 : P.cellsOf f3.type = 1
  k4 : P.cellsOf f4.type = 1
  h0 : P.underlying f0.type = some (.int .u16)
  h1 : P.underlying f1.type = some (.int .u16)
  h2 : P.underlying f2.type = some (.int .u64)
  h3 : P.underlying f3.type = some (.int .u64)
  h4 : P.underlying f4.type = some .bool
  h5 : f5.type = pt
  T : PaT P pt g0 g1 g2 g3 e
theorem nat_u16 {a : Int} (w : (Lit.int .u16 a).wf = true) : ∃ n : Nat, a = (n : Int) ∧ n < 65536 := by
  simp only [Lit.wf, IntKind.min, IntKind.max, IntKind.signed, IntKind.bits, Bool.and_eq_true, decide_eq_true_eq] at w
  have v1 : (0 : Int) ≤ a := by simpa using w.1
  have v2 : a ≤ 65535 := by simpa using w.2
  exact ⟨a.toNat, by omega, by omega⟩
theorem nat_u32 {a : Int} (w : (Lit.int .u32 a).wf = true) : ∃ n : Nat, a = (n : Int) ∧ n < 4294967296 := by
  simp only [Lit.wf, IntKind.min, IntKind.max, IntKind.signed, IntKind.bits, Bool.and_eq_true, decide_eq_true_eq] at w
  have v1 : (0 : Int) ≤ a := by simpa using w.1
  have v2 : a ≤ 4294967295 := by simpa using w.2
  exact ⟨a.toNat, by omega, by omega⟩
theorem nat_u64 {a : Int} (w : (Lit.int .u64 a).wf = true) : ∃ n : Nat, a = (n : Int) ∧ n < 18446744073709551616 := by
  simp only [Lit.wf, IntKind.min, IntKind.max, IntKind.signed, IntKind.bits, Bool.and_eq_true, decide_eq_true_eq] at w
  have v1 : (0 : Int) ≤ a := by simpa using w.1
  have v2 : a ≤ 18446744073709551615 := by simpa using w.2
  exact ⟨a.toNat, by omega, by omega⟩
theorem open_part {H : Type} {enc : TypeId × Value → H} {P : Program} {W : World} {t e fuel : Nat} {f0 f1 f2 f3 : Field} (T : PaT P t f0 f1 f2 f3 e) {cs : List Value} {x : DataW H × List MemPlace}
    (hf : DataW.trod enc P W 0 (fun _ => true) true fuel t cs = some x) (hw : ∀ n ∈ x.1.weights P t, n ≤ reachBytes) :
    ∃ (id : Nat) (ix ct : Int) (A : Option Addr) (n c : Nat) (bs : List UInt8), cs = [.int .u32 (id : Int), .int .i64 ix, .int .i64 ct, .slice A n c] ∧ id < 4294967296 ∧ (Lit.int .i64 ix).wf = true ∧ (Lit.int .i64 ct).wf = true ∧ TxtR (· < W.heap.size) W A n c bs ∧ n ≤ 140737488351232 := by
  obtain ⟨ys, n', _, hy, hl4, hlen', hgs⟩ := DataW.trod_struct T.hs hf
  rw [T.hC] at hl4
  obtain ⟨o0, k0⟩ := Deep.hone_of T.hone 0 f0 rfl
  obtain ⟨o1, k1⟩ := Deep.hone_of T.hone 1 f1 rfl
  obtain ⟨o2, k2⟩ := Deep.hone_of T.hone 2 f2 rfl
  obtain ⟨o3, k3⟩ := Deep.hone_of T.hone 3 f3 rfl
  match cs, hl4, ys, hlen' with
  | [u0, u1, u2, u3], _, [y0, y1, y2, y3], _ =>
    have q0 := hgs 0 f0 rfl
    have q1 := hgs 1 f1 rfl
    have q2 := hgs 2 f2 rfl
    have q3 := hgs 3 f3 rfl
    rw [o0, k0] at q0
    rw [o1, k1] at q1
    rw [o2, k2] at q2
    rw [o3, k3] at q3
    rw [hy] at hw
    have hwf : ∀ (j : Nat) (f : Field) (y : DataW H × List MemPlace), (#[f0, f1, f2, f3] : Array Field)[j]? = some f → ([y0, y1, y2, y3] : List (DataW H × List MemPlace))[j]? = some y → ∀ n ∈ y.1.weights P f.type, n ≤ reachBytes := by
      intro j f y hj hy' n hn
      refine hw n ?_
      simp only [DataW.weights, T.hs]
      refine DataW.weights_mem_each (j := j) (t := f.type) (d := y.1) ?_ ?_ n hn
      · rw [List.getElem?_map]
        have : ([f0, f1, f2, f3] : List Field)[j]? = some f := by simpa using hj
        show Option.map _ (([f0, f1, f2, f3] : List Field)[j]?) = _
        rw [this]; rfl
      · rw [List.getElem?_map, hy']; rfl
    obtain ⟨a0, e0, _, w0⟩ := DataW.trod_int T.h0 q0
    obtain ⟨a1, e1, _, w1⟩ := DataW.trod_int T.h1 q1
    obtain ⟨a2, e2, _, w2⟩ := DataW.trod_int T.h2 q2
    obtain ⟨At, m, c', bs, eu, r1, r2, r3, r4, r5⟩ := open_txt T.h3 T.he T.hc T.hb (show DataW.trod enc P W 0 (fun _ => true) true n' f3.type [u3] = some y3 from q3)
    have hm' : m ≤ 140737488351232 := r5 (fun n hn => hwf 3 f3 y3 rfl rfl n hn)
    obtain ⟨b0, rfl, h0⟩ := nat_u32 w0
    simp at e0 e1 e2
    subst e0 e1 e2 eu
    refine ⟨b0, a1, a2, At, m, c', bs, rfl, h0, w1, w2, ⟨r1, r2, r3, r4, fun h0 a' e' => ?_, by omega⟩, hm'⟩
    rcases r2 with h | ⟨b', off, rfl, hb', _⟩
    · have h0' : 0 < m := h0
      have : bs = [] := by simpa using h
      rw [this, List.length_nil] at r1
      omega
    · injection e' with e'; subst e'; exact hb'
theorem open_dat {H : Type} {enc : TypeId × Value → H} {P : Program} {W : World} {t pt e fuel : Nat} {f0 f1 f2 f3 f4 f5 g0 g1 g2 g3 : Field} (T : DaT P t f0 f1 f2 f3 f4 f5 pt g0 g1 g2 g3 e) {cs : List Value} {x : DataW H × List MemPlace}
    (hf : DataW.trod enc P W 0 (fun _ => true) true fuel t cs = some x) (hw : ∀ n ∈ x.1.weights P t, n ≤ reachBytes) :
    ∃ (st ec ak th : Nat) (has : Bool) (id : Nat) (ix ct : Int) (A : Option Addr) (n c : Nat) (bs : List UInt8), cs = [.int .u16 (st : Int), .int .u16 (ec : Int), .int .u64 (ak : Int), .int .u64 (th : Int), .bool has, .int .u32 (id : Int), .int .i64 ix, .int .i64 ct, .slice A n c] ∧
      st < 65536 ∧ ec < 65536 ∧ ak < 18446744073709551616 ∧ th < 18446744073709551616 ∧ id < 4294967296 ∧ (Lit.int .i64 ix).wf = true ∧ (Lit.int .i64 ct).wf = true ∧ TxtR (· < W.heap.size) W A n c bs ∧ n ≤ 140737488351232 := by
  obtain ⟨ys, n, _, rfl, hl, hlen, hg⟩ := DataW.trod_struct T.hs hf
  rw [T.hC] at hl
  match cs, hl, ys, hlen with
  | [u0, u1, u2, u3, u4, u5, u6, u7, u8], _, [y0, y1, y2, y3, y4, y5], _ =>
    have q0 := hg 0 f0 rfl
    have q1 := hg 1 f1 rfl
    have q2 := hg 2 f2 rfl
    have q3 := hg 3 f3 rfl
    have q4 := hg 4 f4 rfl
    have q5 := hg 5 f5 rfl
    rw [T.o0, T.k0] at q0
    rw [T.o1, T.k1] at q1
    rw [T.o2, T.k2] at q2
    rw [T.o3, T.k3] at q3
    rw [T.o4, T.k4] at q4
    rw [T.o5, T.h5, T.T.hC] at q5
    have hwe : ∀ (j : Nat) (f : Field) (y : DataW H × List MemPlace), (#[f0, f1, f2, f3, f4, f5] : Array Field)[j]? = some f → ([y0, y1, y2, y3, y4, y5] : List (DataW H × List MemPlace))[j]? = some y → ∀ n ∈ y.1.weights P f.type, n ≤ reachBytes := by
      intro j f y hj hy n hn
      refine hw n ?_
      simp only [DataW.weights, T.hs]
      refine DataW.weights_mem_each (j := j) (t := f.type) (d := y.1) ?_ ?_ n hn
      · rw [List.getElem?_map]
        have : ([f0, f1, f2, f3, f4, f5] : List Field)[j]? = some f := by simpa using hj
        show Option.map _ (([f0, f1, f2, f3, f4, f5] : List Field)[j]?) = _
        rw [this]; rfl
      · rw [List.getElem?_map, hy]; rfl
    obtain ⟨a0, e0, _, w0⟩ := DataW.trod_int T.h0 q0
    obtain ⟨a1, e1, _, w1⟩ := DataW.trod_int T.h1 q1
    obtain ⟨a2, e2, _, w2⟩ := DataW.trod_int T.h2 q2
    obtain ⟨a3, e3, _, w3⟩ := DataW.trod_int T.h3 q3
    obtain ⟨a4, e4, _⟩ := DataW.trod_bool T.h4 q4
    obtain ⟨id, ix, ct, A, m, c, bs, ecs, r⟩ := open_part T.T q5 (fun n hn => hwe 5 f5 y5 rfl rfl n (by rw [T.h5]; exact hn))
    obtain ⟨b0, rfl, h0⟩ := nat_u16 w0
    obtain ⟨b1, rfl, h1⟩ := nat_u16 w1
    obtain ⟨b2, rfl, h2⟩ := nat_u64 w2
    obtain ⟨b3, rfl, h3⟩ := nat_u64 w3
    simp at e0 e1 e2 e3 e4 ecs
    obtain ⟨z1, z2, z3, z4⟩ := ecs
    subst e0 e1 e2 e3 e4 z1 z2 z3 z4
    exact ⟨b0, b1, b2, b3, a4, id, ix, ct, A, m, c, bs, rfl, h0, h1, h2, h3, r⟩
theorem opn_dat {H : Type} {enc : TypeId × Value → H} {P : Program} {W : World} {base t pt e j : Nat} {f0 f1 f2 f3 f4 f5 g0 g1 g2 g3 : Field} (T : DaT P t f0 f1 f2 f3 f4 f5 pt g0 g1 g2 g3 e) {v : Value} {d : DataW H} {p : List MemPlace} {ts : List TypeId} {ds : List (DataW H)}
    (hv : Value.okWide P W .any base t v) (hj : DataW.Trod enc P W 0 (fun _ => true) true t v d p) (hsz : (DataW.weightsEach P ts ds).all (· ≤ reachBytes) = true) (k1 : ts[j]? = some t) (k2 : ds[j]? = some d) :
    ∃ (st ec ak th : Nat) (has : Bool) (id : Nat) (ix ct : Int) (A : Option Addr) (n c : Nat) (bs : List UInt8), v = .agg #[.int .u16 (st : Int), .int .u16 (ec : Int), .int .u64 (ak : Int), .int .u64 (th : Int), .bool has, .int .u32 (id : Int), .int .i64 ix, .int .i64 ct, .slice A n c] ∧
      (st < 65536 ∧ ec < 65536 ∧ ak < 18446744073709551616 ∧ th < 18446744073709551616 ∧ id < 4294967296 ∧ (Lit.int .i64 ix).wf = true ∧ (Lit.int .i64 ct).wf = true ∧ TxtR (· < W.heap.size) W A n c bs ∧ n ≤ 140737488351232) := by
  obtain ⟨cs, rfl, hsz2⟩ := okWide_struct T.hs hv
  obtain ⟨fuel, hf⟩ := hj
  obtain ⟨st, ec, ak, th, has, id, ix, ct, A, m, c, bs, hcs, r⟩ := open_dat T hf (fun n hn => of_decide_eq_true (List.all_eq_true.1 hsz n (DataW.weights_mem_each k1 k2 n hn)))
  refine ⟨st, ec, ak, th, has, id, ix, ct, A, m, c, bs, ?_, r⟩
  congr 1
  apply Array.ext'
  simpa [Value.cells] using hcs
end Go.Proofs.Ytcffinkkfdfcaaa

/- The walk of the law BodyData: it returns true. Conditions: the row's own. -/
namespace Go.Proofs.Ytcffinkkfdfcaaa
open Go Go.RowKit

set_option maxRecDepth 100000 in
set_option maxHeartbeats 8000000 in
theorem BodyData_walk (w : World) (v : Int) (hv : (Lit.int .i64 v).wf = true) (st ec ak th : Nat) (has : Bool) (id : Nat) (ix ct : Int) (A : Option Addr) (n c : Nat) (bs : List UInt8)
    (hd : st < 65536 ∧ ec < 65536 ∧ ak < 18446744073709551616 ∧ th < 18446744073709551616 ∧ id < 4294967296 ∧ (Lit.int .i64 ix).wf = true ∧ (Lit.int .i64 ct).wf = true ∧ TxtR (· < w.heap.size) w A n c bs ∧ n ≤ 140737488351232) :
    Calls Try.prog 3 #[.int .i64 v, .agg #[.int .u16 (st : Int), .int .u16 (ec : Int), .int .u64 (ak : Int), .int .u64 (th : Int), .bool has, .int .u32 (id : Int), .int .i64 ix, .int .i64 ct, .slice A n c]] w fun r w' => r = .returned (.bool true) ∧ Below w.heap.size w w' := by
  obtain ⟨h1, h2, h3, h4, h5, -, -, ht, hl⟩ := hd
  have U1 : Hid (U16 st) := Lib.hid h1
  have U2 : Hid (U16 ec) := Lib.hid h2
  have U3 : Hid (U64 ak) := Lib.hid h3
  have U4 : Hid (U64 th) := Lib.hid h4
  have U5 := Lib.hid h5
  have HT := Lib.hid ht
  have HL := Lib.hid hl
  clear h1 h2 h3 h4 h5 ht hl hv
  obtain ⟨W0, eW⟩ : ∃ W0, W0 = w.alloc (.cells #[.int .u16 (st : Int), .int .u16 (ec : Int), .int .u64 (ak : Int), .int .u64 (th : Int), .bool has, .int .u32 (id : Int), .int .i64 ix, .int .i64 ct, .slice A n c] 29) := ⟨_, rfl⟩
  have HD : Hid (D9 W0 w.heap.size #[.int .u16 (st : Int), .int .u16 (ec : Int), .int .u64 (ak : Int), .int .u64 (th : Int), .bool has, .int .u32 (id : Int), .int .i64 ix, .int .i64 ct, .slice A n c]) := Lib.hid (by rw [eW]; exact heap_alloc_new w _)
  have HB : Hid (Below w.heap.size w W0) := Lib.hid (by rw [eW]; exact (Below.refl _ _).alloc (Nat.le_refl _) _)
  have HS : Hid (W0.heap.size = w.heap.size + 1) := Lib.hid (by rw [eW]; simp)
  have EW := Lib.hid eW
  clear eW
  obtain ⟨x0, x1, x2, x3, x4, x5, x6, x7, x8⟩ := nine_of HD.out
  go_enter Try.func3, Try.ntmps3
  by_cases hn : n ≤ 16384
  · have d0 : decide ((16384 : Int) < (n : Int)) = false := decide_eq_false (by omega)
    go_upto_region 3 with (fail)
    rw [← EW.out]
    obtain ⟨W1, eW1⟩ : ∃ W1, W1 = W0.alloc (.cells #[.int .u16 (st : Int), .int .u16 (ec : Int), .int .u64 (ak : Int), .int .u64 (th : Int), .bool has, .int .u32 (id : Int), .int .i64 ix, .int .i64 ct, .slice A n c] 29) := ⟨_, rfl⟩
    obtain ⟨g5, eg5⟩ : ∃ g5, g5 = W0.heap.size := ⟨_, rfl⟩
    have b1 : Below W0.heap.size W0 W1 := by rw [eW1]; exact (Below.refl _ _).alloc (Nat.le_refl _) _
    have HG1 : Hid (D9 W1 g5 #[.int .u16 (st : Int), .int .u16 (ec : Int), .int .u64 (ak : Int), .int .u64 (th : Int), .bool has, .int .u32 (id : Int), .int .i64 ix, .int .i64 ct, .slice A n c]) := Lib.hid (by rw [eW1, eg5]; exact heap_alloc_new W0 _)
    have HD1 := Lib.hid (HD.out.below b1 (by rw [HS.out]; exact Nat.lt_succ_self _))
    have HB1 := Lib.hid (HB.out.trans (b1.mono HB.out.size))
    have HGG : Hid (g5 = w.heap.size + 1) := Lib.hid (by rw [eg5, HS.out])
    have EW1 := Lib.hid eW1
    have EG5 := Lib.hid eg5
    clear eW1 eg5 b1
    go_upto_region 4 with (fail)
    rw [← EW1.out, ← EG5.out]
    clear x0 x1 x2 x3 x4 x5 x6 x7 x8
    obtain ⟨x0, x1, x2, x3, x4, x5, x6, x7, x8⟩ := nine_of HD1.out
    go_wp2_with (fail)
    clear x0 x1 x2 x3 x4 x5 x6 x7 x8
    refine (Copy_c A n c bs W1 HT.out.1 (HT.out.2.1.below HB1.out) (by have := HL.out; omega)).mono ?_
    rintro _ W2 ⟨x, rfl, ho2, hb2⟩
    obtain ⟨A2, c2, rfl, hc2, hm2, r2, f2⟩ := OwnB.form ho2
    have hz12 : g5 < W1.heap.size := heap_lt HG1.out
    have hg2 : D9 W2 g5 _ := HG1.out.below hb2 hz12
    obtain ⟨W3, eW3⟩ : ∃ W3, W3 = W2.setCell ⟨g5, 8, none⟩ (.slice A2 bs.length c2) := ⟨_, rfl⟩
    have hg3 : D9 W3 g5 #[.int .u16 (st : Int), .int .u16 (ec : Int), .int .u64 (ak : Int), .int .u64 (th : Int), .bool has, .int .u32 (id : Int), .int .i64 ix, .int .i64 ct, .slice A2 bs.length c2] := by rw [eW3]; exact heap_set hg2 8 _
    have k3 : Keeps (fun j => j = g5) W2 W3 := by rw [eW3]; exact Keeps.set _ W2 ⟨g5, 8, none⟩ _ rfl
    have HB3 : Hid (Below w.heap.size w W3) := Lib.hid (keepsP_b (HB1.out.trans (hb2.mono HB1.out.size)) k3 (by have := HGG.out; omega) (Nat.le_refl _))
    have HD3 := Lib.hid (show D9 W3 w.heap.size #[.int .u16 (st : Int), .int .u16 (ec : Int), .int .u64 (ak : Int), .int .u64 (th : Int), .bool has, .int .u32 (id : Int), .int .i64 ix, .int .i64 ct, .slice A n c] from (k3.block w.heap.size (Nat.lt_of_lt_of_le (by have := heap_lt HD1.out; exact this) hb2.size) (by have := HGG.out; omega)).trans (HD1.out.below hb2 (heap_lt HD1.out)))
    have ht3 : TxtR (· < W3.heap.size) W3 A2 n c2 bs := by
      refine ⟨HT.out.1, r2.of_blocks (fun b _ ⟨off, e⟩ => k3.block b (f2 _ e).2.1 (by have := (f2 _ e).1; simp at this; omega)) k3.size, by rw [← HT.out.1]; exact hc2, hm2, fun _ a e => Nat.lt_of_lt_of_le (f2 a e).2.1 k3.size, by have := HL.out; omega⟩
    have HT3 := Lib.hid ht3
    have HG3 := Lib.hid hg3
    have HLN : Hid (bs.length = n) := Lib.hid HT.out.1
    have hfz : W2.frozen? ⟨g5, 8, none⟩ = false := heap_free hg2 8
    have hcz := D9.cell hg2 8 rfl
    have EW3 := Lib.hid eW3
    clear ho2 hb2 hc2 hm2 r2 f2 hz12 hg2 eW3 hg3 k3 ht3
    go_upto_region 5 with (fail)
    rw [← EW3.out]
    rw [HLN.out]
    clear hfz hcz
    have HG3' := HG3.out
    rw [HLN.out] at HG3'
    have HG4 := Lib.hid HG3'
    clear HG3' HG3
    obtain ⟨x0, x1, x2, x3, x4, x5, x6, x7, x8⟩ := nine_of HG4.out
    go_wp2_with (fail)
    clear x0 x1 x2 x3 x4 x5 x6 x7 x8
    refine (PutData_c v st ec ak th has id ix ct A2 n c2 bs W3 U1.out U2.out U3.out U4.out U5.out HT3.out HL.out).mono ?_
    rintro _ W4 ⟨x, rfl, ho4, hb4⟩
    obtain ⟨E, eE⟩ : ∃ E, (putD v ⟨st, ec, ak, th, has, ⟨id, ix, ct, bs⟩⟩).1 = E := ⟨_, rfl⟩
    obtain ⟨L, eL⟩ : ∃ L, (putD v ⟨st, ec, ak, th, has, ⟨id, ix, ct, bs⟩⟩).2 = L := ⟨_, rfl⟩
    rw [eE]
    rw [eL] at ho4
    obtain ⟨A4, c4, rfl, hc4, hm4, r4, _⟩ := OwnB.form ho4
    obtain ⟨m, em⟩ : ∃ m, L.length = m := ⟨_, rfl⟩
    rw [em] at hc4 ⊢
    have HE := Lib.hid eE
    have HLL := Lib.hid eL
    have EM := Lib.hid em
    have R4 := Lib.hid r4
    have HB4 := Lib.hid (HB3.out.trans (hb4.mono HB3.out.size))
    have HD4 := Lib.hid (HD3.out.below hb4 (heap_lt HD3.out))
    have HG5 := Lib.hid (HG4.out.below hb4 (heap_lt HG4.out))
    have HT4 := Lib.hid (HT3.out.2.1.below hb4)
    have hm5 : m ≤ maxLen := Nat.le_trans hc4 hm4
    have HM5 := Lib.hid hm5
    clear ho4 hb4 eE eL em r4 hc4 hm4 hm5 HG4 HD3 HB3
    obtain ⟨x0, x1, x2, x3, x4, x5, x6, x7, x8⟩ := nine_of HD4.out
    go_wp2_with (fail)
    clear x0 x1 x2 x3 x4 x5 x6 x7 x8
    refine (refPutData_c v st ec ak th has id ix ct A n c bs W4 U1.out U2.out U3.out U4.out U5.out (HT.out.frame (fun j hj _ => HB4.out.block j hj) HB4.out.size |>.weak (fun j (hj : j < w.heap.size) _ => Nat.lt_of_lt_of_le hj HB4.out.size)) HL.out).mono ?_
    rintro _ W5 ⟨x, rfl, ho5, hb5⟩
    rw [HE.out]
    rw [HLL.out] at ho5
    obtain ⟨A5, c5, rfl, hc5, hm5, r5, _⟩ := OwnB.form ho5
    rw [EM.out] at hc5 ⊢
    have R5 := Lib.hid r5
    have R45 := Lib.hid (R4.out.below hb5)
    have HB5 := Lib.hid (HB4.out.trans (hb5.mono HB4.out.size))
    have HD5 := Lib.hid (HD4.out.below hb5 (heap_lt HD4.out))
    have HG6 := Lib.hid (HG5.out.below hb5 (heap_lt HG5.out))
    have HT5 := Lib.hid (HT4.out.below hb5)
    clear ho5 hb5 hc5 hm5 r5 HG5 HD4
    go_wp2_with (fail)
    refine (fixedB_c W5).mono ?_
    rintro _ W6 ⟨rfl, hb6⟩
    have R46 := Lib.hid (R45.out.below hb6)
    have R56 := Lib.hid (R5.out.below hb6)
    have HB6 := Lib.hid (HB5.out.trans (hb6.mono HB5.out.size))
    have HD6 := Lib.hid (HD5.out.below hb6 (heap_lt HD5.out))
    have HG7 := Lib.hid (HG6.out.below hb6 (heap_lt HG6.out))
    have HT6 := Lib.hid (HT5.out.below hb6)
    have dE : ((E : Int) == (E : Int)) = true := by simp
    clear hb6 R45 R5 HD5 HG6 HT5
    go_wp2_with (fail)
    refine (Same_t A4 A5 m m c4 c5 L W6 EM.out EM.out R46.out R56.out HM5.out).mono ?_
    rintro _ W7 ⟨rfl, q7, rfl⟩
    obtain ⟨x0, x1, x2, x3, x4, x5, x6, x7, x8⟩ := nine_of HD6.out
    obtain ⟨y0, y1, y2, y3, y4, y5, y6, y7, y8⟩ := nine_of HG7.out
    go_wp2_with (fail)
    clear x0 x1 x2 x3 x4 x5 x6 x7 x8 y0 y1 y2 y3 y4 y5 y6 y7 y8
    refine (SameData_t st ec ak th has id ix ct A2 A n c2 c bs (W6.drewN q7) HT.out.1 (HT6.out.drewN q7) ((HT.out.2.1.below HB6.out).drewN q7) (by have := HL.out; unfold maxLen; omega)).mono ?_
    rintro _ W8 ⟨rfl, hb8⟩
    have HB8 := Lib.hid ((below_drewN HB6.out q7).trans (hb8.mono HB6.out.size))
    clear hb8
    go_wp2_with (fail)
    go_ret
    exact ⟨rfl, HB8.out⟩
  · have d0 : decide ((16384 : Int) < (n : Int)) = true := decide_eq_true (by omega)
    go_wp2_with (fail)
    rw [← EW.out]
    refine (fixedB_c W0).mono ?_
    rintro _ w1 ⟨rfl, hb1⟩
    have HB1 := Lib.hid (HB.out.trans (hb1.mono HB.out.size))
    clear hb1 x0 x1 x2 x3 x4 x5 x6 x7 x8
    go_wp2_with (fail)
    go_ret
    exact ⟨rfl, HB1.out⟩
end Go.Proofs.Ytcffinkkfdfcaaa
