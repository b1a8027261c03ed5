/- Parts one behind the other: How a law's argument is opened: an event by value; a slice of events; The walk of the law KeysBack: it returns true. Conditions: as told at each. -/
import Derived.Test.YtgnciejbhaebeaaPKeysBack2
import Derived.Test.YtgnciejbhaebeaaPKeysBack5
import Derived.Deep.Fields
import Derived.Test.YtgnciejbhaebeaaPKeysBack3
import Derived.Test.YtgnciejbhaebeaaPKeysBack4
import Derived.Deep.CutBlock

/- How a law's argument is opened: an event by value; a slice of events. Conditions: none. -/
namespace Go.Proofs.Ytgnciejbhaebeaa
open Go Go.RowKit Go.ChangeShapes Go.WideShapes

/-- The fields of an event's type. -/
structure EvT (P : Program) (t : TypeId) (f0 f1 f2 f3 f4 : Field) (e : TypeId) : Prop where
  hs : P.underlying t = some (.struct #[f0, f1, f2, f3, f4])
  hone : Deep.oneCellFields P #[f0, f1, f2, f3, f4] = true
  hC : P.cellsOf t = 5
  h0 : P.underlying f0.type = some (.int .i64)
  h1 : P.underlying f1.type = some (.slice e)
  h2 : P.underlying f2.type = some (.int .i64)
  h3 : P.underlying f3.type = some (.int .i64)
  h4 : P.underlying f4.type = some (.int .i64)
  he : P.underlying e = some (.int .u8)
  hc : P.cellsOf e = 1
  hb : P.bytesOf e = 1

theorem open_txt {H : Type} {enc : TypeId × Value → H} {P : Program} {W : World} {t e fuel : Nat} {u : Value} {y : DataW H × List MemPlace} (ht : P.underlying t = some (.slice e)) (he : P.underlying e = some (.int .u8)) (hc : P.cellsOf e = 1) (hb : P.bytesOf e = 1)
    (hf : DataW.trod enc P W 0 (fun _ => true) true fuel t [u] = some y) :
    ∃ (A : Option Addr) (m c : Nat) (bs : List UInt8), u = .slice A m c ∧ bs.length = m ∧ Rd W A (bs.map bv) ∧ m ≤ c ∧ c ≤ maxLen ∧ ((∀ n ∈ y.1.weights P t, n ≤ reachBytes) → m ≤ 140737488351232) := by
  rcases open_ints ht he hc hf with ⟨hcs, _⟩ | ⟨x, l, c, zs, hcs, _, hl, hm, hz, hx, hcell, hwz⟩
  · injection hcs with hcs _
    subst hcs
    exact ⟨none, 0, 0, [], rfl, rfl, .inl rfl, Nat.le_refl _, Nat.zero_le _, fun _ => by decide⟩
  · injection hcs with hcs _
    subst hcs
    subst hx
    simp only [if_true] at hz
    obtain ⟨bs, g1, g2⟩ := rd_of_ints (len := l) (by omega) hcell hwz
    refine ⟨some x, l, c, bs, rfl, g1, g2, hl, hm, fun hw => ?_⟩
    have h := hw ((zs.take l).length + (zs.drop l).length) (by
      simp only [DataW.weights, ht, List.mem_cons]
      left
      rw [hb]
      simp [lits])
    simp only [List.length_take, List.length_drop, reachBytes] at h
    omega

theorem open_ev {H : Type} {enc : TypeId × Value → H} {P : Program} {W : World} {t e fuel : Nat} {f0 f1 f2 f3 f4 : Field} (T : EvT P t f0 f1 f2 f3 f4 e) {cs : List Value} {x : DataW H × List MemPlace} (hf : DataW.trod enc P W 0 (fun _ => true) true fuel t cs = some x) :
    ∃ (k : Int) (A : Option Addr) (m c : Nat) (X Y b : Int) (bs : List UInt8), cs = [.int .i64 k, .slice A m c, .int .i64 X, .int .i64 Y, .int .i64 b] ∧ bs.length = m ∧ Rd W A (bs.map bv) ∧ m ≤ c ∧ c ≤ maxLen ∧ ((∀ n ∈ x.1.weights P t, n ≤ reachBytes) → m ≤ 140737488351232) := by
  obtain ⟨ys, n, _, rfl, hl, hlen, hg⟩ := DataW.trod_struct T.hs hf
  rw [T.hC] at hl
  obtain ⟨o0, k0⟩ := Deep.hone_of T.hone 0 f0 rfl
  obtain ⟨o1, k1⟩ := Deep.hone_of T.hone 1 f1 rfl
  obtain ⟨o2, k2⟩ := Deep.hone_of T.hone 2 f2 rfl
  obtain ⟨o3, k3⟩ := Deep.hone_of T.hone 3 f3 rfl
  obtain ⟨o4, k4⟩ := Deep.hone_of T.hone 4 f4 rfl
  match cs, hl, ys, hlen with
  | [u0, u1, u2, u3, u4], _, [y0, y1, y2, y3, y4], _ =>
    have g0 := hg 0 f0 rfl
    have g1 := hg 1 f1 rfl
    have g2 := hg 2 f2 rfl
    have g3 := hg 3 f3 rfl
    have g4 := hg 4 f4 rfl
    rw [o0, k0] at g0
    rw [o1, k1] at g1
    rw [o2, k2] at g2
    rw [o3, k3] at g3
    rw [o4, k4] at g4
    obtain ⟨a0, e0, _, _⟩ := DataW.trod_int T.h0 g0
    obtain ⟨a2, e2, _, _⟩ := DataW.trod_int T.h2 g2
    obtain ⟨a3, e3, _, _⟩ := DataW.trod_int T.h3 g3
    obtain ⟨a4, e4, _, _⟩ := DataW.trod_int T.h4 g4
    obtain ⟨A, m, c, bs, eu, q1, q2, q3, q4, q5⟩ := open_txt T.h1 T.he T.hc T.hb g1
    simp at e0 e2 e3 e4
    subst e0 e2 e3 e4 eu
    refine ⟨a0, A, m, c, a2, a3, a4, bs, rfl, q1, q2, q3, q4, fun hw => q5 (fun n hn => hw n ?_)⟩
    simp only [DataW.weights, T.hs]
    exact DataW.weights_mem_each (j := 1) (t := f1.type) (d := y1.1) (by simp) (by simp) n hn

theorem opn_ev {H : Type} {enc : TypeId × Value → H} {P : Program} {W : World} {base t e j : Nat} {f0 f1 f2 f3 f4 : Field} (T : EvT P t f0 f1 f2 f3 f4 e) {v : Value} {d : DataW H} {p : List MemPlace} {ts : List TypeId} {ds : List (DataW H)}
    (hv : Value.okWide P W .any base t v) (hj : DataW.Trod enc P W 0 (fun _ => true) true t v d p) (hsz : (DataW.weightsEach P ts ds).all (· ≤ reachBytes) = true) (k1 : ts[j]? = some t) (k2 : ds[j]? = some d) :
    ∃ (k : Int) (A : Option Addr) (n c : Nat) (x y b : Int) (bs : List UInt8), v = .agg #[.int .i64 k, .slice A n c, .int .i64 x, .int .i64 y, .int .i64 b] ∧ (bs.length = n ∧ Rd W A (bs.map bv) ∧ n ≤ c ∧ c ≤ maxLen ∧ n ≤ 140737488351232) := by
  obtain ⟨cs, rfl, hsz2⟩ := okWide_struct T.hs hv
  obtain ⟨fuel, hf⟩ := hj
  obtain ⟨k, A, m, c, x, y, b, bs, hcs, q1, q2, q3, q4, q5⟩ := open_ev T hf
  refine ⟨k, A, m, c, x, y, b, bs, ?_, q1, q2, q3, q4, q5 (fun n hn => ?_)⟩
  · congr 1
    apply Array.ext'
    simpa [Value.cells] using hcs
  · exact of_decide_eq_true (List.all_eq_true.1 hsz n (DataW.weights_mem_each k1 k2 n hn))

theorem opn_evs {H : Type} {enc : TypeId × Value → H} {P : Program} {W : World} {base t et e j : Nat} {f0 f1 f2 f3 f4 : Field} (ht : P.underlying t = some (.slice et)) (hB : P.bytesOf et = 56) (T : EvT P et f0 f1 f2 f3 f4 e) {v : Value} {d : DataW H} {p : List MemPlace} {ts : List TypeId} {ds : List (DataW H)}
    (hv : Value.okWide P W .any base t v) (hj : DataW.Trod enc P W 0 (fun _ => true) true t v d p) (hsz : (DataW.weightsEach P ts ds).all (· ≤ reachBytes) = true) (k1 : ts[j]? = some t) (k2 : ds[j]? = some d) :
    ∃ (A : Option Addr) (n c : Nat) (dv : List EvV) (es : List Ev), v = .slice A n c ∧ (es.length = n ∧ EvsR (· < W.heap.size) W A dv es ∧ n ≤ c ∧ c ≤ maxLen ∧ n ≤ 2513169434843) := by
  obtain ⟨a0, len, cap, rfl⟩ := okWide_slice ht hv
  obtain ⟨fuel, hf⟩ := hj
  rcases Deep.open_slice ht hf with ⟨hcs, _⟩ | ⟨a, l, c, m, n, D, Pl, hcs, _, hl, hm, hmm, hx, hcell⟩
  · simp [Value.cells] at hcs
    obtain ⟨rfl, rfl, rfl⟩ := hcs
    exact ⟨none, 0, 0, [], [], rfl, rfl, ⟨rfl, .inl rfl, fun _ a e => (by cases e), fun i h => absurd h (by simp)⟩, Nat.le_refl _, Nat.zero_le _, by decide⟩
  · simp [Value.cells] at hcs
    obtain ⟨rfl, rfl, rfl⟩ := hcs
    simp only [if_true] at hmm
    subst hmm
    simp only [Prod.mk.injEq] at hx
    obtain ⟨rfl, _⟩ := hx
    have hb := sized_slice hsz k1 k2 ht
    rw [hB] at hb
    simp only [List.length_map, List.length_range, reachBytes] at hb
    have each : ∀ i, i < len → ∃ z : EvV × Ev, (∀ q (hq : q < 5), W.cell? (a.add (i * 5 + q)) = (z.1.cells)[q]?) ∧ EvR (· < W.heap.size) W z.1 z.2 := by
      intro i hi
      obtain ⟨cs', g1, g2⟩ := hcell i (by omega)
      rw [T.hC] at g1
      obtain ⟨_, hlen, hg⟩ := World.cells?_some g1
      obtain ⟨k, A, m', c', x, y, b, bs, hcs, q1, q2, q3, q4, q5⟩ := open_ev T g2
      have hm' : m' ≤ 140737488351232 := q5 (fun n hn => of_decide_eq_true (List.all_eq_true.1 hsz n (DataW.weights_mem_each k1 k2 n (by
        simp only [DataW.weights, ht, List.mem_cons, List.mem_append]
        exact Or.inr (Or.inl (weightsAll_mem (List.mem_map.2 ⟨i, List.mem_range.2 hi, rfl⟩) n hn))))))
      refine ⟨(⟨k, A, m', c', x, y, b⟩, ⟨k, bs, x, y, b⟩), fun q hq => ?_, rfl, rfl, rfl, rfl, q1, q2, q3, q4, fun h0 a' e => ?_, (show m' ≤ 140737488355328 by omega)⟩
      · rw [← Deep.add_add]
        subst hcs
        have := hg q (by simpa using hq)
        rw [this]
        rfl
      · rcases q2 with h | ⟨b', off, rfl, hb', _⟩
        · have h0' : 0 < m' := h0
          have : bs = [] := by simpa using h
          rw [this, List.length_nil] at q1
          omega
        · injection e with e; subst e; exact hb'
    obtain ⟨zs, hz1, hz2⟩ := list_of_all len each
    have hcellz : ∀ i (hi : i < zs.length) q, q < 5 → W.cell? (a.add (i * 5 + q)) = (cellsV (zs.map (·.1)))[i * 5 + q]? := by
      intro i hi q hq
      rw [cellsV_get _ i (by simpa using hi) q hq, (hz2 i hi).1 q hq]
      simp
    have hblk : 0 < len → a.spot = none ∧ a.block < W.heap.size := by
      intro h0
      have h := hcellz 0 (by omega) 0 (by decide)
      have hc0 : (cellsV (zs.map (·.1)))[0 * 5 + 0]? ≠ none := by
        rw [List.getElem?_eq_getElem (by rw [cellsV_length, List.length_map]; omega)]
        simp
      have h2 : ∃ u, W.cell? a = some u := by
        have e1 : a.add (0 * 5 + 0) = a := by simp [Addr.add]
        rw [e1] at h
        rw [← h] at hc0
        exact Option.ne_none_iff_exists'.1 hc0
      obtain ⟨u, hu⟩ := h2
      exact ⟨World.cell?_spot hu, World.block_lt_of_cell? W a hu⟩
    refine ⟨some a, len, _, zs.map (·.1), zs.map (·.2), rfl, by simpa using hz1, ⟨by simp, ?_, fun h0 a' e => ?_, fun i h1 h2 => ?_⟩, hl, hm, by omega⟩
    · rcases Nat.eq_zero_or_pos len with h0 | h0
      · left
        have : zs = [] := List.eq_nil_of_length_eq_zero (by omega)
        rw [this]; rfl
      · obtain ⟨hsp, hlt⟩ := hblk h0
        obtain ⟨b, off, spot⟩ := a
        simp only at hsp
        subst hsp
        refine .inr ⟨b, off, rfl, hlt, fun k hk => ?_⟩
        have hk' : k < zs.length * 5 := by rw [cellsV_length] at hk; simpa using hk
        have h := hcellz (k / 5) (by omega) (k % 5) (Nat.mod_lt _ (by decide))
        rw [show k / 5 * 5 + k % 5 = k by omega, Addr.add_lit, List.getElem?_eq_getElem hk] at h
        exact h
    · injection e with e
      subst e
      exact (hblk (by rw [List.length_map] at h0; omega)).2
    · simp only [List.getElem_map]
      exact (hz2 i (by simpa using h1)).2
end Go.Proofs.Ytgnciejbhaebeaa

/- The walk of the law KeysBack: it returns true. Conditions: the row's own. -/
namespace Go.Proofs.Ytgnciejbhaebeaa
open Go Go.RowKit

set_option maxRecDepth 100000 in
set_option maxHeartbeats 4000000 in
theorem KeysBack_n (w : World) (ver : Int) (base : Nat) (hu : U64 base) (A : Option Addr) (n c : Nat) (ds : List EvV) (es : List Ev) (hes : es.length = n ∧ EvsR (· < w.heap.size) w A ds es ∧ n ≤ c ∧ c ≤ maxLen ∧ n ≤ 2513169434843)
    (Ab : Option Addr) (nb cb : Nat) (bs : List UInt8) (hn : bs.length = nb) (hr : Rd w Ab (bs.map bv)) (hc : nb ≤ cb) (hm : cb ≤ maxLen) (hl : nb ≤ 140737488351232) :
    Calls Try.prog 15 #[.int .i64 ver, .int .u64 base, .slice A n c, .slice Ab nb cb] w fun r w' => r = .returned (.bool true) ∧ Below w.heap.size w w' := by
  obtain ⟨e1, e2, e3, e4, e5⟩ := hes
  have HE1 := Lib.hid e1; clear e1
  have HE2 := Lib.hid e2; clear e2
  have HE3 := Lib.hid e3; clear e3
  have HE4 := Lib.hid e4; clear e4
  have HN := Lib.hid hn; clear hn
  have HR := Lib.hid hr; clear hr
  obtain ⟨Gt, eGt⟩ : ∃ Gt, Gt = greatB es := ⟨_, rfl⟩
  have EG := Lib.hid eGt
  go_enter Try.func15, Try.ntmps15
  go_wp2_with (fail)
  refine (great_c _ A n c ds es w HE1.out HE2.out HE3.out HE4.out).mono ?_
  rintro e w1 ⟨rfl, j1, ew1⟩
  rw [← eGt]
  have HB1 : Hid (Below w.heap.size w w1) := Lib.hid (ew1 ▸ below_drewN (Below.refl _ _) j1)
  clear eGt ew1
  cases Gt with
  | true =>
    go_wp2_with (fail)
    refine (fixed24_c w1).mono ?_
    rintro e w2 ⟨rfl, kb2⟩
    go_wp2_with (fail)
    go_ret
    exact ⟨rfl, HB1.out.trans (kb2.mono HB1.out.size)⟩
  | false =>
    rcases Nat.lt_or_ge 16384 nb with hb1 | hb1
    · have b1 : (16384 : Int) < (nb : Int) := by omega
      clear hb1
      go_wp2_with (fail)
      refine (fixed24_c w1).mono ?_
      rintro e w2 ⟨rfl, kb2⟩
      go_wp2_with (fail)
      go_ret
      exact ⟨rfl, HB1.out.trans (kb2.mono HB1.out.size)⟩
    · have b1 : (nb : Int) ≤ 16384 := by omega
      obtain ⟨L, er, eL⟩ : ∃ L er, encE ver base es = (L, er) := ⟨_, _, rfl⟩
      have EL := Lib.hid eL
      have enc := Encode_c _ ver base A n c ds es w1 hu HE1.out (HE2.out.below HB1.out) (by omega)
      rw [eL] at enc
      have ENC := Lib.hid enc
      clear eL enc
      go_wp2_with (fail)
      refine ENC.out.mono ?_
      rintro e w2 ⟨v2, rfl, ho2, hb2⟩
      dsimp only
      replace ho2 : OwnB w2 w1.heap.size v2 L := ho2
      have hLl : L.length ≤ 2000 := by
        by_cases he : er = 0
        · subst he
          have h := EL.out
          unfold encE at h
          split at h
          · injection h with a _; rw [← a]; exact Nat.zero_le _
          split at h
          · injection h with a _; rw [← a]; exact Nat.zero_le _
          rename_i h1 h2
          injection h with a _
          rw [← a]
          refine preL_le _ base es.length es hu (by omega) ?_ (by omega)
          cases hh : es.all Ev.may with
          | true => rfl
          | false => exact absurd (.inr (.inr (.inr hh))) h1
        · have h := EL.out
          unfold encE at h
          split at h
          · injection h with a _; rw [← a]; exact Nat.zero_le _
          split at h
          · injection h with a _; rw [← a]; exact Nat.zero_le _
          injection h with _ b
          exact absurd b.symm he
      obtain ⟨A2, c2, ev2, f1, f2, f3, -⟩ := OwnB.form ho2
      obtain ⟨nL, enL⟩ : ∃ nL, nL = L.length := ⟨_, rfl⟩
      rw [← enL] at ev2 hLl
      subst ev2
      have ENL := Lib.hid enL
      have R2 := Lib.hid f3
      have HB2 := Lib.hid (HB1.out.trans (hb2.mono HB1.out.size))
      clear ho2 hb2 f1 f2 f3 enL ENC
      go_upto_if 35 with (fail)
      go_cut [8] (fun s8 wx => Hid (Below w.heap.size w wx))
      case first =>
        by_cases he : er = 0
        · subst he
          have hbk := back_one hu EL.out
          have BK := Lib.hid hbk
          clear hbk
          have hn5 : Hid (n ≤ 140737488355328) := Lib.hid (by omega)
          go_wp2_with (fail)
          refine (Decode_c ver A2 nL c2 L w2 ENL.out.symm R2.out (by omega) base 0 es BK.out).mono ?_
          rintro e w3 ⟨v3, rfl, ⟨d3, hE3⟩, hb3⟩
          obtain ⟨A3, c3, ev3, -, -, hR3⟩ := hE3.form
          rw [HE1.out] at ev3
          subst ev3
          have R3 := Lib.hid hR3
          have HB3 := Lib.hid (HB2.out.trans (hb3.mono HB2.out.size))
          clear hE3 hb3 hR3
          have ne2 : ((base : Int) != (base : Int)) = false := by simp
          go_wp2_with (fail)
          refine (Same24_t _ _ A3 A n c3 c d3 ds es w3 HE1.out R3.out (HE2.out.below HB3.out) hn5.out).mono ?_
          rintro e w4 ⟨rfl, j4, ew4⟩
          have HB4 := Lib.hid (ew4 ▸ below_drewN HB3.out j4)
          clear ew4
          go_wp2_with (fail)
          go_meet
          exact HB4
        · have he0 : ((er : Int) == 0) = false := by rw [beq_eq_false_iff_ne]; omega
          clear he
          go_wp2_with (fail)
          go_meet
          exact HB2
      case rest =>
        have HBc := hcut
        clear HB2 HB1 R2
        obtain ⟨N, l, e2, eD⟩ : ∃ N l e2, decR ver bs none = (N, l, e2) := ⟨_, _, _, rfl⟩
        have ED := Lib.hid eD
        have hNu := decR_u64 eD
        have hll := decR_len eD
        obtain ⟨nl, enl⟩ : ∃ nl, nl = l.length := ⟨_, rfl⟩
        have ENl := Lib.hid enl
        rw [← enl] at hll
        clear eD enl
        go_wp2_with (fail)
        refine (Decode_c ver Ab nb cb bs wc HN.out (HR.out.below HBc.out) (by omega) N e2 l ED.out).mono ?_
        rintro e w3 ⟨v3, rfl, ⟨d3, hE3⟩, hb3⟩
        obtain ⟨A3, c3, ev3, -, -, hR3⟩ := hE3.form
        rw [← ENl.out] at ev3
        subst ev3
        have R3 := Lib.hid hR3
        have HB3 := Lib.hid (HBc.out.trans (hb3.mono HBc.out.size))
        clear hE3 hb3 hR3
        by_cases he : e2 = 0
        · subst he
          have hon := only_one ED.out
          have enc := Encode_c _ ver N A3 nl c3 d3 l w3 hNu ENl.out.symm R3.out (by omega)
          rw [hon] at enc
          have ENC := Lib.hid enc
          clear hon enc
          go_wp2_with (fail)
          refine ENC.out.mono ?_
          rintro e w4 ⟨v4, rfl, ho4, hb4⟩
          dsimp only
          replace ho4 : OwnB w4 w3.heap.size v4 bs := ho4
          obtain ⟨A4, c4, ev4, -, -, f3, -⟩ := OwnB.form ho4
          rw [HN.out] at ev4
          subst ev4
          have R4 := Lib.hid f3
          have HB4 := Lib.hid (HB3.out.trans (hb4.mono HB3.out.size))
          clear ho4 hb4 f3 ENC
          go_wp2_with (fail)
          refine (Same_t A4 Ab nb nb c4 cb bs w4 HN.out HN.out R4.out (HR.out.below HB4.out) (by unfold maxLen; omega)).mono ?_
          rintro e w5 ⟨rfl, j5, ew5⟩
          have HB5 := Lib.hid (ew5 ▸ below_drewN HB4.out j5)
          clear ew5
          go_wp2_with (fail)
          refine (fixed24_c w5).mono ?_
          rintro e w6 ⟨rfl, kb6⟩
          go_wp2_with (fail)
          go_ret
          exact ⟨rfl, HB5.out.trans (kb6.mono HB5.out.size)⟩
        · have he0 : ((e2 : Int) == 0) = false := by rw [beq_eq_false_iff_ne]; omega
          clear he
          go_wp2_with (fail)
          refine (fixed24_c w3).mono ?_
          rintro e w6 ⟨rfl, kb6⟩
          go_wp2_with (fail)
          go_ret
          exact ⟨rfl, HB3.out.trans (kb6.mono HB3.out.size)⟩
theorem u64_natB {z : Int} (hz : (Lit.int .u64 z).wf = true) : ∃ k : Nat, z = (k : Int) ∧ U64 k := by
  simp only [Lit.wf, IntKind.min, IntKind.max, IntKind.signed, IntKind.bits, Bool.and_eq_true, decide_eq_true_eq] at hz
  have w1 : (0 : Int) ≤ z := by simpa using hz.1
  have w2 : z ≤ 18446744073709551615 := by simpa using hz.2
  exact ⟨z.toNat, by omega, by unfold U64; omega⟩
structure Five (w : World) (b off k : Nat) (At : Option Addr) (m cm : Nat) (z0 z2 z3 z4 : Int) : Prop where
  lt : b < w.heap.size
  c : w.cell? ⟨b, off + k * 5, none⟩ = some (.int .i64 z0) ∧ w.cell? ⟨b, off + k * 5 + 1, none⟩ = some (.slice At m cm) ∧ w.cell? ⟨b, off + k * 5 + 2, none⟩ = some (.int .i64 z2) ∧ w.cell? ⟨b, off + k * 5 + 3, none⟩ = some (.int .i64 z3) ∧ w.cell? ⟨b, off + k * 5 + 4, none⟩ = some (.int .i64 z4)
theorem KeysBack_walk (w : World) (ver : Int) (_ : (Lit.int .i64 ver).wf = true) (z : Int) (hz : (Lit.int .u64 z).wf = true) (A : Option Addr) (n c : Nat) (ds : List EvV) (es : List Ev) (h : es.length = n ∧ EvsR (· < w.heap.size) w A ds es ∧ n ≤ c ∧ c ≤ maxLen ∧ n ≤ 2513169434843)
    (Ab : Option Addr) (nb cb : Nat) (bs : List UInt8) (hn : bs.length = nb) (hr : Rd w Ab (bs.map bv)) (hc : nb ≤ cb) (hm : cb ≤ maxLen) (hl : nb ≤ 140737488351232) :
    Calls Try.prog 15 #[.int .i64 ver, .int .u64 z, .slice A n c, .slice Ab nb cb] w fun r w' => r = .returned (.bool true) ∧ Below w.heap.size w w' := by
  obtain ⟨k, rfl, hk⟩ := u64_natB hz
  exact KeysBack_n w ver k hk A n c ds es h Ab nb cb bs hn hr hc hm hl
end Go.Proofs.Ytgnciejbhaebeaa
