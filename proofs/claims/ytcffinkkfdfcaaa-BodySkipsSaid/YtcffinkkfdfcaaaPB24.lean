/- Parts one behind the other: How a law's arguments are opened: a Hello and a Select, by value; What the reference's GetSelect answers; A Hello, a Select, thirty-two bytes: each is equal to itself. Conditions: as told at each. -/
import Derived.Test.YtcffinkkfdfcaaaPB23
import Derived.Test.YtcffinkkfdfcaaaPB22
import Derived.Test.YtcffinkkfdfcaaaPB17
import Derived.Test.YtcffinkkfdfcaaaPB2

set_option linter.unusedVariables false
set_option linter.unusedSimpArgs false
/- How a law's arguments are opened: a Hello and a Select, by value. Conditions: none. -/
namespace Go.Proofs.Ytcffinkkfdfcaaa
open Go Go.RowKit Go.ChangeShapes Go.WideShapes

/-- A type of two fields: a number and features. -/
structure OfT (P : Program) (t : TypeId) (f0 f1 : Field) : Prop where
  hs : P.underlying t = some (.struct #[f0, f1])
  hC : P.cellsOf t = 2
  hone : Deep.oneCellFields P #[f0, f1] = true
  h0 : P.underlying f0.type = some (.int .i64)
  h1 : P.underlying f1.type = some (.int .u32)
/-- A type of n bytes. -/
structure ByT (P : Program) (t n e : TypeId) : Prop where
  ht : P.underlying t = some (.array n e)
  he : P.underlying e = some (.int .u8)
  h1 : P.cellsOf e = 1
  hC : P.cellsOf t = n
theorem open_two {H : Type} {enc : TypeId × Value → H} {P : Program} {W : World} {t fuel : Nat} {f0 f1 : Field} (T : OfT P t f0 f1) {cs : List Value} {x : DataW H × List MemPlace}
    (hf : DataW.trod enc P W 0 (fun _ => true) true fuel t cs = some x) : ∃ (a : Int) (n : Nat), cs = [.int .i64 a, .int .u32 (n : Int)] ∧ n < 4294967296 ∧ (Lit.int .i64 a).wf = true := by
  obtain ⟨ys, n', _, hy, hl4, hlen', hgs⟩ := DataW.trod_struct T.hs hf
  rw [T.hC] at hl4
  obtain ⟨o0, k0⟩ := Deep.hone_of T.hone 0 f0 rfl
  obtain ⟨o1, k1⟩ := Deep.hone_of T.hone 1 f1 rfl
  match cs, hl4, ys, hlen' with
  | [u0, u1], _, [y0, y1], _ =>
    have q0 := hgs 0 f0 rfl
    have q1 := hgs 1 f1 rfl
    rw [o0, k0] at q0
    rw [o1, k1] at q1
    obtain ⟨a0, e0, _, w0⟩ := DataW.trod_int T.h0 q0
    obtain ⟨a1, e1, _, w1⟩ := DataW.trod_int T.h1 q1
    obtain ⟨b1, rfl, h1⟩ := nat_u32 w1
    simp at e0 e1
    subst e0 e1
    exact ⟨a0, b1, rfl, h1, w0⟩
theorem open_arr {H : Type} {enc : TypeId × Value → H} {P : Program} {W : World} {t n e fuel : Nat} (T : ByT P t n e) {cs : List Value} {x : DataW H × List MemPlace} (hn : cs.length = n)
    (hf : DataW.trod enc P W 0 (fun _ => true) true fuel t cs = some x) : ∃ l : List UInt8, cs = l.map bv ∧ l.length = n := by
  have hall : ∀ u ∈ cs, ∃ b : UInt8, u = bv b := by
    cases fuel with
    | zero => simp [DataW.trod] at hf
    | succ m =>
      rw [DataW.trod_step] at hf
      unfold DataW.trodStep at hf
      simp only [T.ht] at hf
      rw [if_pos (by rw [T.hC]; simpa using hn)] at hf
      simp only [Option.map_eq_some_iff] at hf
      obtain ⟨ys, hy, _⟩ := hf
      intro u hu
      obtain ⟨i, hi, rfl⟩ := List.mem_iff_getElem.1 hu
      have hi' : i < n := by rw [← hn]; exact hi
      obtain ⟨y, hyi⟩ := mapM_mem _ _ _ hy i (List.mem_range.2 hi')
      obtain ⟨a, ea, _, wa⟩ := DataW.trod_int T.he hyi
      rw [T.h1, Nat.mul_one, List.drop_eq_getElem_cons hi, List.take_succ_cons, List.take_zero] at ea
      injection ea with ea _
      rw [ea]
      simp only [Lit.wf, IntKind.min, IntKind.max, IntKind.signed, IntKind.bits, Bool.and_eq_true, decide_eq_true_eq] at wa
      have w1 : (0 : Int) ≤ a := by simpa using wa.1
      have w2 : a ≤ 255 := by simpa using wa.2
      refine ⟨UInt8.ofNat a.toNat, ?_⟩
      unfold bv
      rw [UInt8.toNat_ofNat']
      congr 1
      omega
  obtain ⟨l, hl⟩ := list_bytes cs hall
  exact ⟨l, hl, by rw [← hn, hl, List.length_map]⟩
/-- The fields of a Hello's type. -/
structure HeT (P : Program) (t : TypeId) (f0 f1 g0 g1 : Field) (e : TypeId) : Prop where
  hs : P.underlying t = some (.struct #[f0, f1])
  hC : P.cellsOf t = 18
  o0 : f0.offset = 0
  o1 : f1.offset = 2
  T0 : OfT P f0.type g0 g1
  T1 : ByT P f1.type 16 e
/-- The fields of a Select's type. -/
structure SeT (P : Program) (t : TypeId) (f0 f1 f2 f3 g0 g1 h0 h1 : Field) (e1 e2 : TypeId) : Prop where
  hs : P.underlying t = some (.struct #[f0, f1, f2, f3])
  hC : P.cellsOf t = 52
  o0 : f0.offset = 0
  o1 : f1.offset = 2
  o2 : f2.offset = 4
  o3 : f3.offset = 20
  T0 : OfT P f0.type g0 g1
  T1 : OfT P f1.type h0 h1
  T2 : ByT P f2.type 16 e1
  T3 : ByT P f3.type 32 e2
theorem list_parts2 (cs : List Value) (h : cs.length = 18) : cs = cs.take 2 ++ (cs.drop 2).take 16 := by
  have e : (cs.drop 2).take 16 = cs.drop 2 := List.take_of_length_le (by rw [List.length_drop]; omega)
  rw [e, List.take_append_drop]
theorem list_parts4 (cs : List Value) (h : cs.length = 52) : cs = cs.take 2 ++ ((cs.drop 2).take 2 ++ ((cs.drop 4).take 16 ++ (cs.drop 20).take 32)) := by
  have e : (cs.drop 20).take 32 = cs.drop 20 := List.take_of_length_le (by rw [List.length_drop]; omega)
  rw [e, show cs.drop 20 = (cs.drop 4).drop 16 by rw [List.drop_drop], List.take_append_drop, show cs.drop 4 = (cs.drop 2).drop 2 by rw [List.drop_drop], List.take_append_drop, List.take_append_drop]
theorem opn_hel {H : Type} {enc : TypeId × Value → H} {P : Program} {W : World} {base t e : Nat} {f0 f1 g0 g1 : Field} (T : HeT P t f0 f1 g0 g1 e) {v : Value} {d : DataW H} {p : List MemPlace}
    (hv : Value.okWide P W .any base t v) (hj : DataW.Trod enc P W 0 (fun _ => true) true t v d p) : ∃ (a : Int) (f : Nat) (l : List UInt8), v = .agg (helI a f l) ∧ f < 4294967296 ∧ l.length = 16 := by
  obtain ⟨cs, rfl, hsz2⟩ := okWide_struct T.hs hv
  obtain ⟨fuel, hf⟩ := hj
  obtain ⟨ys, n, _, _, hl, hlen, hg⟩ := DataW.trod_struct T.hs hf
  rw [T.hC] at hl
  match ys, hlen with
  | [y0, y1], _ =>
    have q0 := hg 0 f0 rfl
    have q1 := hg 1 f1 rfl
    rw [T.o0, T.T0.hC] at q0
    rw [T.o1, T.T1.hC] at q1
    obtain ⟨a, f, e0, hf0, _⟩ := open_two T.T0 q0
    obtain ⟨l, e1, hl1⟩ := open_arr T.T1 (by rw [List.length_take, List.length_drop, hl]; decide) q1
    refine ⟨a, f, l, ?_, hf0, hl1⟩
    congr 1
    apply Array.ext'
    simp only [Value.cells] at hl e0 e1
    rw [list_parts2 cs.toList (by simpa using hl), show cs.toList.take 2 = _ from e0, e1]
    rfl
theorem opn_sel {H : Type} {enc : TypeId × Value → H} {P : Program} {W : World} {base t e1 e2 : Nat} {f0 f1 f2 f3 g0 g1 h0 h1 : Field} (T : SeT P t f0 f1 f2 f3 g0 g1 h0 h1 e1 e2) {v : Value} {d : DataW H} {p : List MemPlace}
    (hv : Value.okWide P W .any base t v) (hj : DataW.Trod enc P W 0 (fun _ => true) true t v d p) : ∃ (a : Int) (f : Nat) (b : Int) (k : Nat) (l m : List UInt8), v = .agg (selI a f b k l m) ∧ f < 4294967296 ∧ k < 4294967296 ∧ l.length = 16 ∧ m.length = 32 := by
  obtain ⟨cs, rfl, hsz2⟩ := okWide_struct T.hs hv
  obtain ⟨fuel, hf⟩ := hj
  obtain ⟨ys, n, _, _, hl, hlen, hg⟩ := DataW.trod_struct T.hs hf
  rw [T.hC] at hl
  match ys, hlen with
  | [y0, y1, y2, y3], _ =>
    have q0 := hg 0 f0 rfl
    have q1 := hg 1 f1 rfl
    have q2 := hg 2 f2 rfl
    have q3 := hg 3 f3 rfl
    rw [T.o0, T.T0.hC] at q0
    rw [T.o1, T.T1.hC] at q1
    rw [T.o2, T.T2.hC] at q2
    rw [T.o3, T.T3.hC] at q3
    obtain ⟨a, f, e0, hf0, _⟩ := open_two T.T0 q0
    obtain ⟨b, k, e1, hf1, _⟩ := open_two T.T1 q1
    obtain ⟨l, e2, hl1⟩ := open_arr T.T2 (by rw [List.length_take, List.length_drop, hl]; decide) q2
    obtain ⟨m, e3, hl2⟩ := open_arr T.T3 (by rw [List.length_take, List.length_drop, hl]; decide) q3
    refine ⟨a, f, b, k, l, m, ?_, hf0, hf1, hl1, hl2⟩
    congr 1
    apply Array.ext'
    simp only [Value.cells] at hl e0 e1 e2 e3
    rw [list_parts4 cs.toList (by simpa using hl), show cs.toList.take 2 = _ from e0, e1, e2, e3]
    rfl
end Go.Proofs.Ytcffinkkfdfcaaa

/- What the reference's GetSelect answers. Conditions: bytes that can be read. -/
namespace Go.Proofs.Ytcffinkkfdfcaaa
open Go Go.RowKit

theorem ref_sel_results (tmps : Array Value) (g : Nat) (t : TypeId) (cs : Array Value) (fr : Nat × Nat) (y : Int) (h2 : tmps.getD 2 undef = .pointer (some ⟨g, 0, none⟩)) (h3 : tmps.getD 3 undef = .int .i64 y) (w : World) (hg : w.heap[g]? = some (.cells cs t fr)) (hi : (Try.prog.info? 49).map (·.size) = some cs.size) :
    (results Try.f24 tmps).run Try.prog w = .ok (.tuple #[.agg cs, .int .i64 y]) w := by
  have h2' : tmps[2]?.getD undef = .pointer (some ⟨g, 0, none⟩) := by simpa using h2
  have h3' : tmps[3]?.getD undef = .int .i64 y := by simpa using h3
  simp [results, Try.results24, h2', h3', asAddr, run_loadVar_row w g t 49 cs fr _ hg Try.underlying49 rfl hi]
/-- A block of a Select's cells, made from block B on. -/
def Rl.sel (B v f1 mx f2 : Nat) (l m : List UInt8) : Rl := ⟨fun w x => ∃ g, x = .pointer (some ⟨g, 0, none⟩) ∧ B ≤ g ∧ w.heap[g]? = some (.cells (selC v f1 mx f2 l m).toArray 49 (0, 0)), fun ⟨g, h, hB, r⟩ hb => ⟨g, h, hB, (hb.block g (heap_lt r)).trans r⟩⟩
theorem RdS.at6 {w : World} {X : Option Addr} {b0 b1 b2 b3 b4 b5 : List UInt8} (h : RdS w X [b0, b1, b2, b3, b4, b5]) : ∃ b off, X = some ⟨b, off, none⟩ ∧ b < w.heap.size ∧
    (∃ A c, w.cell? ⟨b, off, none⟩ = some (.slice A b0.length c) ∧ Rd w A (b0.map bv)) ∧ (∃ A c, w.cell? ⟨b, off + 1, none⟩ = some (.slice A b1.length c) ∧ Rd w A (b1.map bv)) ∧ (∃ A c, w.cell? ⟨b, off + 2, none⟩ = some (.slice A b2.length c) ∧ Rd w A (b2.map bv)) ∧
    (∃ A c, w.cell? ⟨b, off + 3, none⟩ = some (.slice A b3.length c) ∧ Rd w A (b3.map bv)) ∧ (∃ A c, w.cell? ⟨b, off + 4, none⟩ = some (.slice A b4.length c) ∧ Rd w A (b4.map bv)) ∧ (∃ A c, w.cell? ⟨b, off + 5, none⟩ = some (.slice A b5.length c) ∧ Rd w A (b5.map bv)) := by
  obtain ⟨b, off, e, hb, hc⟩ := h.addr (by simp)
  refine ⟨b, off, e, hb, ?_, ?_, ?_, ?_, ?_, ?_⟩
  · obtain ⟨A, c, q1, q2, -⟩ := hc 0 (by simp); exact ⟨A, c, q1, q2⟩
  · obtain ⟨A, c, q1, q2, -⟩ := hc 1 (by simp); exact ⟨A, c, q1, q2⟩
  · obtain ⟨A, c, q1, q2, -⟩ := hc 2 (by simp); exact ⟨A, c, q1, q2⟩
  · obtain ⟨A, c, q1, q2, -⟩ := hc 3 (by simp); exact ⟨A, c, q1, q2⟩
  · obtain ⟨A, c, q1, q2, -⟩ := hc 4 (by simp); exact ⟨A, c, q1, q2⟩
  · obtain ⟨A, c, q1, q2, -⟩ := hc 5 (by simp); exact ⟨A, c, q1, q2⟩
/-- The number of a list of one byte, told by its cell. -/
theorem one_cell {w : World} {s : FS} {A : Option Addr} {M : Nat} (hM : oneN s = M) (r : Rd w A ((byB s 1).map bv)) : ∃ b o, A = some ⟨b, o, none⟩ ∧ b < w.heap.size ∧ w.cell? ⟨b, o, none⟩ = some (.int .u8 (M : Int)) ∧ M < 256 := by
  obtain ⟨x, ex⟩ : ∃ x, byB s 1 = [x] := by
    match q : byB s 1, byB_len s 1 with
    | [x], _ => exact ⟨x, rfl⟩
  rw [ex] at r
  obtain ⟨b, o, rfl, hlt, hc⟩ := r.addrB (by simp)
  refine ⟨b, o, rfl, hlt, ?_, by rw [← hM]; unfold oneN; exact UInt8.toNat_lt _⟩
  have := hc 0 (by simp)
  rw [← hM]; unfold oneN; rw [ex]
  exact this
theorem fourN_lt (s : FS) : fourN s < 4294967296 := by
  rw [fourN]; have := beN_lt (byB s 4); rw [byB_len] at this; exact this
set_option maxRecDepth 100000 in
set_option maxHeartbeats 4000000 in
theorem refGetSelect_c (bs : List UInt8) (A : Option Addr) (n c : Nat) (w : World) (hn : bs.length = n) (hr : Rd w A (bs.map bv)) (hc : n ≤ c) (hcm : c ≤ maxLen) (hl : n ≤ 140737488355328) :
    Calls Try.prog 24 #[.slice A n c] w fun r w' => r = .returned (.tuple #[(selR bs).val, .int .i64 (selE bs : Int)]) ∧ Below w.heap.size w w' := by
  have HN := Lib.hid hn
  have HC := Lib.hid hc
  have HCM := Lib.hid hcm
  obtain ⟨w1, ew1⟩ : ∃ w1, w1 = w.alloc (.cells #[.int .i64 0, .int .u32 0, .int .i64 0, .int .u32 0, .int .u8 0, .int .u8 0, .int .u8 0, .int .u8 0, .int .u8 0, .int .u8 0, .int .u8 0, .int .u8 0, .int .u8 0, .int .u8 0, .int .u8 0, .int .u8 0, .int .u8 0, .int .u8 0, .int .u8 0, .int .u8 0, .int .u8 0, .int .u8 0, .int .u8 0, .int .u8 0, .int .u8 0, .int .u8 0, .int .u8 0, .int .u8 0, .int .u8 0, .int .u8 0, .int .u8 0, .int .u8 0, .int .u8 0, .int .u8 0, .int .u8 0, .int .u8 0, .int .u8 0, .int .u8 0, .int .u8 0, .int .u8 0, .int .u8 0, .int .u8 0, .int .u8 0, .int .u8 0, .int .u8 0, .int .u8 0, .int .u8 0, .int .u8 0, .int .u8 0, .int .u8 0, .int .u8 0, .int .u8 0] 49) := ⟨_, rfl⟩
  obtain ⟨gr, egr⟩ : ∃ gr, gr = w.heap.size := ⟨_, rfl⟩
  have b1 : Below w.heap.size w w1 := by rw [ew1]; exact (Below.refl _ _).alloc (Nat.le_refl _) _
  have g1 : w1.heap[gr]? = some (.cells (selC 0 0 0 0 (zerB 16) (zerB 32)).toArray 49 (0, 0)) := by rw [ew1, egr, ← sel_zero]; exact heap_alloc_new _ _
  obtain ⟨w2, ew2⟩ : ∃ w2, w2 = w1.alloc (.cells #[.int .i64 1, .int .i64 4, .int .i64 1, .int .i64 4, .int .i64 16, .int .i64 32] 3) := ⟨_, rfl⟩
  obtain ⟨g2, eg2⟩ : ∃ g2, g2 = w1.heap.size := ⟨_, rfl⟩
  have b2 : Below w1.heap.size w1 w2 := by rw [ew2]; exact (Below.refl _ _).alloc (Nat.le_refl _) _
  have HZ : Hid (RdI w2 (some ⟨g2, 0, none⟩) (nI [1, 4, 1, 4, 16, 32])) := Lib.hid (.inr ⟨g2, 0, rfl, by rw [ew2, eg2]; simp, fun k hk => by
    have hh : w2.heap[g2]? = some (.cells #[.int .i64 1, .int .i64 4, .int .i64 1, .int .i64 4, .int .i64 16, .int .i64 32] 3 (0, 0)) := by rw [ew2, eg2]; exact heap_alloc_new _ _
    rw [Nat.zero_add, heap_cell hh]
    have : k = 0 ∨ k = 1 ∨ k = 2 ∨ k = 3 ∨ k = 4 ∨ k = 5 := by simp [nI] at hk; omega
    rcases this with rfl | rfl | rfl | rfl | rfl | rfl <;> rfl⟩)
  have HG2 : Hid (w2.heap[gr]? = some (.cells (selC 0 0 0 0 (zerB 16) (zerB 32)).toArray 49 (0, 0))) := Lib.hid ((b2.block gr (heap_lt g1)).trans g1)
  have HB2 := Lib.hid (b1.trans (b2.mono b1.size))
  have HR2 := Lib.hid ((hr.below b1).below b2)
  have EW1 := Lib.hid ew1
  have EW2 := Lib.hid ew2
  have EGR := Lib.hid egr
  have EG2 := Lib.hid eg2
  obtain ⟨E, eE⟩ : ∃ E, selE bs = E := ⟨_, rfl⟩
  obtain ⟨R, eR⟩ : ∃ R, selR bs = R := ⟨_, rfl⟩
  rw [eE, eR]
  have HE := Lib.hid eE
  have HRR := Lib.hid eR
  clear ew1 ew2 egr eg2 b1 b2 g1 hn hr hc hcm eE eR
  go_enter Try.func24, Try.ntmps24
  go_upto_region 1 with (fail)
  rw [← EW1.out, ← EGR.out]
  go_wp2_with (fail)
  rw [← EW2.out, ← EG2.out]
  refine (sizes_c bs A n c [1, 4, 1, 4, 16, 32] (some ⟨g2, 0, none⟩) 6 6 w2 HN.out HR2.out HC.out HCM.out hl HZ.out rfl (by decide) (by decide)).mono ?_
  rintro _ w3 ⟨v3, rfl, hX, hb3⟩
  have hE0 : szE bs [1, 4, 1, 4, 16, 32] = (selS7 bs).err := rfl
  obtain ⟨E0, eE0⟩ : ∃ E0, (selS7 bs).err = E0 := ⟨_, rfl⟩
  rw [hE0, eE0] at hX ⊢
  have HE0 := Lib.hid eE0
  have HG3 := Lib.hid ((hb3.block gr (heap_lt HG2.out)).trans HG2.out)
  have HB3 := Lib.hid (HB2.out.trans (hb3.mono HB2.out.size))
  have HXX := Lib.hid hX
  clear hE0 eE0 hX hb3
  by_cases h0 : E0 = 0
  · have d0 : ((E0 : Int) != 0) = false := by rw [h0]; rfl
    obtain ⟨X, cX, rfl, hX⟩ := HXX.out h0
    have hX' : RdS w3 X [byB (selS1 bs) 1, byB (selS2 bs) 4, byB (selS3 bs) 1, byB (selS4 bs) 4, byB (selS5 bs) 16, byB (selS6 bs) 32] := hX
    obtain ⟨bx, ox, rfl, hbx, ⟨A0, c0, x0, r0⟩, ⟨A1, c1, x1, r1⟩, ⟨A2, c2, x2, r2⟩, ⟨A3, c3, x3, r3⟩, ⟨A4, c4, x4, r4⟩, ⟨A5, c5, x5, r5⟩⟩ := hX'.at6
    rw [byB_len] at x0 x1 x2 x3 x4 x5
    obtain ⟨V, hV⟩ : ∃ M, oneN (selS1 bs) = M := ⟨_, rfl⟩
    obtain ⟨F1, hF1⟩ : ∃ F, fourN (selS2 bs) = F := ⟨_, rfl⟩
    obtain ⟨M, hM⟩ : ∃ M, oneN (selS3 bs) = M := ⟨_, rfl⟩
    obtain ⟨F2, hF2⟩ : ∃ F, fourN (selS4 bs) = F := ⟨_, rfl⟩
    obtain ⟨NC, hNC⟩ : ∃ NC, byB (selS5 bs) 16 = NC := ⟨_, rfl⟩
    obtain ⟨CF, hCF⟩ : ∃ NC, byB (selS6 bs) 32 = NC := ⟨_, rfl⟩
    rw [hNC] at r4
    rw [hCF] at r5
    obtain ⟨m1, hm1⟩ : ∃ b4, byB (selS2 bs) 4 = b4 := ⟨_, rfl⟩
    obtain ⟨m3, hm3⟩ : ∃ b4, byB (selS4 bs) 4 = b4 := ⟨_, rfl⟩
    rw [hm1] at r1
    rw [hm3] at r3
    have HBF1 := Lib.hid (show beN m1 = F1 by rw [← hm1]; exact hF1)
    have HBF2 := Lib.hid (show beN m3 = F2 by rw [← hm3]; exact hF2)
    have HL4 := Lib.hid (show m1.length = 4 by rw [← hm1]; exact byB_len _ _)
    have HL5 := Lib.hid (show m3.length = 4 by rw [← hm3]; exact byB_len _ _)
    have HLN := Lib.hid (show NC.length = 16 by rw [← hNC]; exact byB_len _ _)
    have HLC := Lib.hid (show CF.length = 32 by rw [← hCF]; exact byB_len _ _)
    obtain ⟨b0, o0, rfl, hlt0, y0, hV256⟩ := one_cell hV r0
    obtain ⟨b2, o2, rfl, hlt2, y2, hM256⟩ := one_cell hM r2
    have HU1 := Lib.hid (show F1 < 4294967296 by rw [← hF1]; exact fourN_lt _)
    have HU2 := Lib.hid (show F2 < 4294967296 by rw [← hF2]; exact fourN_lt _)
    have hwF1 := u32_u64w HU1.out
    have hwF2 := u32_u64w HU2.out
    have hwV := i64w hV256
    have hwM := i64w hM256
    have HR1 := Lib.hid r1
    have HR3 := Lib.hid r3
    have HR4 := Lib.hid r4
    have HR5 := Lib.hid r5
    have EV := Lib.hid hV
    have EF1 := Lib.hid hF1
    have EM := Lib.hid hM
    have EF2 := Lib.hid hF2
    have ENC := Lib.hid hNC
    have ECF := Lib.hid hCF
    have H0 := Lib.hid h0
    clear h0 hX hX' r0 r1 r2 r3 r4 r5 hm1 hm3 hV hF1 hM hF2 hNC hCF
    go_upto_region 4 with (fail)
    refine wp_region_rt 72 26 [Rl.eq (.slice (some ⟨bx, ox, none⟩) 6 cX), Rl.eq (.pointer (some ⟨bx, ox, none⟩)), Rl.eq (.slice (some ⟨b0, o0, none⟩) 1 c0), Rl.eq (.pointer (some ⟨b0, o0, none⟩)), Rl.eq (.int .u8 (V : Int)), Rl.eq (.int .i64 (V : Int)), Rl.eq (.slice (some ⟨bx, ox, none⟩) 6 cX), Rl.eq (.pointer (some ⟨bx, ox + 1, none⟩)), Rl.eq (.slice A1 4 c1), Rl.eq (.int .u64 (F1 : Int)), Rl.eq (.int .u32 (F1 : Int)), Rl.eq (.agg #[.int .i64 (V : Int), .int .u32 (F1 : Int)]), Rl.eq (.slice (some ⟨bx, ox, none⟩) 6 cX), Rl.eq (.pointer (some ⟨bx, ox + 2, none⟩)), Rl.eq (.slice (some ⟨b2, o2, none⟩) 1 c2), Rl.eq (.pointer (some ⟨b2, o2, none⟩)), Rl.eq (.int .u8 (M : Int)), Rl.eq (.int .i64 (M : Int)), Rl.eq (.slice (some ⟨bx, ox, none⟩) 6 cX), Rl.eq (.pointer (some ⟨bx, ox + 3, none⟩)), Rl.eq (.slice A3 4 c3), Rl.eq (.int .u64 (F2 : Int)), Rl.eq (.int .u32 (F2 : Int)), Rl.eq (.agg #[.int .i64 (M : Int), .int .u32 (F2 : Int)]), Rl.eq (.agg (selC V F1 M F2 (zerB 16) (zerB 32)).toArray), Rl.sel w3.heap.size 0 0 0 0 (zerB 16) (zerB 32)] [17, 18, 19, 20, 21, 22, 23, 24, 25, 26, 27, 28, 29, 30, 31, 32, 33, 34, 35, 36, 37, 38, 39, 40, 41, 6] (by kernel_rfl) rfl (by kernel_rfl) (by kernel_rfl) (by decide) (by kernel_rfl) (by kernel_rfl) ?_ ?_
    · simp only [List.take_succ_cons, List.take_zero]
      repeat (first | exact AllFrom.nil_ | (refine AllFrom.cons_ (by rfl) ?_ ?_; rotate_left))
      · intro f w' g hF hD
        have h4 : f 4 = .slice (some ⟨bx, ox, none⟩) 6 cX := hF 4 (by kernel_rfl)
        rw [if_pos (wanted_none rfl)]
        clear hF hD
        exact gives_val (by simp only [execOp, evF, h4]; first | rfl | go_simp) ⟨Gr.refl _, rfl⟩
      · intro f w' g hF hD
        have h17 : f 17 = (.slice (some ⟨bx, ox, none⟩) 6 cX) := hD 0 17 (by kernel_rfl) rfl
        rw [if_pos (wanted_none rfl)]
        clear hF hD
        exact gives_val (by simp only [execOp, evF, h17]; first | rfl | go_simp) ⟨Gr.refl _, rfl⟩
      · intro f w' g hF hD
        have h18 : f 18 = (.pointer (some ⟨bx, ox, none⟩)) := hD 1 18 (by kernel_rfl) rfl
        rw [if_pos (wanted_none rfl)]
        clear hF hD
        have cl : w'.cell? ⟨bx, ox, none⟩ = some (.slice (some ⟨b0, o0, none⟩) 1 c0) := (g.cell (p := ⟨bx, ox, none⟩) hbx).trans x0
        exact gives_val (by simp only [execOp, evF, h18]; go_simp) ⟨Gr.refl _, rfl⟩
      · intro f w' g hF hD
        have h19 : f 19 = (.slice (some ⟨b0, o0, none⟩) 1 c0) := hD 2 19 (by kernel_rfl) rfl
        rw [if_pos (wanted_none rfl)]
        clear hF hD
        exact gives_val (by simp only [execOp, evF, h19]; first | rfl | go_simp) ⟨Gr.refl _, rfl⟩
      · intro f w' g hF hD
        have h20 : f 20 = (.pointer (some ⟨b0, o0, none⟩)) := hD 3 20 (by kernel_rfl) rfl
        rw [if_pos (wanted_none rfl)]
        clear hF hD
        have cl : w'.cell? ⟨b0, o0, none⟩ = some (.int .u8 (V : Int)) := (g.cell (p := ⟨b0, o0, none⟩) hlt0).trans y0
        exact gives_val (by simp only [execOp, evF, h20]; go_simp) ⟨Gr.refl _, rfl⟩
      · intro f w' g hF hD
        have h21 : f 21 = (.int .u8 (V : Int)) := hD 4 21 (by kernel_rfl) rfl
        rw [if_pos (wanted_none rfl)]
        clear hF hD
        exact gives_val (by simp only [execOp, evF, h21]; first | rfl | go_simp) ⟨Gr.refl _, rfl⟩
      · intro f w' g hF hD
        have h4 : f 4 = .slice (some ⟨bx, ox, none⟩) 6 cX := hF 4 (by kernel_rfl)
        rw [if_pos (wanted_none rfl)]
        clear hF hD
        exact gives_val (by simp only [execOp, evF, h4]; first | rfl | go_simp) ⟨Gr.refl _, rfl⟩
      · intro f w' g hF hD
        have h23 : f 23 = (.slice (some ⟨bx, ox, none⟩) 6 cX) := hD 6 23 (by kernel_rfl) rfl
        rw [if_pos (wanted_none rfl)]
        clear hF hD
        exact gives_val (by simp only [execOp, evF, h23]; first | rfl | go_simp) ⟨Gr.refl _, rfl⟩
      · intro f w' g hF hD
        have h24 : f 24 = (.pointer (some ⟨bx, ox + 1, none⟩)) := hD 7 24 (by kernel_rfl) rfl
        rw [if_pos (wanted_none rfl)]
        clear hF hD
        have cl : w'.cell? ⟨bx, ox + 1, none⟩ = some (.slice A1 4 c1) := (g.cell (p := ⟨bx, ox + 1, none⟩) hbx).trans x1
        exact gives_val (by simp only [execOp, evF, h24]; go_simp) ⟨Gr.refl _, rfl⟩
      · intro f w' g hF hD
        have h25 : f 25 = (.slice A1 4 c1) := hD 8 25 (by kernel_rfl) rfl
        rw [if_pos (wanted_none rfl)]
        clear hF hD
        have kg : Below w3.heap.size w3 w' := (below_drewN (Below.refl _ _) 1).trans g
        refine gives_func rfl Try.func53 (by kernel_rfl) rfl (by simp only [List.map_toArray, List.map_cons, List.map_nil, evF, h25]) ((refNumber_c m1 A1 4 c1 w' HL4.out (HR1.out.below kg) (by decide)).mono ?_)
        rintro e w'' ⟨rfl, rfl⟩
        rw [HBF1.out]
        exact ⟨_, rfl, Gr.refl _, rfl⟩
      · intro f w' g hF hD
        have h26 : f 26 = (.int .u64 (F1 : Int)) := hD 9 26 (by kernel_rfl) rfl
        rw [if_pos (wanted_none rfl)]
        clear hF hD
        exact gives_val (by simp only [execOp, evF, h26]; first | rfl | go_simp) ⟨Gr.refl _, rfl⟩
      · intro f w' g hF hD
        have h22 : f 22 = (.int .i64 (V : Int)) := hD 5 22 (by kernel_rfl) rfl
        have h27 : f 27 = (.int .u32 (F1 : Int)) := hD 10 27 (by kernel_rfl) rfl
        rw [if_pos (wanted_none rfl)]
        clear hF hD
        exact gives_build 46 _ rfl #[.int .i64 (V : Int), .int .u32 (F1 : Int)] (by simp only [List.map_toArray, List.map_cons, List.map_nil, evF, h22, h27]; kernel_rfl) ⟨Gr.refl _, rfl⟩
      · intro f w' g hF hD
        have h4 : f 4 = .slice (some ⟨bx, ox, none⟩) 6 cX := hF 4 (by kernel_rfl)
        rw [if_pos (wanted_none rfl)]
        clear hF hD
        exact gives_val (by simp only [execOp, evF, h4]; first | rfl | go_simp) ⟨Gr.refl _, rfl⟩
      · intro f w' g hF hD
        have h29 : f 29 = (.slice (some ⟨bx, ox, none⟩) 6 cX) := hD 12 29 (by kernel_rfl) rfl
        rw [if_pos (wanted_none rfl)]
        clear hF hD
        exact gives_val (by simp only [execOp, evF, h29]; first | rfl | go_simp) ⟨Gr.refl _, rfl⟩
      · intro f w' g hF hD
        have h30 : f 30 = (.pointer (some ⟨bx, ox + 2, none⟩)) := hD 13 30 (by kernel_rfl) rfl
        rw [if_pos (wanted_none rfl)]
        clear hF hD
        have cl : w'.cell? ⟨bx, ox + 2, none⟩ = some (.slice (some ⟨b2, o2, none⟩) 1 c2) := (g.cell (p := ⟨bx, ox + 2, none⟩) hbx).trans x2
        exact gives_val (by simp only [execOp, evF, h30]; go_simp) ⟨Gr.refl _, rfl⟩
      · intro f w' g hF hD
        have h31 : f 31 = (.slice (some ⟨b2, o2, none⟩) 1 c2) := hD 14 31 (by kernel_rfl) rfl
        rw [if_pos (wanted_none rfl)]
        clear hF hD
        exact gives_val (by simp only [execOp, evF, h31]; first | rfl | go_simp) ⟨Gr.refl _, rfl⟩
      · intro f w' g hF hD
        have h32 : f 32 = (.pointer (some ⟨b2, o2, none⟩)) := hD 15 32 (by kernel_rfl) rfl
        rw [if_pos (wanted_none rfl)]
        clear hF hD
        have cl : w'.cell? ⟨b2, o2, none⟩ = some (.int .u8 (M : Int)) := (g.cell (p := ⟨b2, o2, none⟩) hlt2).trans y2
        exact gives_val (by simp only [execOp, evF, h32]; go_simp) ⟨Gr.refl _, rfl⟩
      · intro f w' g hF hD
        have h33 : f 33 = (.int .u8 (M : Int)) := hD 16 33 (by kernel_rfl) rfl
        rw [if_pos (wanted_none rfl)]
        clear hF hD
        exact gives_val (by simp only [execOp, evF, h33]; first | rfl | go_simp) ⟨Gr.refl _, rfl⟩
      · intro f w' g hF hD
        have h4 : f 4 = .slice (some ⟨bx, ox, none⟩) 6 cX := hF 4 (by kernel_rfl)
        rw [if_pos (wanted_none rfl)]
        clear hF hD
        exact gives_val (by simp only [execOp, evF, h4]; first | rfl | go_simp) ⟨Gr.refl _, rfl⟩
      · intro f w' g hF hD
        have h35 : f 35 = (.slice (some ⟨bx, ox, none⟩) 6 cX) := hD 18 35 (by kernel_rfl) rfl
        rw [if_pos (wanted_none rfl)]
        clear hF hD
        exact gives_val (by simp only [execOp, evF, h35]; first | rfl | go_simp) ⟨Gr.refl _, rfl⟩
      · intro f w' g hF hD
        have h36 : f 36 = (.pointer (some ⟨bx, ox + 3, none⟩)) := hD 19 36 (by kernel_rfl) rfl
        rw [if_pos (wanted_none rfl)]
        clear hF hD
        have cl : w'.cell? ⟨bx, ox + 3, none⟩ = some (.slice A3 4 c3) := (g.cell (p := ⟨bx, ox + 3, none⟩) hbx).trans x3
        exact gives_val (by simp only [execOp, evF, h36]; go_simp) ⟨Gr.refl _, rfl⟩
      · intro f w' g hF hD
        have h37 : f 37 = (.slice A3 4 c3) := hD 20 37 (by kernel_rfl) rfl
        rw [if_pos (wanted_none rfl)]
        clear hF hD
        have kg : Below w3.heap.size w3 w' := (below_drewN (Below.refl _ _) 1).trans g
        refine gives_func rfl Try.func53 (by kernel_rfl) rfl (by simp only [List.map_toArray, List.map_cons, List.map_nil, evF, h37]) ((refNumber_c m3 A3 4 c3 w' HL5.out (HR3.out.below kg) (by decide)).mono ?_)
        rintro e w'' ⟨rfl, rfl⟩
        rw [HBF2.out]
        exact ⟨_, rfl, Gr.refl _, rfl⟩
      · intro f w' g hF hD
        have h38 : f 38 = (.int .u64 (F2 : Int)) := hD 21 38 (by kernel_rfl) rfl
        rw [if_pos (wanted_none rfl)]
        clear hF hD
        exact gives_val (by simp only [execOp, evF, h38]; first | rfl | go_simp) ⟨Gr.refl _, rfl⟩
      · intro f w' g hF hD
        have h34 : f 34 = (.int .i64 (M : Int)) := hD 17 34 (by kernel_rfl) rfl
        have h39 : f 39 = (.int .u32 (F2 : Int)) := hD 22 39 (by kernel_rfl) rfl
        rw [if_pos (wanted_none rfl)]
        clear hF hD
        exact gives_build 41 _ rfl #[.int .i64 (M : Int), .int .u32 (F2 : Int)] (by simp only [List.map_toArray, List.map_cons, List.map_nil, evF, h34, h39]; kernel_rfl) ⟨Gr.refl _, rfl⟩
      · intro f w' g hF hD
        have h28 : f 28 = (.agg #[.int .i64 (V : Int), .int .u32 (F1 : Int)]) := hD 11 28 (by kernel_rfl) rfl
        have h40 : f 40 = (.agg #[.int .i64 (M : Int), .int .u32 (F2 : Int)]) := hD 23 40 (by kernel_rfl) rfl
        rw [if_pos (wanted_none rfl)]
        clear hF hD
        exact gives_build 49 _ rfl (selC V F1 M F2 (zerB 16) (zerB 32)).toArray (by simp only [List.map_toArray, List.map_cons, List.map_nil, evF, h28, h40]; kernel_rfl) ⟨Gr.refl _, rfl⟩
      · intro f w' g hF hD
        rw [if_pos (wanted_none rfl)]
        clear hF hD
        have kg : Below w3.heap.size w3 w' := (below_drewN (Below.refl _ _) 1).trans g
        exact gives_val (by simp only [execOp, evF]; first | rfl | go_simp) ⟨(Below.refl _ _).alloc (Nat.le_refl _) _, w'.heap.size, rfl, kg.size, heap_alloc_new _ _⟩
    intro f' w4 g hD
    have h41 : f' 41 = .agg (selC V F1 M F2 (zerB 16) (zerB 32)).toArray := hD 24 41 (by decide) rfl
    obtain ⟨g6, h6, hB6, hg6⟩ : ∃ g, f' 6 = .pointer (some ⟨g, 0, none⟩) ∧ w3.heap.size ≤ g ∧ w4.heap[g]? = some (.cells (selC 0 0 0 0 (zerB 16) (zerB 32)).toArray 49 (0, 0)) := hD 25 6 (by decide) rfl
    simp only [List.drop_succ_cons, List.drop_zero, putAll, List.setIfInBounds_toArray, List.set_cons_zero, List.set_cons_succ, h41, h6]
    refine wpList_store_row rfl 49 (.tmp 6) (.tmp 41) rfl g6 (selC V F1 M F2 (zerB 16) (zerB 32)).toArray rfl rfl 49 _ hg6 (info_sel.trans rfl) rfl (sel_one _ _ _ _ _ _) ?_
    obtain ⟨w5, ew5⟩ : ∃ w5, w5 = w4.setRow g6 (selC V F1 M F2 (zerB 16) (zerB 32)).toArray := ⟨_, rfl⟩
    rw [← ew5]
    have hg5 : w5.heap[g6]? = some (.cells (selC V F1 M F2 (zerB 16) (zerB 32)).toArray 49 (0, 0)) := by rw [ew5]; exact setRow_heap _ _ _ _ _ _ hg6
    have k5 : Keeps (fun j => j = g6) w4 w5 := by rw [ew5]; exact (Zg.row hg6).1
    have kg : Below w3.heap.size w3 w4 := (below_drewN (Below.refl _ _) 1).trans g
    have k35 : Below w3.heap.size w3 w5 := keepsP_b kg k5 hB6 (Nat.le_refl _)
    have hgr3 : gr < w3.heap.size := heap_lt HG3.out
    have HG5 := Lib.hid ((k35.block gr hgr3).trans HG3.out)
    have HB5 := Lib.hid (HB3.out.trans (k35.mono HB3.out.size))
    have HR4' := Lib.hid (HR4.out.below k35)
    have HR5' := Lib.hid (HR5.out.below k35)
    have z4 : w5.cell? ⟨bx, ox + 4, none⟩ = some (.slice A4 16 c4) := (k35.cell (p := ⟨bx, _, none⟩) hbx).trans x4
    have Z5c : Hid (w5.cell? ⟨bx, ox + 5, none⟩ = some (.slice A5 32 c5)) := Lib.hid ((k35.cell (p := ⟨bx, _, none⟩) hbx).trans x5)
    have HGS : Hid (gr < g6 ∧ bx < g6 ∧ w.heap.size ≤ g6) := Lib.hid (by have := HB3.out.size; omega)
    have HH5 := Lib.hid hg5
    have HLT6 : Hid (∀ {v : Value} {a b : World} {i : Nat}, a.cell? ⟨bx, i, none⟩ = some v → Below g6 a b → b.cell? ⟨bx, i, none⟩ = some v) := Lib.hid (fun h hb => keepB1 HGS.out.2.1 h hb)
    have HRR5 : Hid (∀ {a b : World}, Below w3.heap.size w3 a → True) := Lib.hid (fun _ => trivial)
    have HKW : Hid (Below w3.heap.size w3 w5) := Lib.hid k35
    have HB36 := Lib.hid hB6
    have hbg := HGS.out.2.1
    clear ew5 hg5 k5 kg k35 hgr3 hD g h41 h6 hg6 x0 x1 x2 x3 x4 x5 y0 y2 hwF1 hwF2 hwV hwM hlt0 hlt2 hbx hB6 HRR5
    have HS0 : Hid (w5.drew.cell? ⟨bx, ox + 4, none⟩ = some (.slice A4 16 c4)) := Lib.hid z4
    have HNM : Hid ((NC.map bv).length = Nat.min 16 16) := Lib.hid (by rw [List.length_map, HLN.out]; rfl)
    have HFT : Hid (4 + (NC.map bv).length ≤ (selC V F1 M F2 (zerB 16) (zerB 32)).length) := Lib.hid (by rw [HNM.out]; simp [selC, zerB, HLN.out])
    have HSP : Hid (splice (selC V F1 M F2 (zerB 16) (zerB 32)) 4 (NC.map bv) = selC V F1 M F2 NC (zerB 32)) := Lib.hid (sel_splice1 _ _ _ _ _ _ _ HLN.out (by simp [zerB]))
    go_upto_region 5 with (fail)
    go_region_held3 (fun w' => w'.cell? ⟨bx, ox + 4, none⟩ = some (.slice A4 16 c4)) (first | (with_reducible exact HS0.out) | (with_reducible assumption) | exact keepB1 hbg (by with_reducible assumption) (by with_reducible assumption)) (first
      | (refine step_copy_splice rfl (.tmp 43) (.tmp 46) 25 25 rfl 5 Try.underlying25 (by kernel_rfl) _ _ 16 16 16 c4 rfl rfl g6 4 (selC V F1 M F2 (zerB 16) (zerB 32)) 49 HH5.out (NC.map bv) HNM.out (fun hp => ⟨rfl, copy_src HR4'.out hp⟩) HFT.out (bv_one _) g6 w5.drew (Below.refl _ _) (Nat.le_refl _) ?_; rw [HSP.out]; intro w6 hg6 hb6; have HBC := Lib.hid ((below_drewN (Below.refl g6 w5) 1).trans hb6)))
    clear HNM HFT HSP HS0
    have HG6 := Lib.hid ((HBC.out.block gr HGS.out.1).trans HG5.out)
    have HB6 := Lib.hid (HB5.out.trans (HBC.out.mono HGS.out.2.2))
    have HH6 := Lib.hid hg6.out
    have HR5n := Lib.hid (HR5.out.below (HKW.out.trans (HBC.out.mono HB36.out)))
    have z5 : w6.cell? ⟨bx, ox + 5, none⟩ = some (.slice A5 32 c5) := HLT6.out Z5c.out HBC.out
    clear hg6 hb6 HBC HG5 HB5 HH5 z4 Z5c
    have HS0 : Hid (w6.drew.cell? ⟨bx, ox + 5, none⟩ = some (.slice A5 32 c5)) := Lib.hid z5
    have HNM : Hid ((CF.map bv).length = Nat.min 32 32) := Lib.hid (by rw [List.length_map, HLC.out]; rfl)
    have HFT : Hid (20 + (CF.map bv).length ≤ (selC V F1 M F2 NC (zerB 32)).length) := Lib.hid (by rw [HNM.out]; simp [selC, zerB, HLN.out])
    have HSP : Hid (splice (selC V F1 M F2 NC (zerB 32)) 20 (CF.map bv) = selC V F1 M F2 NC CF) := Lib.hid (sel_splice2 _ _ _ _ _ _ _ HLN.out HLC.out (by simp [zerB]))
    go_upto_region 6 with (fail)
    go_region_held3 (fun w' => w'.cell? ⟨bx, ox + 5, none⟩ = some (.slice A5 32 c5)) (first | (with_reducible exact HS0.out) | (with_reducible assumption) | exact keepB1 hbg (by with_reducible assumption) (by with_reducible assumption)) (first
      | (refine step_copy_splice rfl (.tmp 49) (.tmp 52) 25 25 rfl 5 Try.underlying25 (by kernel_rfl) _ _ 32 32 32 c5 rfl rfl g6 20 (selC V F1 M F2 NC (zerB 32)) 49 HH6.out (CF.map bv) HNM.out (fun hp => ⟨rfl, copy_src HR5n.out hp⟩) HFT.out (bv_one _) g6 w6.drew (Below.refl _ _) (Nat.le_refl _) ?_; rw [HSP.out]; intro w7 hg6 hb6; have HBC := Lib.hid ((below_drewN (Below.refl g6 w6) 1).trans hb6)))
    clear HNM HFT HSP HS0
    have HG7 := Lib.hid ((HBC.out.block gr HGS.out.1).trans HG6.out)
    have HB7 := Lib.hid (HB6.out.trans (HBC.out.mono HGS.out.2.2))
    have HH7 := Lib.hid hg6.out
    clear hg6 hb6 HBC HG6 HB6 HH6 z5 hbg
    have HI : Hid ((Try.prog.info? 49).map (·.size) = some (selC V F1 M F2 NC CF).toArray.size) := Lib.hid (info_sel.trans (sel_size HLN.out HLC.out))
    have HSZ2 : Hid ((selC 0 0 0 0 (zerB 16) (zerB 32)).toArray.size = (selC V F1 M F2 NC CF).toArray.size) := Lib.hid (by simp [selC, zerB, HLN.out, HLC.out])
    have a0 : w7.cell? ⟨g6, 0, none⟩ = some (.int .i64 (V : Int)) := (heap_cell HH7.out 0).trans rfl
    have a1 : w7.cell? ⟨g6, 1, none⟩ = some (.int .u32 (F1 : Int)) := (heap_cell HH7.out 1).trans rfl
    go_wp2_with (fail)
    refine (refMay14_c (V : Int) F1 HU1.out w7).mono ?_
    rintro _ w8 ⟨rfl, hb⟩
    have HG8 := Lib.hid ((hb.block gr (heap_lt HG7.out)).trans HG7.out)
    have HH8 := Lib.hid ((hb.block g6 (heap_lt HH7.out)).trans HH7.out)
    have HB8 := Lib.hid (HB7.out.trans (hb.mono HB7.out.size))
    obtain ⟨O1, hO⟩ : ∃ O, mayF (V : Int) F1 = O := ⟨_, rfl⟩
    rw [hO]
    have HO1 := Lib.hid hO
    clear hO hb a0 a1 HG7 HH7 HB7
    have hE : ∀ b, selB bs = b → E = if b = true then 0 else 3 := by
      intro b hb
      rw [← HE.out]; unfold selE selS8; rw [hb]
      cases b with
      | true => rw [if_pos rfl]; show (badS (selS7 bs) false).err = 0; simp [badS]; exact HE0.out.trans H0.out
      | false => rw [if_neg (by decide)]; show (badS (selS7 bs) true).err = 3; simp [badS, HE0.out.trans H0.out]
    have HEB := Lib.hid hE
    clear hE
    have a2 : w8.cell? ⟨g6, 2, none⟩ = some (.int .i64 (M : Int)) := (heap_cell HH8.out 2).trans rfl
    cases O1 with
    | false =>
      have hb : selB bs = false := by unfold selB; rw [EV.out, EF1.out, HO1.out, EM.out]; rfl
      have hE' : E = 3 := by rw [HEB.out _ hb, if_neg (by decide)]
      have eR : R = selZ := by rw [← HRR.out]; unfold selR; rw [if_neg (by rw [HE.out, hE']; decide)]
      have ER := Lib.hid eR
      have EE := Lib.hid hE'
      clear eR hE' hb a2
      go_upto_region 8 with (fail)
      go_wp2_with (first
        | (refine wpList_buildTo rfl 49 #[] rfl _ rfl (selC 0 0 0 0 (zerB 16) (zerB 32)).toArray (by kernel_rfl) ?_)
        | (refine wpList_store_row rfl 49 (.tmp 2) (.tmp 70) rfl gr (selC 0 0 0 0 (zerB 16) (zerB 32)).toArray rfl rfl 49 _ HG8.out (info_sel.trans rfl) rfl (sel_one _ _ _ _ _ _) ?_))
      have HBF := Lib.hid (below_setRow (g := gr) HB8.out (Nat.le_of_eq EGR.out.symm) (selC 0 0 0 0 (zerB 16) (zerB 32)).toArray)
      refine bodyPost_ret (v := .tuple #[.agg (selC 0 0 0 0 (zerB 16) (zerB 32)).toArray, .int .i64 3]) (ref_sel_results _ gr 49 _ (0, 0) 3 rfl rfl _ (setRow_heap w8 gr _ _ _ _ HG8.out) (info_sel.trans rfl)) rfl ?_
      rw [ER.out, EE.out]
      exact ⟨rfl, HBF.out⟩
    | true =>
      by_cases m1 : (M : Int) < 1
      · have d1 : decide ((M : Int) < 1) = true := decide_eq_true m1
        have hO' : offB M = false := decide_eq_false (by omega)
        have hb : selB bs = false := by unfold selB; rw [EV.out, EF1.out, HO1.out, EM.out]; rw [hO']; rfl
        have hE' : E = 3 := by rw [HEB.out _ hb, if_neg (by decide)]
        have eR : R = selZ := by rw [← HRR.out]; unfold selR; rw [if_neg (by rw [HE.out, hE']; decide)]
        have ER := Lib.hid eR
        have EE := Lib.hid hE'
        clear eR hE' hb hO' m1
        go_upto_region 8 with (fail)
        go_wp2_with (first
          | (refine wpList_buildTo rfl 49 #[] rfl _ rfl (selC 0 0 0 0 (zerB 16) (zerB 32)).toArray (by kernel_rfl) ?_)
          | (refine wpList_store_row rfl 49 (.tmp 2) (.tmp 70) rfl gr (selC 0 0 0 0 (zerB 16) (zerB 32)).toArray rfl rfl 49 _ HG8.out (info_sel.trans rfl) rfl (sel_one _ _ _ _ _ _) ?_))
        have HBF := Lib.hid (below_setRow (g := gr) HB8.out (Nat.le_of_eq EGR.out.symm) (selC 0 0 0 0 (zerB 16) (zerB 32)).toArray)
        refine bodyPost_ret (v := .tuple #[.agg (selC 0 0 0 0 (zerB 16) (zerB 32)).toArray, .int .i64 3]) (ref_sel_results _ gr 49 _ (0, 0) 3 rfl rfl _ (setRow_heap w8 gr _ _ _ _ HG8.out) (info_sel.trans rfl)) rfl ?_
        rw [ER.out, EE.out]
        exact ⟨rfl, HBF.out⟩
      by_cases m3 : (3 : Int) < (M : Int)
      · have d1 : decide ((M : Int) < 1) = false := decide_eq_false m1
        have d3 : decide ((3 : Int) < (M : Int)) = true := decide_eq_true m3
        have hO' : offB M = false := decide_eq_false (by omega)
        have hb : selB bs = false := by unfold selB; rw [EV.out, EF1.out, HO1.out, EM.out]; rw [hO']; rfl
        have hE' : E = 3 := by rw [HEB.out _ hb, if_neg (by decide)]
        have eR : R = selZ := by rw [← HRR.out]; unfold selR; rw [if_neg (by rw [HE.out, hE']; decide)]
        have ER := Lib.hid eR
        have EE := Lib.hid hE'
        clear eR hE' hb hO' m1 m3
        go_upto_region 8 with (fail)
        go_wp2_with (first
          | (refine wpList_buildTo rfl 49 #[] rfl _ rfl (selC 0 0 0 0 (zerB 16) (zerB 32)).toArray (by kernel_rfl) ?_)
          | (refine wpList_store_row rfl 49 (.tmp 2) (.tmp 70) rfl gr (selC 0 0 0 0 (zerB 16) (zerB 32)).toArray rfl rfl 49 _ HG8.out (info_sel.trans rfl) rfl (sel_one _ _ _ _ _ _) ?_))
        have HBF := Lib.hid (below_setRow (g := gr) HB8.out (Nat.le_of_eq EGR.out.symm) (selC 0 0 0 0 (zerB 16) (zerB 32)).toArray)
        refine bodyPost_ret (v := .tuple #[.agg (selC 0 0 0 0 (zerB 16) (zerB 32)).toArray, .int .i64 3]) (ref_sel_results _ gr 49 _ (0, 0) 3 rfl rfl _ (setRow_heap w8 gr _ _ _ _ HG8.out) (info_sel.trans rfl)) rfl ?_
        rw [ER.out, EE.out]
        exact ⟨rfl, HBF.out⟩
      have d1 : decide ((M : Int) < 1) = false := decide_eq_false m1
      have d3 : decide ((3 : Int) < (M : Int)) = false := decide_eq_false m3
      have hO' : offB M = true := decide_eq_true (by omega)
      have hb : selB bs = true := by unfold selB; rw [EV.out, EF1.out, HO1.out, EM.out, hO']; rfl
      have hE' : E = 0 := by rw [HEB.out _ hb, if_pos rfl]
      have eR : R = ⟨V, F1, M, F2, NC, CF⟩ := by rw [← HRR.out]; unfold selR; rw [if_pos (HE.out.trans hE'), EV.out, EF1.out, EM.out, EF2.out, ENC.out, ECF.out]
      have ER := Lib.hid eR
      have EE := Lib.hid hE'
      clear eR hE' hb hO' m1 m3
      go_wp2_with (first
        | (refine wpList_load_row rfl 49 (.tmp 6) rfl g6 rfl 49 _ (0, 0) _ HH8.out Try.underlying49 rfl HI.out ?_)
        | (refine wpList_store_row rfl 49 (.tmp 2) (.tmp 71) rfl gr (selC V F1 M F2 NC CF).toArray rfl rfl 49 _ HG8.out HI.out HSZ2.out (sel_one _ _ _ _ _ _) ?_))
      have HBF := Lib.hid (below_setRow (g := gr) HB8.out (Nat.le_of_eq EGR.out.symm) (selC V F1 M F2 NC CF).toArray)
      refine bodyPost_ret (v := .tuple #[.agg (selC V F1 M F2 NC CF).toArray, .int .i64 0]) (ref_sel_results _ gr 49 _ (0, 0) 0 rfl rfl _ (setRow_heap w8 gr _ _ _ _ HG8.out) HI.out) rfl ?_
      rw [ER.out, EE.out]
      exact ⟨rfl, HBF.out⟩
  · have d0 : ((E0 : Int) != 0) = true := by rw [bne_iff_ne]; omega
    have hE : E = E0 := by rw [← HE.out]; unfold selE selS8; rw [badS_sticks (by rw [HE0.out]; exact h0), HE0.out]
    have eR : R = selZ := by rw [← HRR.out]; unfold selR; rw [if_neg (by rw [HE.out, hE]; exact h0)]
    have ER := Lib.hid eR
    have EE := Lib.hid hE
    clear hE eR h0
    go_upto_region 3 with (fail)
    go_wp2_with (first
      | (refine wpList_buildTo rfl 49 #[] rfl _ rfl (selC 0 0 0 0 (zerB 16) (zerB 32)).toArray (by kernel_rfl) ?_)
      | (refine wpList_store_row rfl 49 (.tmp 2) (.tmp 15) rfl gr (selC 0 0 0 0 (zerB 16) (zerB 32)).toArray rfl rfl 49 _ HG3.out (info_sel.trans rfl) rfl (sel_one _ _ _ _ _ _) ?_))
    have HBF := Lib.hid (below_setRow (g := gr) HB3.out (Nat.le_of_eq EGR.out.symm) (selC 0 0 0 0 (zerB 16) (zerB 32)).toArray)
    refine bodyPost_ret (v := .tuple #[.agg (selC 0 0 0 0 (zerB 16) (zerB 32)).toArray, .int .i64 (E0 : Int)]) (ref_sel_results _ gr 49 _ (0, 0) (E0 : Int) rfl rfl _ (setRow_heap w3 gr _ _ _ _ HG3.out) (info_sel.trans rfl)) rfl ?_
    rw [ER.out, EE.out]
    exact ⟨rfl, HBF.out⟩
end Go.Proofs.Ytcffinkkfdfcaaa

/- A Hello, a Select, thirty-two bytes: each is equal to itself. Conditions: none. -/
namespace Go.Proofs.Ytcffinkkfdfcaaa
open Go Go.RowKit

theorem mapM_some {α β : Type} {f : α → Option β} : ∀ (l : List α), (∀ x ∈ l, ∃ y, f x = some y) → ∃ ys, l.mapM f = some ys
  | [], _ => ⟨[], rfl⟩
  | x :: l, h => by
    obtain ⟨y, hy⟩ := h x (by simp)
    obtain ⟨ys, hys⟩ := mapM_some l (fun z hz => h z (by simp [hz]))
    exact ⟨y :: ys, by simp [hy, hys]⟩
theorem kl_int {P : Program} {t d : Nat} {k : IntKind} {n : Int} (hu : P.underlying t = some (.int k)) (hw : (Lit.int k n).wf = true) : P.keyLits (d + 1) t [.int k n] = some [.int k n] := by
  unfold Program.keyLits
  rw [hu]
  simp [hw]
theorem kl_bytes {P : Program} {t n e d : Nat} (T : ByT P t n e) (l : List UInt8) (h : l.length = n) : ∃ L, P.keyLits (d + 2) t (l.map bv) = some L := by
  unfold Program.keyLits
  rw [T.ht]
  simp only [List.length_map, h, T.hC, T.h1, if_true]
  obtain ⟨ys, hys⟩ := mapM_some (f := fun i => P.keyLits (d + 1) e (List.take 1 (List.drop (i * 1) (l.map bv)))) (List.range n) (fun i hi => by
    have hi := List.mem_range.1 hi
    have hi' : i < (l.map bv).length := by simp [h, hi]
    refine ⟨[bl (l[i]'(by simpa using hi'))], ?_⟩
    rw [Nat.mul_one, List.drop_eq_getElem_cons hi', List.take_succ_cons, List.take_zero]
    have hb := (l[i]'(by simpa using hi')).toNat_lt
    have hw : (Lit.int .u8 ((l[i]'(by simpa using hi')).toNat : Int)).wf = true := by
      simp [Lit.wf, IntKind.min, IntKind.max, IntKind.signed, IntKind.bits] at hb ⊢; omega
    simp only [List.getElem_map, bv]
    exact kl_int T.he hw)
  exact ⟨ys.flatten, by rw [hys]; rfl⟩
theorem kl_struct {P : Program} {t d : Nat} {fs : Array Field} {cs : List Value} (hu : P.underlying t = some (.struct fs)) (hC : cs.length = P.cellsOf t) (hn : fs.all (·.name != "_") = true)
    (h : ∀ f ∈ fs.toList, ∃ L, P.keyLits d f.type ((cs.drop f.offset).take (P.cellsOf f.type)) = some L) : ∃ L, P.keyLits (d + 1) t cs = some L := by
  obtain ⟨ys, hys⟩ := mapM_some fs.toList h
  unfold Program.keyLits
  rw [hu]
  refine ⟨ys.flatten, ?_⟩
  simp only []
  rw [if_pos ⟨hC, hn⟩, hys]
  rfl
theorem run_self {P : Program} (w : World) {m t : Nat} {cs : Array Value} (hm : m ≤ 10000) (hk : P.keyTypeAt m t = true) (hf : (Value.agg cs).formed P t = true) (hL : ∃ L, P.keyLits m t cs.toList = some L) :
    (binOp .eql t (.agg cs) (.agg cs)).run P w = .ok (.bool true) w := by
  obtain ⟨L, hL⟩ := hL
  obtain ⟨r, hr, hiff⟩ := run_equalIn_deep (P := P) (10000 - m) m t hk w m m _ _ L L hf hf hL hL
  rw [show 10000 - m + m = 10000 by omega] at hr
  rw [run_eql_struct, hr, hiff.2 rfl]
  rfl
theorem by16 : ByT Try.prog 42 16 5 := ⟨Try.underlying42, Try.underlying5, by kernel_rfl, by kernel_rfl⟩
theorem by32 : ByT Try.prog 47 32 5 := ⟨Try.underlying47, Try.underlying5, by kernel_rfl, by kernel_rfl⟩
theorem kl_two {t d : Nat} {f0 f1 : Field} (T : OfT Try.prog t f0 f1) (hn : (#[f0, f1] : Array Field).all (·.name != "_") = true) {a b : Nat} (ha : a < 256) (hb : b < 4294967296) (c0 : Try.prog.cellsOf f0.type = 1) (c1 : Try.prog.cellsOf f1.type = 1) : ∃ L, Try.prog.keyLits (d + 2) t [.int .i64 (a : Int), .int .u32 (b : Int)] = some L := by
  refine kl_struct T.hs (by rw [T.hC]; rfl) hn (fun f hf => ?_)
  obtain ⟨o0, -⟩ := Deep.hone_of T.hone 0 f0 rfl
  obtain ⟨o1, -⟩ := Deep.hone_of T.hone 1 f1 rfl
  simp only [List.mem_cons, List.not_mem_nil, or_false] at hf
  rcases hf with rfl | rfl
  · rw [o0, c0]
    exact ⟨_, kl_int T.h0 (by simp [Lit.wf, IntKind.min, IntKind.max, IntKind.signed, IntKind.bits]; omega)⟩
  · rw [o1, c1]
    exact ⟨_, kl_int T.h1 (by simp [Lit.wf, IntKind.min, IntKind.max, IntKind.signed, IntKind.bits]; omega)⟩
theorem c_u8 : Try.prog.cellsOf 42 = 16 := by kernel_rfl
theorem c_of : Try.prog.cellsOf 41 = 2 := by kernel_rfl
theorem c_ch : Try.prog.cellsOf 46 = 2 := by kernel_rfl
theorem c_he : Try.prog.cellsOf 44 = 18 := by kernel_rfl
theorem c_se : Try.prog.cellsOf 49 = 52 := by kernel_rfl
theorem take_all' {α : Type} {l : List α} {n : Nat} (h : l.length = n) : l.take n = l := List.take_of_length_le (by omega)
set_option maxRecDepth 100000 in
theorem kl_hel {mx ft : Nat} {l : List UInt8} (h1 : mx < 256) (h2 : ft < 4294967296) (h3 : l.length = 16) : ∃ L, Try.prog.keyLits 3 44 (helC mx ft l) = some L := by
  refine kl_struct Try.underlying44 (by rw [c_he]; simp [helC, h3]) (by kernel_rfl) (fun f hf => ?_)
  simp only [List.mem_cons, List.not_mem_nil, or_false] at hf
  rcases hf with rfl | rfl
  · show ∃ L, Try.prog.keyLits 2 41 (((helC mx ft l).drop 0).take (Try.prog.cellsOf 41)) = some L
    rw [c_of]
    exact kl_two ⟨Try.underlying41, by kernel_rfl, by kernel_rfl, by kernel_rfl, by kernel_rfl⟩ (by kernel_rfl) h1 h2 (by kernel_rfl) (by kernel_rfl)
  · show ∃ L, Try.prog.keyLits 2 42 (((helC mx ft l).drop 2).take (Try.prog.cellsOf 42)) = some L
    rw [c_u8]
    show ∃ L, Try.prog.keyLits 2 42 ((l.map bv).take 16) = some L
    rw [take_all' (by simp [h3])]
    exact kl_bytes by16 l h3
set_option maxRecDepth 100000 in
theorem kl_sel {v f1 mx f2 : Nat} {l m : List UInt8} (h1 : v < 256) (h2 : f1 < 4294967296) (h3 : mx < 256) (h4 : f2 < 4294967296) (h5 : l.length = 16) (h6 : m.length = 32) : ∃ L, Try.prog.keyLits 3 49 (selC v f1 mx f2 l m) = some L := by
  refine kl_struct Try.underlying49 (by rw [c_se]; simp [selC, h5, h6]) (by kernel_rfl) (fun f hf => ?_)
  simp only [List.mem_cons, List.not_mem_nil, or_false] at hf
  rcases hf with rfl | rfl | rfl | rfl
  · show ∃ L, Try.prog.keyLits 2 46 (((selC v f1 mx f2 l m).drop 0).take (Try.prog.cellsOf 46)) = some L
    rw [c_ch]
    exact kl_two ⟨Try.underlying46, by kernel_rfl, by kernel_rfl, by kernel_rfl, by kernel_rfl⟩ (by kernel_rfl) h1 h2 (by kernel_rfl) (by kernel_rfl)
  · show ∃ L, Try.prog.keyLits 2 41 (((selC v f1 mx f2 l m).drop 2).take (Try.prog.cellsOf 41)) = some L
    rw [c_of]
    exact kl_two ⟨Try.underlying41, by kernel_rfl, by kernel_rfl, by kernel_rfl, by kernel_rfl⟩ (by kernel_rfl) h3 h4 (by kernel_rfl) (by kernel_rfl)
  · show ∃ L, Try.prog.keyLits 2 42 (((selC v f1 mx f2 l m).drop 4).take (Try.prog.cellsOf 42)) = some L
    rw [c_u8]
    have e : ((selC v f1 mx f2 l m).drop 4).take 16 = l.map bv := by
      show (l.map bv ++ m.map bv).take 16 = l.map bv
      rw [List.take_append_of_le_length (by simp [h5]), take_all' (by simp [h5])]
    rw [e]
    exact kl_bytes by16 l h5
  · show ∃ L, Try.prog.keyLits 2 47 (((selC v f1 mx f2 l m).drop 20).take (Try.prog.cellsOf 47)) = some L
    rw [cells_a32]
    have e : ((selC v f1 mx f2 l m).drop 20).take 32 = m.map bv := by
      show ((l.map bv ++ m.map bv).drop 16).take 32 = m.map bv
      rw [List.drop_append_of_le_length (by simp [h5]), List.drop_eq_nil_of_le (by simp [h5]), List.nil_append, take_all' (by simp [h6])]
    rw [e]
    exact kl_bytes by32 m h6
theorem formed_agg {P : Program} {t n : Nat} {fs : Array Field} {cs : Array Value} (hu : P.underlying t = some (.struct fs)) (hC : P.cellsOf t = n) (hs : cs.size = n) : (Value.agg cs).formed P t = true := by simp [Value.formed, hu, hC, hs]
theorem run_self_hel (w : World) {mx ft : Nat} {l : List UInt8} (h1 : mx < 256) (h2 : ft < 4294967296) (h3 : l.length = 16) : (binOp .eql 44 (.agg (helC mx ft l).toArray) (.agg (helC mx ft l).toArray)).run Try.prog w = .ok (.bool true) w :=
  run_self w (m := 3) (by decide) (by kernel_rfl) (formed_agg Try.underlying44 c_he (by simp [helC, h3])) (kl_hel h1 h2 h3)
theorem run_self_sel (w : World) {v f1 mx f2 : Nat} {l m : List UInt8} (h1 : v < 256) (h2 : f1 < 4294967296) (h3 : mx < 256) (h4 : f2 < 4294967296) (h5 : l.length = 16) (h6 : m.length = 32) : (binOp .eql 49 (.agg (selC v f1 mx f2 l m).toArray) (.agg (selC v f1 mx f2 l m).toArray)).run Try.prog w = .ok (.bool true) w :=
  run_self w (m := 3) (by decide) (by kernel_rfl) (formed_agg Try.underlying49 c_se (by simp [selC, h5, h6])) (kl_sel h1 h2 h3 h4 h5 h6)
theorem run_self_a32 (w : World) {l : List UInt8} (h : l.length = 32) : (binOp .eql 47 (.agg (a32C l)) (.agg (a32C l))).run Try.prog w = .ok (.bool true) w := by
  unfold a32C
  rw [run_eql_struct, run_eqA w _ _ h h]
  simp
theorem guard_hel : Try.prog.eqGuardType Try.prog.depth 44 = false := by kernel_rfl
theorem guard_sel : Try.prog.eqGuardType Try.prog.depth 49 = false := by kernel_rfl
/-- What is answered is such a Hello, such a Select, so many bytes. -/
theorem helR_ok (bs : List UInt8) : (helR bs).mx < 256 ∧ (helR bs).ft < 4294967296 ∧ (helR bs).nc.length = 16 := by
  unfold helR
  split
  · exact ⟨UInt8.toNat_lt _, fourN_lt _, byB_len _ _⟩
  · exact ⟨by decide, by decide, by simp [zerB]⟩
theorem selR_ok (bs : List UInt8) : (selR bs).v < 256 ∧ (selR bs).f1 < 4294967296 ∧ (selR bs).mx < 256 ∧ (selR bs).f2 < 4294967296 ∧ (selR bs).nc.length = 16 ∧ (selR bs).cf.length = 32 := by
  unfold selR
  split
  · exact ⟨UInt8.toNat_lt _, fourN_lt _, UInt8.toNat_lt _, fourN_lt _, byB_len _ _, byB_len _ _⟩
  · exact ⟨by decide, by decide, by decide, by decide, by simp [selZ, zerB], by simp [selZ, zerB]⟩
end Go.Proofs.Ytcffinkkfdfcaaa
