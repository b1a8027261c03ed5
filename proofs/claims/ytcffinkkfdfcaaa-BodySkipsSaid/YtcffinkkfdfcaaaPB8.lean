/- Parts one behind the other: What tlv.Get and the reference's Get answer: the first item of a kind; Bodies of datagrams as plain data: parts, data, what is laid of them; What bytes say as a list of items, in plain words; tlv.must: an error is thrown; The world within tlv's reading of a list of items. Conditions: as told at each. -/
import Derived.Test.YtcffinkkfdfcaaaPB7
import Derived.Test.YtcffinkkfdfcaaaPB5
import Derived.Test.YtcffinkkfdfcaaaPB6
import Derived.Recover
import Derived.Test.YtcffinkkfdfcaaaPB3

set_option linter.unusedVariables false
set_option linter.unusedSimpArgs false
/- What tlv.Get and the reference's Get answer: the first item of a kind. Conditions: items that can be read; few items. -/
namespace Go.Proofs.Ytcffinkkfdfcaaa
open Go Go.RowKit

/-- The first item of a kind, as a list of one; else an empty one. -/
def getI (x : Int) : Fo → Fo
  | .nil => .cons 0 false false [] .nil .nil
  | .cons k cr li bs sub rest => if k = x then .cons k cr li bs sub .nil else getI x rest
def hasI (x : Int) : Fo → Bool
  | .nil => false
  | .cons k _ _ _ _ rest => if k = x then true else hasI x rest
theorem ItsR.one {ok : Nat → Prop} {w : World} {k : Int} {cr li : Bool} {bs : List UInt8} {sub : Fo} {A As : Option Addr} {n c ns cs : Nat} (ht : TxtR ok w A n c bs) (hn : ns = sub.len) (hs : FoR ok w As 0 sub) (hc : ns ≤ cs) (hm : cs ≤ maxLen) (hl : sub.len ≤ 2199023255488) :
    ItsR ok w [⟨k, cr, li, A, n, c, As, ns, cs⟩] (.cons k cr li bs sub .nil) :=
  ⟨_, [], rfl, rfl, rfl, rfl, ht, ⟨hn, hs, by rw [← hn]; exact hc, hm, hl⟩, rfl⟩
/-- The five stores of an item. -/
def set5 (w : World) (g : Nat) (d : ItV) : World := ((((w.setCell ⟨g, 0, none⟩ (.int .i64 d.k)).setCell ⟨g, 1, none⟩ (.bool d.cr)).setCell ⟨g, 2, none⟩ (.bool d.li)).setCell ⟨g, 3, none⟩ (.slice d.A d.n d.c)).setCell ⟨g, 4, none⟩ (.slice d.As d.ns d.cs)
theorem set5_heap {w : World} {g : Nat} {a0 a1 a2 a3 a4 : Value} {t : TypeId} (h : w.heap[g]? = some (.cells #[a0, a1, a2, a3, a4] t (0, 0))) (d : ItV) : (set5 w g d).heap[g]? = some (.cells d.cells.toArray t (0, 0)) := by
  unfold set5
  rw [heap_set (heap_set (heap_set (heap_set (heap_set h _ _) _ _) _ _) _ _) _ _]; rfl
theorem set5_keeps (w : World) (g : Nat) (d : ItV) : Keeps (fun j => j = g) w (set5 w g d) := by
  unfold set5
  exact ((((Keeps.set (fun j => j = g) _ ⟨g, 0, none⟩ _ rfl).trans (Keeps.set _ _ ⟨g, 1, none⟩ _ rfl)).trans (Keeps.set _ _ ⟨g, 2, none⟩ _ rfl)).trans (Keeps.set _ _ ⟨g, 3, none⟩ _ rfl)).trans (Keeps.set _ _ ⟨g, 4, none⟩ _ rfl)
theorem five_of {w : World} {g : Nat} {t : TypeId} {d : ItV} (h : w.heap[g]? = some (.cells d.cells.toArray t (0, 0))) :
    (w.cell? ⟨g, 0, none⟩ = some (.int .i64 d.k) ∧ w.cell? ⟨g, 1, none⟩ = some (.bool d.cr) ∧ w.cell? ⟨g, 2, none⟩ = some (.bool d.li) ∧ w.cell? ⟨g, 3, none⟩ = some (.slice d.A d.n d.c) ∧ w.cell? ⟨g, 4, none⟩ = some (.slice d.As d.ns d.cs)) ∧
    (w.frozen? ⟨g, 0, none⟩ = false ∧ w.frozen? ⟨g, 1, none⟩ = false ∧ w.frozen? ⟨g, 2, none⟩ = false ∧ w.frozen? ⟨g, 3, none⟩ = false ∧ w.frozen? ⟨g, 4, none⟩ = false) := by
  refine ⟨⟨?_, ?_, ?_, ?_, ?_⟩, heap_free h _, heap_free h _, heap_free h _, heap_free h _, heap_free h _⟩ <;> (rw [heap_cell h]; rfl)
def ItV.zer : ItV := ⟨0, false, false, none, 0, 0, none, 0, 0⟩
set_option maxRecDepth 100000 in
set_option maxHeartbeats 4000000 in
theorem Get_c (f : Fo) (ok : Nat → Prop) (A : Option Addr) (n c : Nat) (x : Int) (w : World) (hn : f.len = n) (h1 : FoR ok w A 0 f) (hs : f.size ≤ 100000) :
    Calls Try.prog 88 #[.slice A n c, .int .i64 x] w fun r w' => ∃ d : ItV, r = .returned (.tuple #[d.val, .bool (hasI x f)]) ∧ ItsO (w.heap.size ≤ ·) w' [d] (getI x f) ∧ Below w.heap.size w w' := by
  have HN := Lib.hid hn
  have H1 := Lib.hid h1; clear h1
  have hl : n ≤ 100000 := by have := Fo.len_le f; omega
  have HSF := Lib.hid hs
  clear hn hs
  obtain ⟨B, eB⟩ : ∃ B, B = hasI x f := ⟨_, rfl⟩
  obtain ⟨T, eT⟩ : ∃ T, T = getI x f := ⟨_, rfl⟩
  rw [← eT, ← eB]
  have ET := Lib.hid eT; clear eT
  have EB := Lib.hid eB; clear eB
  obtain ⟨w1, ew1⟩ : ∃ w1, w1 = w.alloc (.cells #[.int .i64 0, .bool false, .bool false, .slice none 0 0, .slice none 0 0] 76) := ⟨_, rfl⟩
  obtain ⟨gr, egr⟩ : ∃ gr, gr = w.heap.size := ⟨_, rfl⟩
  have b1 : Below w.heap.size w w1 := by rw [ew1]; exact (Below.refl _ _).alloc (Nat.le_refl _) _
  have g1 : w1.heap[gr]? = some (.cells ItV.zer.cells.toArray 76 (0, 0)) := by rw [ew1, egr]; exact heap_alloc_new _ _
  have EW1 := Lib.hid ew1
  have EGR := Lib.hid egr
  have B1 := Lib.hid b1
  have G1 := Lib.hid g1
  clear ew1 egr b1 g1
  go_enter Try.func88, Try.ntmps88
  go_upto_region 1 with (fail)
  rw [← EW1.out, ← EGR.out]
  go_wp2_with (fail)
  go_loopw [10] (fun i wr => ∃ (q : Nat) (r : Fo), i = .int .i64 q ∧ Hid (q + r.len = n) ∧ Hid (FoR ok w A q r) ∧ Hid (r.size ≤ f.size) ∧ Hid (B = hasI x r) ∧ Hid (T = getI x r) ∧ Hid (Below w.heap.size w wr) ∧ Hid (wr.heap[gr]? = some (.cells ItV.zer.cells.toArray 76 (0, 0)))) (fun i _ => n - (intOf i).toNat)
  case atStart => exact ⟨0, f, rfl, Lib.hid (by rw [HN.out]; omega), H1, Lib.hid (Nat.le_refl _), EB, ET, B1, G1⟩
  case round =>
    obtain ⟨q, r, rfl, HK, R1, HSz, HBr, HTr, HB, HG⟩ := hrel
    cases r with
    | nil =>
      have hk : q = n := HK.out
      have hk' : (n : Int) ≤ (q : Int) := by omega
      have eB2 : B = false := HBr.out
      obtain ⟨⟨s0, s1, s2, s3, s4⟩, f0, f1, f2, f3, f4⟩ := five_of HG.out
      obtain ⟨w8, ew8⟩ : ∃ w8, w8 = set5 wr gr ItV.zer := ⟨_, rfl⟩
      have h8 : w8.heap[gr]? = some (.cells ItV.zer.cells.toArray 76 (0, 0)) := by rw [ew8]; exact set5_heap HG.out _
      have b8 : Below w.heap.size w w8 := by rw [ew8]; exact HB.out.trans ((set5_keeps wr gr ItV.zer).below (fun j hj => ⟨Nat.lt_of_lt_of_le hj HB.out.size, by have := EGR.out; omega⟩))
      obtain ⟨⟨v0, v1, v2, v3, v4⟩, -⟩ := five_of h8
      have B8 := Lib.hid b8
      have EB2 := Lib.hid eB2
      unfold set5 at ew8
      unfold ItV.zer at s0 s1 s2 s3 s4 ew8 v0 v1 v2 v3 v4
      dsimp only at s0 s1 s2 s3 s4 ew8 v0 v1 v2 v3 v4
      have EW8 := Lib.hid ew8
      clear hk eB2 ew8 h8 b8
      go_wp2_with (fail)
      rw [← EW8.out]
      refine bodyPost_ret (v := .tuple #[.agg #[.int .i64 0, .bool false, .bool false, .slice none 0 0, .slice none 0 0], .bool false]) (by simp [results, Try.results88, go_sem, v0, v1, v2, v3, v4]) rfl ?_
      rw [EB2.out]
      exact ⟨ItV.zer, rfl, by rw [HTr.out]; exact ItsO.one (TxtO.nil_ _ _) (FoO.nil_ _ _) (by simp [Fo.len]), B8.out⟩
    | cons z cr li bs sub rest =>
      obtain ⟨⟨b1, o1, At, m, cm, As1, e1, eA, hb1, -, ⟨c0, ca, cb, cc, cd⟩, tt, s1, l1, l2, l3⟩, r1⟩ := R1.out.one
      subst eA
      have hlt : q < n := by have := HK.out; simp only [Fo.len] at this; omega
      have kb := HB.out
      have TT := Lib.hid tt
      have S1 := Lib.hid s1
      have R1b := Lib.hid r1
      rw [← kb.cell (p := ⟨b1, _, none⟩) hb1] at c0 ca cb cc cd
      have HSb : Hid (rest.size ≤ f.size) := Lib.hid (by have := HSz.out; simp only [Fo.size] at this; omega)
      have HSs : Hid (sub.size ≤ 100000) := Lib.hid (by have := HSz.out; have := HSF.out; simp only [Fo.size] at *; omega)
      have HKb : Hid (q + 1 + rest.len = n) := Lib.hid (by have := HK.out; simp only [Fo.len] at this; omega)
      obtain ⟨sl, esl⟩ : ∃ sl, sl = sub.len := ⟨_, rfl⟩
      rw [← esl] at cd l1 l3
      have ESL := Lib.hid esl
      have hlt' : (q : Int) < (n : Int) := by omega
      obtain ⟨w5, ew5⟩ : ∃ w5, w5 = wr.alloc (.cells #[.int .i64 z, .bool cr, .bool li, .slice At m cm, .slice As1 sl e1] 76) := ⟨_, rfl⟩
      obtain ⟨gy, egy⟩ : ∃ gy, gy = wr.heap.size := ⟨_, rfl⟩
      have b5 : Below wr.heap.size wr w5 := by rw [ew5]; exact (Below.refl _ _).alloc (Nat.le_refl _) _
      have h5 : w5.heap[gy]? = some (.cells #[.int .i64 z, .bool cr, .bool li, .slice At m cm, .slice As1 sl e1] 76 (0, 0)) := by rw [ew5, egy]; exact heap_alloc_new _ _
      have HB5 : Hid (Below w.heap.size w w5) := Lib.hid (HB.out.trans (b5.mono HB.out.size))
      have HG5 : Hid (w5.heap[gr]? = some (.cells ItV.zer.cells.toArray 76 (0, 0))) := Lib.hid ((b5.block gr (heap_lt HG.out)).trans HG.out)
      obtain ⟨p0, p1, p2, p3, p4⟩ : w5.cell? ⟨gy, 0, none⟩ = some (.int .i64 z) ∧ w5.cell? ⟨gy, 1, none⟩ = some (.bool cr) ∧ w5.cell? ⟨gy, 2, none⟩ = some (.bool li) ∧ w5.cell? ⟨gy, 3, none⟩ = some (.slice At m cm) ∧ w5.cell? ⟨gy, 4, none⟩ = some (.slice As1 sl e1) := by
        refine ⟨?_, ?_, ?_, ?_, ?_⟩ <;> (rw [heap_cell h5]; rfl)
      have EW5 := Lib.hid ew5
      have EGY := Lib.hid egy
      have Z5 : Hid (gr < w5.heap.size) := Lib.hid (heap_lt HG5.out)
      clear ew5 egy b5 h5 tt s1 r1 esl HK HSz R1 kb l1 l2 HG
      go_upto_region 4 with (fail)
      rw [← EW5.out, ← EGY.out]
      clear c0 ca cb cc cd
      by_cases hin : z = x
      · have d0 : (z == x) = true := by rw [hin]; exact beq_self_eq_true _
        have hB : B = true := HBr.out.trans (if_pos hin)
        have hT : T = .cons z cr li bs sub .nil := HTr.out.trans (if_pos hin)
        have HB' := Lib.hid hB
        have HT' := Lib.hid hT
        clear hin hB hT
        go_wp2_with (fail)
        refine (clone_it sub.size sub rfl ok z cr li bs At m cm As1 sl e1 w5 (TT.out.frame (fun j _ hj => HB5.out.block j hj) HB5.out.size) ESL.out.symm (S1.out.below HB5.out) HSs.out).mono ?_
        rintro _ w6 ⟨⟨dk, dc, dl, dA, dn, dcc, dAs, dns, dcs⟩, rfl, ho6, hb6⟩
        unfold ItV.val
        dsimp only
        have hg6 := (hb6.block gr (heap_lt HG5.out)).trans HG5.out
        obtain ⟨⟨s0, s1, s2, s3, s4⟩, f0, f1, f2, f3, f4⟩ := five_of hg6
        obtain ⟨d, ed⟩ : ∃ d : ItV, d = ⟨dk, dc, dl, dA, dn, dcc, dAs, dns, dcs⟩ := ⟨_, rfl⟩
        rw [← ed] at ho6
        obtain ⟨w8, ew8⟩ : ∃ w8, w8 = set5 w6 gr d := ⟨_, rfl⟩
        have h8 : w8.heap[gr]? = some (.cells d.cells.toArray 76 (0, 0)) := by rw [ew8]; exact set5_heap hg6 _
        have k8 : Keeps (fun j => j = gr) w6 w8 := by rw [ew8]; exact set5_keeps _ _ _
        have b8 : Below w.heap.size w w8 := by
          have b6 : Below w.heap.size w w6 := HB5.out.trans (hb6.mono HB5.out.size)
          exact b6.trans (k8.below (fun j hj => ⟨Nat.lt_of_lt_of_le hj b6.size, by have := EGR.out; omega⟩))
        have ho8 : ItsO (w.heap.size ≤ ·) w8 [d] (.cons z cr li bs sub .nil) := (ho6.frame (w' := w8) (fun j hj hl => k8.block j hl (by have : w5.heap.size ≤ j := hj; have := Z5.out; omega))).weak (fun j hj _ => by have : w5.heap.size ≤ j := hj; have := Z5.out; have := EGR.out; show w.heap.size ≤ j; omega)
        have HO8 := Lib.hid ho8
        obtain ⟨⟨v0, v1, v2, v3, v4⟩, -⟩ := five_of h8
        have B8 := Lib.hid b8
        have ED := Lib.hid ed
        rw [ed] at ew8 v0 v1 v2 v3 v4
        unfold set5 at ew8
        unfold ItV.zer at s0 s1 s2 s3 s4
        dsimp only at s0 s1 s2 s3 s4 ew8 v0 v1 v2 v3 v4
        have EW8 := Lib.hid ew8
        clear ew8 h8 b8 k8 ho8 hg6 ho6 hb6 ed p0 p1 p2 p3 p4
        go_wp2_with (fail)
        rw [← EW8.out]
        refine bodyPost_ret (v := .tuple #[.agg #[.int .i64 dk, .bool dc, .bool dl, .slice dA dn dcc, .slice dAs dns dcs], .bool true]) (by simp [results, Try.results88, go_sem, v0, v1, v2, v3, v4]) rfl ?_
        rw [HB'.out, HT'.out]
        exact ⟨d, by rw [ED.out]; rfl, HO8.out, B8.out⟩
      · have d0 : (z == x) = false := by rw [beq_eq_false_iff_ne]; exact hin
        have hB : B = hasI x rest := HBr.out.trans (if_neg hin)
        have hT : T = getI x rest := HTr.out.trans (if_neg hin)
        have HB' := Lib.hid hB
        have HT' := Lib.hid hT
        clear hin hB hT
        go_wp2_with (fail)
        go_roundw
        case rel => exact ⟨q + 1, rest, by go_num, HKb, R1b, HSb, HB', HT', HB5, HG5⟩
        case measure => simp [intOf]; omega
set_option maxRecDepth 100000 in
set_option maxHeartbeats 4000000 in
theorem refGet_c (f : Fo) (ok : Nat → Prop) (A : Option Addr) (n c : Nat) (x : Int) (w : World) (hn : f.len = n) (h1 : FoR ok w A 0 f) (hl : n ≤ 2199023255488) :
    Calls Try.prog 75 #[.slice A n c, .int .i64 x] w fun r w' => ∃ d : ItV, r = .returned (.tuple #[d.val, .bool (hasI x f)]) ∧ ItsR (fun _ => True) w' [d] (getI x f) ∧ Below w.heap.size w w' := by
  have HN := Lib.hid hn; clear hn
  have H1 := Lib.hid h1; clear h1
  obtain ⟨B, eB⟩ : ∃ B, B = hasI x f := ⟨_, rfl⟩
  obtain ⟨T, eT⟩ : ∃ T, T = getI x f := ⟨_, rfl⟩
  rw [← eT, ← eB]
  have ET := Lib.hid eT; clear eT
  have EB := Lib.hid eB; clear eB
  obtain ⟨w1, ew1⟩ : ∃ w1, w1 = w.alloc (.cells #[.int .i64 0, .bool false, .bool false, .slice none 0 0, .slice none 0 0] 76) := ⟨_, rfl⟩
  obtain ⟨gr, egr⟩ : ∃ gr, gr = w.heap.size := ⟨_, rfl⟩
  have b1 : Below w.heap.size w w1 := by rw [ew1]; exact (Below.refl _ _).alloc (Nat.le_refl _) _
  have g1 : w1.heap[gr]? = some (.cells ItV.zer.cells.toArray 76 (0, 0)) := by rw [ew1, egr]; exact heap_alloc_new _ _
  have EW1 := Lib.hid ew1
  have EGR := Lib.hid egr
  have B1 := Lib.hid b1
  have G1 := Lib.hid g1
  clear ew1 egr b1 g1
  go_enter Try.func75, Try.ntmps75
  go_upto_region 1 with (fail)
  rw [← EW1.out, ← EGR.out]
  go_wp2_with (fail)
  go_loopw [6] (fun i wr => ∃ (q : Nat) (r : Fo), i = .int .i64 q ∧ Hid (q + r.len = n) ∧ Hid (FoR ok w A q r) ∧ Hid (B = hasI x r) ∧ Hid (T = getI x r) ∧ wr = w1) (fun i _ => n - (intOf i).toNat)
  case atStart => exact ⟨0, f, rfl, Lib.hid (by rw [HN.out]; omega), H1, EB, ET, rfl⟩
  case round =>
    obtain ⟨q, r, rfl, HK, R1, HBr, HTr, ewr⟩ := hrel
    have HB : Hid (Below w.heap.size w wr) := by rw [ewr]; exact B1
    have HG : Hid (wr.heap[gr]? = some (.cells ItV.zer.cells.toArray 76 (0, 0))) := by rw [ewr]; exact G1
    have EWR := Lib.hid ewr
    clear ewr
    obtain ⟨⟨s0, s1, s2, s3, s4⟩, f0, f1, f2, f3, f4⟩ := five_of HG.out
    cases r with
    | nil =>
      have hk : q = n := HK.out
      have hk' : (n : Int) ≤ (q : Int) := by omega
      have eB2 : B = false := HBr.out
      obtain ⟨w8, ew8⟩ : ∃ w8, w8 = set5 wr gr ItV.zer := ⟨_, rfl⟩
      have h8 : w8.heap[gr]? = some (.cells ItV.zer.cells.toArray 76 (0, 0)) := by rw [ew8]; exact set5_heap HG.out _
      have b8 : Below w.heap.size w w8 := by rw [ew8]; exact HB.out.trans ((set5_keeps wr gr ItV.zer).below (fun j hj => ⟨Nat.lt_of_lt_of_le hj HB.out.size, by have := EGR.out; omega⟩))
      obtain ⟨⟨v0, v1, v2, v3, v4⟩, -⟩ := five_of h8
      have B8 := Lib.hid b8
      have EB2 := Lib.hid eB2
      unfold set5 at ew8
      unfold ItV.zer at s0 s1 s2 s3 s4 ew8 v0 v1 v2 v3 v4
      dsimp only at s0 s1 s2 s3 s4 ew8 v0 v1 v2 v3 v4
      have EW8 := Lib.hid ew8
      clear hk eB2 ew8 h8 b8
      go_wp2_with (fail)
      rw [← EW8.out]
      refine bodyPost_ret (v := .tuple #[.agg #[.int .i64 0, .bool false, .bool false, .slice none 0 0, .slice none 0 0], .bool false]) (by simp [results, Try.results75, go_sem, v0, v1, v2, v3, v4]) rfl ?_
      rw [EB2.out]
      exact ⟨ItV.zer, rfl, by rw [HTr.out]; exact ItsR.one (TxtO.nil_ _ _).r rfl trivial (Nat.le_refl _) (Nat.zero_le _) (by simp [Fo.len]), B8.out⟩
    | cons z cr li bs sub rest =>
      obtain ⟨⟨b1, o1, At, m, cm, As1, e1, eA, hb1, -, ⟨c0, ca, cb, cc, cd⟩, tt, ss1, l1, l2, l3⟩, r1⟩ := R1.out.one
      subst eA
      have hlt : q < n := by have := HK.out; simp only [Fo.len] at this; omega
      have kb := HB.out
      have TT := Lib.hid tt
      have S1 := Lib.hid ss1
      have R1b := Lib.hid r1
      rw [← kb.cell (p := ⟨b1, _, none⟩) hb1] at c0 ca cb cc cd
      have HKb : Hid (q + 1 + rest.len = n) := Lib.hid (by have := HK.out; simp only [Fo.len] at this; omega)
      obtain ⟨sl, esl⟩ : ∃ sl, sl = sub.len := ⟨_, rfl⟩
      rw [← esl] at cd l1 l3
      have ESL := Lib.hid esl
      have L1 := Lib.hid l1
      have L2 := Lib.hid l2
      have hlt' : (q : Int) < (n : Int) := by omega
      clear tt ss1 r1 esl HK R1 kb l1 l2
      by_cases hin : z = x
      · have d0 : (z == x) = true := by rw [hin]; exact beq_self_eq_true _
        have hB : B = true := HBr.out.trans (if_pos hin)
        have hT : T = .cons z cr li bs sub .nil := HTr.out.trans (if_pos hin)
        have HB' := Lib.hid hB
        have HT' := Lib.hid hT
        clear hin hB hT
        obtain ⟨w8, ew8⟩ : ∃ w8, w8 = set5 wr gr ⟨z, cr, li, At, m, cm, As1, sl, e1⟩ := ⟨_, rfl⟩
        have h8 : w8.heap[gr]? = some (.cells (ItV.cells ⟨z, cr, li, At, m, cm, As1, sl, e1⟩).toArray 76 (0, 0)) := by rw [ew8]; exact set5_heap HG.out _
        have k8 : Keeps (fun j => j = gr) wr w8 := by rw [ew8]; exact set5_keeps _ _ _
        have b8 : Below w.heap.size w w8 := HB.out.trans (k8.below (fun j hj => ⟨Nat.lt_of_lt_of_le hj HB.out.size, by have := EGR.out; omega⟩))
        have ho8 : ItsR (fun _ => True) w8 [⟨z, cr, li, At, m, cm, As1, sl, e1⟩] (.cons z cr li bs sub .nil) :=
          ItsR.one ((TT.out.frame (fun j _ hj => b8.block j hj) b8.size).weak (fun _ _ _ => trivial)) ESL.out ((S1.out.below b8).weak (fun _ _ _ => trivial)) L1.out L2.out (by rw [← ESL.out]; exact l3)
        have HO8 := Lib.hid ho8
        obtain ⟨⟨v0, v1, v2, v3, v4⟩, -⟩ := five_of h8
        have B8 := Lib.hid b8
        unfold set5 at ew8
        unfold ItV.zer at s0 s1 s2 s3 s4
        dsimp only at s0 s1 s2 s3 s4 ew8 v0 v1 v2 v3 v4
        have EW8 := Lib.hid ew8
        clear ew8 h8 b8 k8 ho8
        go_wp2_with (fail)
        rw [← EW8.out]
        refine bodyPost_ret (v := .tuple #[.agg #[.int .i64 z, .bool cr, .bool li, .slice At m cm, .slice As1 sl e1], .bool true]) (by simp [results, Try.results75, go_sem, v0, v1, v2, v3, v4]) rfl ?_
        rw [HB'.out, HT'.out]
        exact ⟨⟨z, cr, li, At, m, cm, As1, sl, e1⟩, rfl, HO8.out, B8.out⟩
      · have d0 : (z == x) = false := by rw [beq_eq_false_iff_ne]; exact hin
        have hB : B = hasI x rest := HBr.out.trans (if_neg hin)
        have hT : T = getI x rest := HTr.out.trans (if_neg hin)
        have HB' := Lib.hid hB
        have HT' := Lib.hid hT
        clear hin hB hT s0 s1 s2 s3 s4 f0 f1 f2 f3 f4
        go_wp2_with (fail)
        go_roundw
        case rel => exact ⟨q + 1, rest, by go_num, HKb, R1b, HB', HT', EWR.out⟩
        case measure => simp [intOf]; omega
end Go.Proofs.Ytcffinkkfdfcaaa

/- Bodies of datagrams as plain data: parts, data, what is laid of them. Conditions: none. -/
namespace Go.Proofs.Ytcffinkkfdfcaaa
open Go Go.RowKit

structure PartD where
  id : Nat
  ix : Int
  ct : Int
  bs : List UInt8
structure DataD where
  st : Nat
  ec : Nat
  ak : Nat
  th : Nat
  has : Bool
  p : PartD
/-- May a part be? -/
def partP (ix ct : Int) (n : Nat) : Prop := 1 ≤ ct ∧ ct ≤ 128 ∧ 0 ≤ ix ∧ ix < ct ∧ n ≤ 448 ∧ (n = 448 ∨ ix = ct - 1)
instance (ix ct : Int) (n : Nat) : Decidable (partP ix ct n) := by unfold partP; infer_instance
def partB (ix ct : Int) (n : Nat) : Bool := decide (partP ix ct n)
def noneP (id : Nat) (ix ct : Int) (n : Nat) : Prop := id = 0 ∧ ix = 0 ∧ ct = 0 ∧ n = 0
instance (id : Nat) (ix ct : Int) (n : Nat) : Decidable (noneP id ix ct n) := by unfold noneP; infer_instance
def noneB (id : Nat) (ix ct : Int) (n : Nat) : Bool := decide (noneP id ix ct n)
def dataB (has : Bool) (id : Nat) (ix ct : Int) (n : Nat) : Bool := if has = true then partB ix ct n else noneB id ix ct n
def DataD.may (d : DataD) : Bool := dataB d.has d.p.id d.p.ix d.p.ct d.p.bs.length
/-- An item of bytes, alone. -/
def oneF (k : Int) (cr : Bool) (bs : List UInt8) : Fo := .cons k cr false bs .nil .nil
def partF (p : PartD) : Fo := .cons 1 true false (varL p.id) .nil (.cons 2 true false (varL p.ix.toNat) .nil (.cons 3 true false (varL p.ct.toNat) .nil (.cons 4 true false p.bs .nil .nil)))
/-- The items of data. -/
def d1F (d : DataD) : Fo := oneF 1 true (numL d.st 2)
def d2F (d : DataD) : Fo := if d.ec = 65535 then d1F d else (d1F d).app (oneF 2 false (numL d.ec 2))
def d3F (d : DataD) : Fo := if d.ak = 0 then d2F d else (d2F d).app (oneF 3 true (varL d.ak))
def d4F (d : DataD) : Fo := if d.th = 0 then d3F d else (d3F d).app (oneF 4 true (varL d.th))
def d5F (d : DataD) : Fo := if d.has = true then (d4F d).app (.cons 5 true true [] (partF d.p) .nil) else d4F d
/-- The bytes of data in the first version. -/
def headD (d : DataD) : List UInt8 := numL d.st 2 ++ numL d.ec 2 ++ numL d.ak 8 ++ numL d.th 8
def firstL (d : DataD) : List UInt8 := if d.has = true then headD d ++ [1] ++ numL d.p.id 4 ++ [lo d.p.ix.toNat, lo d.p.ct.toNat] ++ d.p.bs else headD d ++ [0]
/-- What is put of data in a version: the fault's number; the bytes. -/
def putD (v : Int) (d : DataD) : Int × List UInt8 := if v < 1 ∨ 3 < v ∨ d.may = false then (1, []) else if v = 1 then (0, firstL d) else (checkF (d5F d), encF (d5F d))
theorem Fo.app_size (f g : Fo) : (f.app g).size = f.size + g.size := Fo.size_app g f
theorem d1_len (d : DataD) : (d1F d).len = 1 := rfl
theorem d2_len (d : DataD) : (d2F d).len ≤ 2 := by
  unfold d2F; split
  · rw [d1_len]; omega
  · rw [Fo.len_app, d1_len]; simp [oneF, Fo.len]
theorem d3_len (d : DataD) : (d3F d).len ≤ 3 := by
  have := d2_len d
  unfold d3F; split
  · omega
  · rw [Fo.len_app]; simp [oneF, Fo.len]; omega
theorem d4_len (d : DataD) : (d4F d).len ≤ 4 := by
  have := d3_len d
  unfold d4F; split
  · omega
  · rw [Fo.len_app]; simp [oneF, Fo.len]; omega
theorem d5_len (d : DataD) : (d5F d).len ≤ 5 := by
  have := d4_len d
  unfold d5F; split
  · rw [Fo.len_app]; simp [Fo.len]; omega
  · omega
end Go.Proofs.Ytcffinkkfdfcaaa

/- What bytes say as a list of items, in plain words. Conditions: none. -/
namespace Go.Proofs.Ytcffinkkfdfcaaa
open Go Go.RowKit

/-- The error; the items; how many items in all: of the bytes that are left to a reader, in a list of the depth d, the kind ahead ah, c items ahead in all. -/
def decG : Nat → RS → Int → Nat → Nat → Nat × Fo × Nat
  | 0, _, _, _, c => (0, .nil, c)
  | m + 1, s, d, ah, c =>
    if s.b.length ≤ s.at_ then (0, .nil, c)
    else if (varR s).2.err ≠ 0 then ((varR s).2.err, .nil, c)
    else if (varR s).1 / 4 ≤ ah ∨ 1000 < (varR s).1 / 4 then (3, .nil, c)
    else if 64 ≤ c then (4, .nil, c + 1)
    else if (varR s).1 % 2 = 1 ∧ d = 4 then (5, .nil, c + 1)
    else if (textR (varR s).2 4096).2.err ≠ 0 then ((textR (varR s).2 4096).2.err, .nil, c + 1)
    else if (varR s).1 % 2 = 1 then
      if (decG m ⟨(textR (varR s).2 4096).1, 0, 0, none⟩ (d + 1) 0 (c + 1)).1 ≠ 0 then ((decG m ⟨(textR (varR s).2 4096).1, 0, 0, none⟩ (d + 1) 0 (c + 1)).1, .nil, (decG m ⟨(textR (varR s).2 4096).1, 0, 0, none⟩ (d + 1) 0 (c + 1)).2.2)
      else ((decG m (textR (varR s).2 4096).2 d ((varR s).1 / 4) (decG m ⟨(textR (varR s).2 4096).1, 0, 0, none⟩ (d + 1) 0 (c + 1)).2.2).1,
        .cons ((varR s).1 / 4 : Nat) (decide (2 ≤ (varR s).1 % 4)) true [] (decG m ⟨(textR (varR s).2 4096).1, 0, 0, none⟩ (d + 1) 0 (c + 1)).2.1 (decG m (textR (varR s).2 4096).2 d ((varR s).1 / 4) (decG m ⟨(textR (varR s).2 4096).1, 0, 0, none⟩ (d + 1) 0 (c + 1)).2.2).2.1,
        (decG m (textR (varR s).2 4096).2 d ((varR s).1 / 4) (decG m ⟨(textR (varR s).2 4096).1, 0, 0, none⟩ (d + 1) 0 (c + 1)).2.2).2.2)
    else ((decG m (textR (varR s).2 4096).2 d ((varR s).1 / 4) (c + 1)).1,
      .cons ((varR s).1 / 4 : Nat) (decide (2 ≤ (varR s).1 % 4)) false (textR (varR s).2 4096).1 .nil (decG m (textR (varR s).2 4096).2 d ((varR s).1 / 4) (c + 1)).2.1,
      (decG m (textR (varR s).2 4096).2 d ((varR s).1 / 4) (c + 1)).2.2)
/-- Items ahead of what was read. -/
def cmb (P : Fo) (R : Nat × Fo × Nat) : Nat × Fo × Nat := (R.1, P.app R.2.1, R.2.2)
theorem cmb_nil (R : Nat × Fo × Nat) : cmb .nil R = R := rfl
theorem cmb_cmb (P Q : Fo) (R : Nat × Fo × Nat) : cmb P (cmb Q R) = cmb (P.app Q) R := by rw [cmb, cmb, cmb, Fo.app_assoc]

section
variable {m : Nat} {s s1 s2 : RS} {d : Int} {ah c n : Nat} {t : List UInt8}
theorem decG_end (h : s.b.length ≤ s.at_) : decG (m + 1) s d ah c = (0, .nil, c) := by rw [decG, if_pos h]
theorem decG_var (h : s.at_ < s.b.length) (hv : varR s = (n, s1)) (h1 : s1.err ≠ 0) : decG (m + 1) s d ah c = (s1.err, .nil, c) := by
  rw [decG, if_neg (by omega), hv]
  exact if_pos h1
theorem decG_form (h : s.at_ < s.b.length) (hv : varR s = (n, s1)) (h1 : s1.err = 0) (h2 : n / 4 ≤ ah ∨ 1000 < n / 4) : decG (m + 1) s d ah c = (3, .nil, c) := by
  rw [decG, if_neg (by omega), hv]
  exact (if_neg (by simpa using h1)).trans (if_pos h2)
theorem decG_many (h : s.at_ < s.b.length) (hv : varR s = (n, s1)) (h1 : s1.err = 0) (h2 : ¬ (n / 4 ≤ ah ∨ 1000 < n / 4)) (h3 : 64 ≤ c) : decG (m + 1) s d ah c = (4, .nil, c + 1) := by
  rw [decG, if_neg (by omega), hv]
  exact (if_neg (by simpa using h1)).trans ((if_neg h2).trans (if_pos h3))
theorem decG_deep (h : s.at_ < s.b.length) (hv : varR s = (n, s1)) (h1 : s1.err = 0) (h2 : ¬ (n / 4 ≤ ah ∨ 1000 < n / 4)) (h3 : ¬ 64 ≤ c) (h4 : n % 2 = 1 ∧ d = 4) : decG (m + 1) s d ah c = (5, .nil, c + 1) := by
  rw [decG, if_neg (by omega), hv]
  exact (if_neg (by simpa using h1)).trans ((if_neg h2).trans ((if_neg h3).trans (if_pos h4)))
theorem decG_text (h : s.at_ < s.b.length) (hv : varR s = (n, s1)) (h1 : s1.err = 0) (h2 : ¬ (n / 4 ≤ ah ∨ 1000 < n / 4)) (h3 : ¬ 64 ≤ c) (h4 : ¬ (n % 2 = 1 ∧ d = 4)) (ht : textR s1 4096 = (t, s2)) (h5 : s2.err ≠ 0) :
    decG (m + 1) s d ah c = (s2.err, .nil, c + 1) := by
  rw [decG, if_neg (by omega), hv]
  refine (if_neg (by simpa using h1)).trans ((if_neg h2).trans ((if_neg h3).trans ((if_neg h4).trans ?_)))
  simp only [ht]
  exact if_pos h5
theorem decG_item (h : s.at_ < s.b.length) (hv : varR s = (n, s1)) (h1 : s1.err = 0) (h2 : ¬ (n / 4 ≤ ah ∨ 1000 < n / 4)) (h3 : ¬ 64 ≤ c) (ht : textR s1 4096 = (t, s2)) (h5 : s2.err = 0) (h6 : n % 2 = 0) :
    decG (m + 1) s d ah c = cmb (.cons (n / 4 : Nat) (decide (2 ≤ n % 4)) false t .nil .nil) (decG m s2 d (n / 4) (c + 1)) := by
  rw [decG, if_neg (by omega), hv]
  refine (if_neg (by simpa using h1)).trans ((if_neg h2).trans ((if_neg h3).trans ((if_neg (by omega)).trans ?_)))
  simp only [ht]
  exact (if_neg (by simpa using h5)).trans ((if_neg (by omega)).trans rfl)
theorem decG_bad (h : s.at_ < s.b.length) (hv : varR s = (n, s1)) (h1 : s1.err = 0) (h2 : ¬ (n / 4 ≤ ah ∨ 1000 < n / 4)) (h3 : ¬ 64 ≤ c) (h4 : d ≠ 4) (ht : textR s1 4096 = (t, s2)) (h5 : s2.err = 0) (h6 : n % 2 = 1)
    (h7 : (decG m ⟨t, 0, 0, none⟩ (d + 1) 0 (c + 1)).1 ≠ 0) :
    decG (m + 1) s d ah c = ((decG m ⟨t, 0, 0, none⟩ (d + 1) 0 (c + 1)).1, .nil, (decG m ⟨t, 0, 0, none⟩ (d + 1) 0 (c + 1)).2.2) := by
  rw [decG, if_neg (by omega), hv]
  refine (if_neg (by simpa using h1)).trans ((if_neg h2).trans ((if_neg h3).trans ((if_neg (fun h => h4 h.2)).trans ?_)))
  simp only [ht]
  exact (if_neg (by simpa using h5)).trans ((if_pos h6).trans (if_pos h7))
theorem decG_list (h : s.at_ < s.b.length) (hv : varR s = (n, s1)) (h1 : s1.err = 0) (h2 : ¬ (n / 4 ≤ ah ∨ 1000 < n / 4)) (h3 : ¬ 64 ≤ c) (h4 : d ≠ 4) (ht : textR s1 4096 = (t, s2)) (h5 : s2.err = 0) (h6 : n % 2 = 1)
    {L : Fo} {c' : Nat} (h7 : decG m ⟨t, 0, 0, none⟩ (d + 1) 0 (c + 1) = (0, L, c')) :
    decG (m + 1) s d ah c = cmb (.cons (n / 4 : Nat) (decide (2 ≤ n % 4)) true [] L .nil) (decG m s2 d (n / 4) c') := by
  rw [decG, if_neg (by omega), hv]
  refine (if_neg (by simpa using h1)).trans ((if_neg h2).trans ((if_neg h3).trans ((if_neg (fun h => h4 h.2)).trans ?_)))
  simp only [ht]
  refine (if_neg (by simpa using h5)).trans ((if_pos h6).trans ?_)
  rw [h7]
  exact (if_neg (by simp)).trans rfl
end

/-! ### What a reader's step leaves -/
theorem varR_step {s s1 : RS} {n : Nat} (hv : varR s = (n, s1)) (h0 : s.err = 0) (ha : s.at_ ≤ s.b.length) : s1.b = s.b ∧ s1.gA = s.gA ∧ s.at_ ≤ s1.at_ ∧ s1.at_ ≤ s.b.length ∧ U64 n ∧ (s1.err = 0 → s.at_ < s1.at_) := by
  unfold varR at hv
  rw [if_neg (by simpa using h0)] at hv
  cases hg : varGo (s.b.drop s.at_) 0 with
  | bad e =>
    rw [hg] at hv
    injection hv with hn hs
    subst hs
    refine ⟨rfl, rfl, Nat.le_refl _, ha, by rw [← hn]; unfold U64; decide, fun h => ?_⟩
    rcases varGo_err hg with rfl | rfl <;> cases h
  | ok n' k =>
    rw [hg] at hv
    injection hv with hn hs
    subst hs
    obtain ⟨g1, g2, g3⟩ := varGo_u64 hg
    rw [List.length_drop] at g2
    exact ⟨rfl, rfl, Nat.le_add_right _ _, by show s.at_ + k ≤ _; omega, hn ▸ g1, fun _ => by show s.at_ < s.at_ + k; omega⟩
theorem textR_step {s s1 : RS} {t : List UInt8} (ht : textR s 4096 = (t, s1)) (h0 : s.err = 0) (ha : s.at_ ≤ s.b.length) : s1.b = s.b ∧ s1.gA = s.gA ∧ s.at_ ≤ s1.at_ ∧ s1.at_ ≤ s.b.length ∧ t.length ≤ 4096 ∧ s.at_ + t.length ≤ s.b.length ∧ (s1.err = 0 → s.at_ + t.length < s1.at_) := by
  unfold textR at ht
  rw [if_neg (by simpa using h0)] at ht
  cases hg : varGo (s.b.drop s.at_) 0 with
  | bad e =>
    rw [hg] at ht
    injection ht with hn hs
    subst hs hn
    refine ⟨rfl, rfl, Nat.le_refl _, ha, by simp, by simpa using ha, fun h => ?_⟩
    rcases varGo_err hg with rfl | rfl <;> cases h
  | ok n k =>
    rw [hg] at ht
    obtain ⟨g1, g2, g3⟩ := varGo_u64 hg
    rw [List.length_drop] at g2
    simp only at ht
    by_cases h1 : (4096 : Int) < 0 ∨ (4096 : Int) < (n : Int)
    · rw [if_pos h1] at ht
      injection ht with hn hs
      subst hs hn
      exact ⟨rfl, rfl, Nat.le_refl _, ha, by simp, by simpa using ha, fun h => by cases h⟩
    · rw [if_neg h1] at ht
      by_cases h2 : s.b.length < s.at_ + k + n
      · rw [if_pos h2] at ht
        injection ht with hn hs
        subst hs hn
        exact ⟨rfl, rfl, Nat.le_refl _, ha, by simp, by simpa using ha, fun h => by cases h⟩
      · rw [if_neg h2] at ht
        injection ht with hn hs
        subst hs hn
        have hl : ((s.b.drop (s.at_ + k)).take n).length = n := by rw [List.length_take, List.length_drop]; omega
        rw [hl]
        exact ⟨rfl, rfl, by show s.at_ ≤ s.at_ + k + n; omega, by show s.at_ + k + n ≤ _; omega, by omega, by omega, fun _ => by show s.at_ + n < s.at_ + k + n; omega⟩
/-- Where the bytes lie plays no part. -/
theorem textR_g (s : RS) (g : Option Addr) (z : Int) : textR { s with gA := g } z = ((textR s z).1, { (textR s z).2 with gA := g }) := by
  unfold textR
  simp only
  split
  · rfl
  · split
    · rfl
    · split
      · rfl
      · split <;> rfl
theorem varR_g2 (s : RS) (g : Option Addr) : varR { s with gA := g } = ((varR s).1, { (varR s).2 with gA := g }) := by
  unfold varR
  simp only
  split
  · rfl
  · split <;> rfl
theorem decG_g (g : Option Addr) : ∀ (m : Nat) (s : RS) (d : Int) (ah c : Nat), decG m { s with gA := g } d ah c = decG m s d ah c
  | 0, _, _, _, _ => rfl
  | m + 1, s, d, ah, c => by
    rw [decG, decG, varR_g2]
    simp only
    rw [textR_g]
    simp only
    rw [decG_g g m, decG_g g m]
/-- How many items there are behind. -/
theorem decG_count : ∀ (m : Nat) (s : RS) (d : Int) (ah c : Nat), c ≤ 64 → (decG m s d ah c).1 = 0 → (decG m s d ah c).2.2 = c + (decG m s d ah c).2.1.size ∧ (decG m s d ah c).2.2 ≤ 64
  | 0, _, _, _, c, hc, _ => ⟨rfl, hc⟩
  | m + 1, s, d, ah, c, hc, h => by
    obtain ⟨n, s1, hv⟩ : ∃ n s1, varR s = (n, s1) := ⟨_, _, rfl⟩
    obtain ⟨t, s2, ht⟩ : ∃ t s2, textR s1 4096 = (t, s2) := ⟨_, _, rfl⟩
    by_cases h0 : s.b.length ≤ s.at_
    · rw [decG_end h0]; exact ⟨rfl, hc⟩
    have h0' : s.at_ < s.b.length := by omega
    by_cases h1 : s1.err = 0
    · by_cases h2 : n / 4 ≤ ah ∨ 1000 < n / 4
      · rw [decG_form h0' hv h1 h2] at h; cases h
      by_cases h3 : 64 ≤ c
      · rw [decG_many h0' hv h1 h2 h3] at h; cases h
      by_cases h4 : n % 2 = 1 ∧ d = 4
      · rw [decG_deep h0' hv h1 h2 h3 h4] at h; cases h
      by_cases h5 : s2.err = 0
      · by_cases h6 : n % 2 = 1
        · have hd : d ≠ 4 := fun e => h4 ⟨h6, e⟩
          by_cases h7 : (decG m ⟨t, 0, 0, none⟩ (d + 1) 0 (c + 1)).1 = 0
          · obtain ⟨L, c', e7⟩ : ∃ L c', decG m ⟨t, 0, 0, none⟩ (d + 1) 0 (c + 1) = (0, L, c') := ⟨_, _, Prod.ext h7 rfl⟩
            obtain ⟨q1, q2⟩ := decG_count m ⟨t, 0, 0, none⟩ (d + 1) 0 (c + 1) (by omega) h7
            rw [e7] at q1 q2
            rw [decG_list h0' hv h1 h2 h3 hd ht h5 h6 e7] at h ⊢
            obtain ⟨r1, r2⟩ := decG_count m s2 d (n / 4) c' q2 h
            refine ⟨?_, r2⟩
            show _ = c + (Fo.app _ _).size
            rw [Fo.size_app]
            simp only [Fo.size]
            show (decG m s2 d (n / 4) c').2.2 = _
            rw [r1]
            simp only at q1
            omega
          · rw [decG_bad h0' hv h1 h2 h3 hd ht h5 h6 h7] at h; exact absurd h h7
        · rw [decG_item h0' hv h1 h2 h3 ht h5 (by omega)] at h ⊢
          obtain ⟨r1, r2⟩ := decG_count m s2 d (n / 4) (c + 1) (by omega) h
          refine ⟨?_, r2⟩
          show _ = c + (Fo.app _ _).size
          rw [Fo.size_app]
          simp only [Fo.size]
          show (decG m s2 d (n / 4) (c + 1)).2.2 = _
          rw [r1]
          omega
      · rw [decG_text h0' hv h1 h2 h3 h4 ht h5] at h; exact absurd h h5
    · rw [decG_var h0' hv h1] at h; exact absurd h h1
end Go.Proofs.Ytcffinkkfdfcaaa

/- tlv.must: an error is thrown. Conditions: none. -/
namespace Go.Proofs.Ytcffinkkfdfcaaa
open Go Go.RowKit

/-- An error that was thrown. -/
def thrown (e : Nat) : Ending := .panicked [{ v := .iface 32 (.int .i64 (e : Int)), recovered := false }]
set_option maxRecDepth 100000 in
theorem must_ok (e : Nat) (he : e = 0) (w : World) : Calls Try.prog 84 #[.int .i64 (e : Int)] w fun r w' => r = .returned (.tuple #[]) ∧ w' = w := by
  subst he
  go_enter Try.func84, Try.ntmps84
  go_wp2
  go_end0
  exact ⟨rfl, rfl⟩
set_option maxRecDepth 100000 in
theorem must_no (e : Nat) (he : e ≠ 0) (w : World) : Calls Try.prog 84 #[.int .i64 (e : Int)] w fun r w' => r = thrown e ∧ w' = w := by
  have h0 : ((e : Int) != 0) = true := by rw [bne_iff_ne]; omega
  unfold thrown
  go_enter Try.func84, Try.ntmps84
  clear he
  go_wp2
  exact ⟨rfl, rfl, rfl⟩
end Go.Proofs.Ytcffinkkfdfcaaa

/- The world within tlv's reading of a list of items. Conditions: none. -/
namespace Go.Proofs.Ytcffinkkfdfcaaa
open Go Go.RowKit

theorem and_two (n : Nat) : (n &&& 2 ≠ 0) = (2 ≤ n % 4) := by
  have h1 : n &&& 2 ≤ 2 := Nat.and_le_right
  have h2 : (n &&& 2) % 2 ^ 2 = (n % 2 ^ 2) &&& (2 % 2 ^ 2) := Nat.and_mod_two_pow
  have h3 : n &&& 2 = (n % 4) &&& 2 := by
    have : (n &&& 2) % 2 ^ 2 = n &&& 2 := Nat.mod_eq_of_lt (by omega)
    rw [this] at h2
    exact h2
  rw [h3]
  have h4 : n % 4 < 4 := Nat.mod_lt _ (by decide)
  generalize n % 4 = q at h4
  match q, h4 with
  | 0, _ => decide
  | 1, _ => decide
  | 2, _ => decide
  | 3, _ => decide
theorem and_one (n : Nat) : (n &&& 1 ≠ 0) = (n % 2 = 1) := by
  rw [Nat.and_one_is_mod]
  exact propext ⟨fun h => by omega, fun h => by omega⟩
theorem band2 {n : Nat} (h : U64 n) : (bits BinOp.and .u64 (n : Int) 2 != 0) = decide (2 ≤ n % 4) := by
  rw [show (2 : Int) = ((2 : Nat) : Int) from rfl, u64_and_nat n 2 h.out (by decide)]
  have := and_two n
  by_cases h0 : n &&& 2 = 0
  · rw [h0]
    have h1 : ¬ 2 ≤ n % 4 := fun hh => by rw [← this] at hh; exact hh h0
    rw [decide_eq_false h1]; rfl
  · have h1 : 2 ≤ n % 4 := by rw [← this]; exact h0
    rw [decide_eq_true h1, bne_iff_ne]
    omega
theorem band1 {n : Nat} (h : U64 n) : (bits BinOp.and .u64 (n : Int) 1 != 0) = decide (n % 2 = 1) := by
  rw [show (1 : Int) = ((1 : Nat) : Int) from rfl, u64_and_nat n 1 h.out (by decide)]
  have := and_one n
  by_cases h0 : n &&& 1 = 0
  · rw [h0]
    have h1 : ¬ n % 2 = 1 := fun hh => by rw [← this] at hh; exact hh h0
    rw [decide_eq_false h1]; rfl
  · have h1 : n % 2 = 1 := by rw [← this]; exact h0
    rw [decide_eq_true h1, bne_iff_ne]
    omega
theorem Rdr.frame {w w' : World} {r : Nat} {s : RS} (h : Rdr w r s) (h1 : w'.heap[r]? = w.heap[r]?) (h2 : ∀ a, s.gA = some a → a.block < w.heap.size → w'.heap[a.block]? = w.heap[a.block]?) (hs : w.heap.size ≤ w'.heap.size) : Rdr w' r s := by
  obtain ⟨A, c, g1, g2, g3, g4⟩ := h
  refine ⟨A, c, h1.trans g1, g2.of_blocks (fun b hb ⟨off, e⟩ => ?_) hs, g3, g4⟩
  exact h2 ⟨b, off, none⟩ (by rw [← g3.1]; exact e) hb
/-- The count of items. -/
def CntB (w : World) (bx c : Nat) : Prop := w.heap[bx]? = some (.cells #[.int .i64 (c : Int)] 117 (0, 0))
theorem CntB.set {w : World} {bx c : Nat} (h : CntB w bx c) (c' : Nat) : CntB (w.setCell ⟨bx, 0, none⟩ (.int .i64 (c' : Int))) bx c' := by
  unfold CntB at *
  rw [heap_set h]; rfl
def okD (w0 : World) (gr : Nat) (g : Option Addr) (j : Nat) : Prop := w0.heap.size ≤ j ∧ j ≠ gr ∧ ∀ a, g = some a → j ≠ a.block
structure DlS (w0 : World) (bx gr : Nat) (s : RS) (v : Value) (ds : List ItV) (P : Fo) (c0 : Nat) (w : World) : Prop where
  rd : Rdr w gr s
  out : FoP (okD w0 gr s.gA) w v ds P
  cnt : CntB w bx c0
  g : w0.grownBy w (some bx)
  lo : w0.heap.size ≤ gr
  bx : bx < w0.heap.size
  gA : ∀ a, s.gA = some a → w0.heap.size ≤ a.block ∧ a.block < w.heap.size
section
variable {w0 w w' : World} {bx gr c0 : Nat} {s s' : RS} {v v' : Value} {ds : List ItV} {P : Fo}
/-- What turns no old block but the count's. -/
theorem DlS.step (h : DlS w0 bx gr s v ds P c0 w) (hg : w.grownBy w' (some bx)) {c1 : Nat} (hc : CntB w' bx c1) : DlS w0 bx gr s v ds P c1 w' := by
  have hb := h.bx
  have hne : ∀ j, w0.heap.size ≤ j → j < w.heap.size → w'.heap[j]? = w.heap[j]? := fun j hj hl => hg.block j hl (fun e => by injection e with e; omega)
  exact ⟨h.rd.frame (hne gr h.lo h.rd.lt) (fun a e hl => hne _ (h.gA a e).1 hl) hg.size, h.out.frame (fun j hj hl => hne j hj.1 hl), hc, only_trans h.g hg, h.lo, h.bx, fun a e => ⟨(h.gA a e).1, Nat.lt_of_lt_of_le (h.gA a e).2 hg.size⟩⟩
theorem DlS.below (h : DlS w0 bx gr s v ds P c0 w) (hb : Below w.heap.size w w') : DlS w0 bx gr s v ds P c0 w' :=
  h.step (grownBy_of_below hb _) ((hb.block bx (heap_lt h.cnt)).trans h.cnt)
theorem DlS.drewN (h : DlS w0 bx gr s v ds P c0 w) (q : Nat) : DlS w0 bx gr s v ds P c0 (w.drewN q) := h.below (below_drewN (Below.refl _ _) q)
/-- The reader reads on. -/
theorem DlS.read (h : DlS w0 bx gr s v ds P c0 w) (hr : Rdr w' gr s') (hA : s'.gA = s.gA) (hg : w.grownBy w' (some gr)) : DlS w0 bx gr s' v ds P c0 w' := by
  have hb := h.bx
  have hl := h.lo
  refine ⟨hr, ?_, (hg.block bx (heap_lt h.cnt) (fun e => by injection e with e; omega)).trans h.cnt, ?_, h.lo, h.bx, fun a e => ?_⟩
  · rw [hA]
    exact h.out.frame (fun j hj hl => hg.block j hl (fun e => by injection e with e; exact hj.2.1 e))
  · refine ⟨hg.os.trans h.g.os, hg.tape.trans h.g.tape, hg.output.trans h.g.output, Nat.le_trans h.g.size hg.size, fun k hk hne => ?_⟩
    exact (hg.block k (Nat.lt_of_lt_of_le hk h.g.size) (fun e => by injection e with e; omega)).trans (h.g.block k hk hne)
  · rw [hA] at e
    exact ⟨(h.gA a e).1, Nat.lt_of_lt_of_le (h.gA a e).2 hg.size⟩
theorem DlS.more (h : DlS w0 bx gr s v ds P c0 w) {d : ItV} {R : Fo} (hd : ItsO (fun j => okD w0 gr s.gA j ∧ v.ownBlock ≠ some j) w [d] R) (ho : OwnI w' 0 v' (ds ++ [d])) (hg : w.grownBy w' v.ownBlock) (hv : v'.ownBlock = v.ownBlock ∨ v'.ownBlock = some w.heap.size) :
    DlS w0 bx gr s v' (ds ++ [d]) (P.app R) c0 w' := by
  have hb := h.bx
  have hz := h.g.size
  have hlt := h.rd.lt
  have hne : ∀ j, j < w.heap.size → ¬ okD w0 gr s.gA j → w'.heap[j]? = w.heap[j]? := fun j hl hn => hg.block j hl (fun e => hn (h.out.ok_ j e.symm))
  refine ⟨h.rd.frame (hne gr hlt (fun hh => hh.2.1 rfl)) (fun a e hl => hne _ hl (fun hh => hh.2.2 a e rfl)) hg.size, h.out.more hd ho hg hv ⟨hz, by omega, fun a e => ?_⟩, ?_, ?_, h.lo, h.bx, fun a e => ⟨(h.gA a e).1, Nat.lt_of_lt_of_le (h.gA a e).2 hg.size⟩⟩
  · have := (h.gA a e).2; omega
  · exact (hne bx (heap_lt h.cnt) (fun hh => by have := hh.1; omega)).trans h.cnt
  · refine ⟨hg.os.trans h.g.os, hg.tape.trans h.g.tape, hg.output.trans h.g.output, Nat.le_trans h.g.size hg.size, fun k hk hne' => ?_⟩
    exact (hne k (Nat.lt_of_lt_of_le hk h.g.size) (fun hh => by have := hh.1; omega)).trans (h.g.block k hk hne')
end
/-- From a world behind, where only the reader, the count and newer blocks have turned. -/
theorem DlS.jump {w0 w w' : World} {bx gr c0 c1 : Nat} {s s' : RS} {v : Value} {ds : List ItV} {P : Fo} (h : DlS w0 bx gr s v ds P c0 w) (hk : Keeps (fun j => j = gr ∨ j = bx ∨ w.heap.size ≤ j) w w') (hr : Rdr w' gr s') (hA : s'.gA = s.gA) (hc : CntB w' bx c1) : DlS w0 bx gr s' v ds P c1 w' := by
  have hb := h.bx
  have hl := h.lo
  have hz := h.g.size
  refine ⟨hr, ?_, hc, ⟨hk.os.trans h.g.os, hk.tape.trans h.g.tape, hk.output.trans h.g.output, Nat.le_trans hz hk.size, fun k hk' hne => ?_⟩, h.lo, h.bx, fun a e => ?_⟩
  · rw [hA]
    exact h.out.frame (fun j hj hl => hk.block j hl (fun e => by
      have h1 := hj.1
      have h2 := hj.2.1
      omega))
  · exact (hk.block k (Nat.lt_of_lt_of_le hk' hz) (fun e => by
      have : k ≠ bx := fun e => hne (by rw [e])
      omega)).trans (h.g.block k hk' hne)
  · rw [hA] at e
    exact ⟨(h.gA a e).1, Nat.lt_of_lt_of_le (h.gA a e).2 hk.size⟩
/-- What the reading of a list ends with. -/
def DlP (w : World) (bx : Nat) (R : Nat × Fo × Nat) (r : Ending) (w' : World) : Prop :=
  (R.1 = 0 → ∃ v, r = .returned v ∧ FoO (w.heap.size ≤ ·) w' v R.2.1 ∧ CntB w' bx R.2.2) ∧ (R.1 ≠ 0 → r = thrown R.1) ∧ w.grownBy w' (some bx)
theorem DlP.bad {w w' : World} {bx : Nat} {R : Nat × Fo × Nat} {e : Nat} (hR : R.1 = e) (he : e ≠ 0) (hg : w.grownBy w' (some bx)) : DlP w bx R (thrown e) w' :=
  ⟨fun h => absurd (hR.symm.trans h) he, fun _ => by rw [hR], hg⟩
end Go.Proofs.Ytcffinkkfdfcaaa
