/- Parts one behind the other: What next of a walk over fields does; What bytes, one, four and number of a walk over fields do; What one, four and number of a walk over fields answer; What known and open make: a walk over the items of the kinds 1 to K. Conditions: as told at each. -/
import Derived.Test.YtcffinkkfdfcaaaPB13
import Derived.Test.YtcffinkkfdfcaaaPB11
import Derived.Test.YtcffinkkfdfcaaaPB10

set_option linter.unusedVariables false
set_option linter.unusedSimpArgs false
/- What next of a walk over fields does. Conditions: a list that can be read, apart from the walk's own block. -/
namespace Go.Proofs.Ytcffinkkfdfcaaa
open Go Go.RowKit

/-- An item in a block, its texts in others. -/
def Mid5 (w2 : World) (I : Fo) (d : ItV) (gx : Nat) (wx : World) : Prop := w2.heap.size ≤ gx ∧ wx.heap[gx]? = some (.cells d.cells.toArray 76 (0, 0)) ∧ ItsO (w2.heap.size ≤ ·) wx [d] I ∧ Below w2.heap.size w2 wx
theorem keep01_set {g q : Nat} {u v : Value} {a : World} (hg : g ≠ q) (h : a.cell? ⟨g, 0, none⟩ = some u ∧ a.cell? ⟨g, 1, none⟩ = some v) (v0 v1 v2 v3 v4 : Value) :
    (((((a.setCell ⟨q, 0, none⟩ v0).setCell ⟨q, 1, none⟩ v1).setCell ⟨q, 2, none⟩ v2).setCell ⟨q, 3, none⟩ v3).setCell ⟨q, 4, none⟩ v4).cell? ⟨g, 0, none⟩ = some u ∧ (((((a.setCell ⟨q, 0, none⟩ v0).setCell ⟨q, 1, none⟩ v1).setCell ⟨q, 2, none⟩ v2).setCell ⟨q, 3, none⟩ v3).setCell ⟨q, 4, none⟩ v4).cell? ⟨g, 1, none⟩ = some v := by
  have k := fun (i : Nat) => World.cell?_of_block (w := a) (w' := ((((a.setCell ⟨q, 0, none⟩ v0).setCell ⟨q, 1, none⟩ v1).setCell ⟨q, 2, none⟩ v2).setCell ⟨q, 3, none⟩ v3).setCell ⟨q, 4, none⟩ v4) (a := ⟨g, i, none⟩) (by
    show _ = a.heap[g]?
    rw [heap_far _ hg, heap_far _ hg, heap_far _ hg, heap_far _ hg, heap_far _ hg])
  exact ⟨(k 0).trans h.1, (k 1).trans h.2⟩
theorem five_zer {w : World} {g : Nat} {t : TypeId} (h : w.heap[g]? = some (.cells ItV.zer.cells.toArray t (0, 0))) :
    (w.cell? ⟨g, 0, none⟩ = some (.int .i64 0) ∧ w.cell? ⟨g, 1, none⟩ = some (.bool false) ∧ w.cell? ⟨g, 2, none⟩ = some (.bool false) ∧ w.cell? ⟨g, 3, none⟩ = some (.slice none 0 0) ∧ w.cell? ⟨g, 4, none⟩ = some (.slice none 0 0)) ∧
    (w.frozen? ⟨g, 0, none⟩ = false ∧ w.frozen? ⟨g, 1, none⟩ = false ∧ w.frozen? ⟨g, 2, none⟩ = false ∧ w.frozen? ⟨g, 3, none⟩ = false ∧ w.frozen? ⟨g, 4, none⟩ = false) := five_of (d := ItV.zer) h
theorem mid_alloc {w2 w3 : World} {I : Fo} {d : ItV} (ho : ItsO (w2.heap.size ≤ ·) w3 [d] I) (hb : Below w2.heap.size w2 w3) : Mid5 w2 I d w3.heap.size (w3.alloc (.cells d.cells.toArray 76)) :=
  ⟨hb.size, heap_alloc_new _ _, ho.frame (fun j _ hl => Below.heap_alloc w3 _ j hl), hb.alloc hb.size _⟩
theorem mid_set {w2 w3 : World} {I : Fo} {d : ItV} (ho : ItsO (w2.heap.size + 1 ≤ ·) w3 [d] I) (hb : Below (w2.heap.size + 1) (w2.alloc (.cells #[.int .i64 0, .bool false, .bool false, .slice none 0 0, .slice none 0 0] 76)) w3) : Mid5 w2 I d w2.heap.size (set5 w3 w2.heap.size d) := by
  have h0 := (hb.block w2.heap.size (Nat.lt_succ_self _)).trans (heap_alloc_new w2 (.cells #[.int .i64 0, .bool false, .bool false, .slice none 0 0, .slice none 0 0] 76))
  have k := set5_keeps w3 w2.heap.size d
  have b2 : Below w2.heap.size w2 w3 := ((Below.refl _ _).alloc (Nat.le_refl _) _).trans (hb.mono (Nat.le_succ _))
  refine ⟨Nat.le_refl _, set5_heap h0 d, (ho.frame (fun j hj hl => k.block j hl (by have : w2.heap.size + 1 ≤ j := hj; omega))).weak (fun j hj _ => by have : w2.heap.size + 1 ≤ j := hj; show w2.heap.size ≤ j; omega), b2.trans (k.below (fun j hj => ⟨Nat.lt_of_lt_of_le hj b2.size, by omega⟩))⟩
theorem Keeps.over {S : Nat → Prop} {w a b : World} (h : Keeps S w a) (k : Keeps (fun j => w.heap.size ≤ j) a b) : Keeps S w b :=
  ⟨k.os.trans h.os, k.tape.trans h.tape, k.output.trans h.output, Nat.le_trans h.size k.size, fun j hj hs => (k.block j (Nat.lt_of_lt_of_le hj h.size) (by omega)).trans (h.block j hj hs)⟩
set_option maxRecDepth 100000 in
set_option maxHeartbeats 4000000 in
theorem next_c (p : Nat) (A : Option Addr) (n c : Nat) (s : FS) (must : Bool) (w : World) (h : Flds w p A n c s) (ha : s.at_ ≤ 100) :
    Calls Try.prog 72 #[.pointer (some ⟨p, 0, none⟩), .bool must] w fun r w' => ∃ d : ItV, r = .returned (.tuple #[d.val, .bool (nxB s)]) ∧ ItsO (w.heap.size ≤ ·) w' [d] (nxI s) ∧ Flds w' p A n c (nxS s must) ∧ Keeps (fun j => j = p) w w' := by
  obtain ⟨w1, ew1⟩ : ∃ w1, w1 = w.alloc (.cells #[.int .i64 0, .bool false, .bool false, .slice none 0 0, .slice none 0 0] 76) := ⟨_, rfl⟩
  obtain ⟨gr, egr⟩ : ∃ gr, gr = w.heap.size := ⟨_, rfl⟩
  have hpg : p < gr := by rw [egr]; exact h.lt
  have b1 : Below w.heap.size w w1 := by rw [ew1]; exact (Below.refl _ _).alloc (Nat.le_refl _) _
  have g1 : w1.heap[gr]? = some (.cells ItV.zer.cells.toArray 76 (0, 0)) := by rw [ew1, egr]; exact heap_alloc_new _ _
  have F1 := h.below b1
  obtain ⟨w2, ew2⟩ : ∃ w2, w2 = w1.setCell ⟨p, 1, none⟩ (.int .i64 ((s.at_ : Int) + 1)) := ⟨_, rfl⟩
  have k2 : Keeps (fun j => j = p) w1 w2 := by rw [ew2]; exact Keeps.set _ w1 ⟨p, 1, none⟩ _ rfl
  have HF2 : Hid (Flds w2 p A n c ⟨s.l, s.at_ + 1, s.err⟩) := Lib.hid (F1.next k2 rfl (by show s.at_ + 1 ≤ 1000; omega) (by rw [ew2]; exact heap_set F1.blk 1 _))
  have HG2 : Hid (w2.heap[gr]? = some (.cells ItV.zer.cells.toArray 76 (0, 0))) := Lib.hid ((k2.block gr (heap_lt g1) (by omega)).trans g1)
  have HK2 : Hid (Keeps (fun j => j = p) w w2) := Lib.hid ((Keeps.of_below b1 _ (fun k hk _ => hk)).trans k2)
  obtain ⟨⟨c0, c1, c2⟩, f0, f1, f2⟩ := three_of F1.blk
  have EW1 := Lib.hid ew1
  have EGR := Lib.hid egr
  have EW2 := Lib.hid ew2
  have HAT : Hid (s.at_ + 1 ≤ 1000) := Lib.hid (by omega)
  have H := Lib.hid h
  obtain ⟨B, hB⟩ : ∃ B, nxB s = B := ⟨_, rfl⟩
  obtain ⟨I, hI⟩ : ∃ I, nxI s = I := ⟨_, rfl⟩
  obtain ⟨S', hS⟩ : ∃ S', nxS s must = S' := ⟨_, rfl⟩
  rw [hB, hI, hS]
  have HBB := Lib.hid hB
  have HII := Lib.hid hI
  have HSS := Lib.hid hS
  clear ew1 ew2 egr b1 g1 F1 k2 h hB hI hS
  go_enter Try.func72, Try.ntmps72
  go_upto_region 1 with (fail)
  rw [← EW1.out, ← EGR.out]
  go_upto_region 2 with (fail)
  rw [← EW2.out]
  clear c0 c1 c2 f0 f1 f2
  obtain ⟨⟨c0, c1, c2⟩, f0, f1, f2⟩ := three_of HF2.out.blk
  obtain ⟨x, ex⟩ : ∃ x : Int, x = ((s.at_ + 1 : Nat) : Int) := ⟨_, rfl⟩
  dsimp only at c0 c1 c2
  rw [← ex] at c1
  have EX := Lib.hid ex
  clear ex
  by_cases h0 : s.err = 0
  · have e0 : (((s.err : Nat) : Int) != 0) = false := by rw [h0]; rfl
    have eI : I = getI x s.l := by rw [← HII.out, EX.out]; exact if_pos h0
    have eB : B = hasI x s.l := by rw [← HBB.out, EX.out]; exact if_pos h0
    have eS : S' = ⟨s.l, s.at_ + 1, if B = false ∧ must = true then 12 else s.err⟩ := by rw [← HSS.out, ← HBB.out]; simp [nxS, h0]
    have EB := Lib.hid eB
    have EI := Lib.hid eI
    have ES := Lib.hid eS
    clear eB eI eS h0 HBB HII HSS
    go_upto_region 4 with (fail)
    have hgw : gr ≤ w2.heap.size := Nat.le_of_lt (heap_lt HG2.out)
    have B1 : Hid (Below gr w2 (w2.alloc (.cells #[.int .i64 0, .bool false, .bool false, .slice none 0 0, .slice none 0 0] 76))) := Lib.hid ((Below.refl _ _).alloc hgw _)
    have HSZ : Hid ((w2.alloc (.cells #[.int .i64 0, .bool false, .bool false, .slice none 0 0, .slice none 0 0] 76)).heap.size = w2.heap.size + 1) := Lib.hid (by simp)
    have HNW : Hid ((w2.alloc (.cells #[.int .i64 0, .bool false, .bool false, .slice none 0 0, .slice none 0 0] 76)).heap[w2.heap.size]? = some (.cells ItV.zer.cells.toArray 76 (0, 0))) := Lib.hid (heap_alloc_new w2 _)
    have HFA : Hid (FoR (fun j => j ≠ p) (w2.alloc (.cells #[.int .i64 0, .bool false, .bool false, .slice none 0 0, .slice none 0 0] 76)) A 0 s.l) := Lib.hid (HF2.out.fo.below ((Below.refl _ _).alloc (Nat.le_refl _) _))
    have HC0 : Hid (w2.drew.cell? ⟨p, 0, none⟩ = some (.slice A n c) ∧ w2.drew.cell? ⟨p, 1, none⟩ = some (.int .i64 x)) := Lib.hid ⟨c0, c1⟩
    have HC1 : Hid ((w2.alloc (.cells #[.int .i64 0, .bool false, .bool false, .slice none 0 0, .slice none 0 0] 76)).drew.cell? ⟨p, 0, none⟩ = some (.slice A n c) ∧ (w2.alloc (.cells #[.int .i64 0, .bool false, .bool false, .slice none 0 0, .slice none 0 0] 76)).drew.cell? ⟨p, 1, none⟩ = some (.int .i64 x)) := Lib.hid (keep01 hpg ⟨c0, c1⟩ (below_drewN B1.out 1))
    have hpw2 : Hid (p ≠ w2.heap.size) := Lib.hid (by omega)
    go_cut [6, 7] (fun s6 s7 wx => ∃ gx d, s6 = .pointer (some ⟨gx, 0, none⟩) ∧ s7 = .bool B ∧ Hid (Mid5 w2 I d gx wx))
    case first =>
      go_region_held3 (fun w' => w'.cell? ⟨p, 0, none⟩ = some (.slice A n c) ∧ w'.cell? ⟨p, 1, none⟩ = some (.int .i64 x)) (first | (with_reducible exact keep01_set hpw2.out (by assumption) _ _ _ _ _) | (with_reducible exact HC0.out) | (with_reducible exact HC1.out) | (with_reducible assumption) | (with_reducible exact keep01 hpg ⟨c0, c1⟩ (below_drewN B1.out 1)) | (with_reducible exact keep01 hpg ⟨c0, c1⟩ B1.out) | (with_reducible exact keep01 hpg (by assumption) (by assumption)) | (with_reducible exact keep01 hpg (by assumption) ((Below.refl _ _).alloc (by assumption) _)) | (with_reducible exact keep01 hpg HC0.out (Below.alloc (by assumption) (by assumption) _))) (first
        | (go_at_call 88; (with_reducible refine (Get_c s.l (fun j => j ≠ p) A n c x _ HF2.out.len ?_ HF2.out.sz).mono ?_); (first | exact HF2.out.fo | exact HF2.out.fo.drewN 1); rintro _ w3 ⟨⟨dk, dc, dl, dA, dn, dcc, dAs, dns, dcs⟩, rfl, ho3, hb3⟩; unfold ItV.val; dsimp only; rw [← EB.out]; rw [← EI.out] at ho3; have hk3 : Below gr _ w3 := hb3.mono hgw; have s3 : gr ≤ w3.heap.size := Nat.le_trans hgw hb3.size; have hb3 : Hid (Below w2.heap.size w2 w3) := Lib.hid ((below_drewN (Below.refl _ _) 1).trans hb3); have ho3 : Hid (ItsO (w2.heap.size ≤ ·) w3 [⟨dk, dc, dl, dA, dn, dcc, dAs, dns, dcs⟩] I) := Lib.hid ho3)
        | (go_at_call 88; (with_reducible refine (Get_c s.l (fun j => j ≠ p) A n c x _ HF2.out.len ?_ HF2.out.sz).mono ?_); (exact HFA.out.drewN 1); rintro _ w3 ⟨⟨dk, dc, dl, dA, dn, dcc, dAs, dns, dcs⟩, rfl, ho3, hb3⟩; unfold ItV.val; dsimp only; rw [← EB.out]; rw [← EI.out] at ho3; have hb4 : Below (w2.heap.size + 1) _ w3 := (by rw [← HSZ.out]; exact hb3); have ho4 : ItsO (w2.heap.size + 1 ≤ ·) w3 [⟨dk, dc, dl, dA, dn, dcc, dAs, dns, dcs⟩] I := (by rw [← HSZ.out]; exact ho3); obtain ⟨⟨s0, s1, s2, s3, s4⟩, z0, z1, z2, z3, z4⟩ := five_zer ((hb4.block w2.heap.size (Nat.lt_succ_self _)).trans HNW.out); have hk3 : Below gr _ w3 := hb4.mono (Nat.le_succ_of_le hgw); have s3 : gr ≤ w3.heap.size := Nat.le_trans (Nat.le_succ_of_le hgw) (by have := hb4.size; rw [show ((w2.alloc (.cells #[.int .i64 0, .bool false, .bool false, .slice none 0 0, .slice none 0 0] 76)).drew).heap.size = w2.heap.size + 1 from HSZ.out] at this; exact this); have hb5 : Hid (Below (w2.heap.size + 1) (w2.alloc (.cells #[.int .i64 0, .bool false, .bool false, .slice none 0 0, .slice none 0 0] 76)) w3) := Lib.hid ((below_drewN (Below.refl _ _) 1).trans hb4); have ho5 := Lib.hid ho4; clear ho3 hb3 ho4 hb4))
      · go_wp2_with (fail)
        go_meet
        exact ⟨_, ⟨dk, dc, dl, dA, dn, dcc, dAs, dns, dcs⟩, rfl, rfl, Lib.hid (mid_alloc ho3.out hb3.out)⟩
      · go_wp2_with (fail)
        go_meet
        exact ⟨_, ⟨dk, dc, dl, dA, dn, dcc, dAs, dns, dcs⟩, rfl, rfl, Lib.hid (mid_set ho5.out hb5.out)⟩
    case rest =>
    clear c0 c1 c2 f0 f1 f2 B1 hgw
    obtain ⟨w4, ew4⟩ : ∃ x, x = wc := ⟨_, rfl⟩
    rw [← ew4] at hcut ⊢
    obtain ⟨gx, ⟨dk, dc, dl, dA, dn, dcc, dAs, dns, dcs⟩, rfl, rfl, HM⟩ := hcut
    clear ew4
    obtain ⟨hgl, hx4, ho4, hb24⟩ := HM.out
    obtain ⟨d, ed⟩ : ∃ d : ItV, d = ⟨dk, dc, dl, dA, dn, dcc, dAs, dns, dcs⟩ := ⟨_, rfl⟩
    rw [← ed] at ho4
    have hgw : gr < w2.heap.size := heap_lt HG2.out
    have hz4 : w2.heap.size ≤ w4.heap.size := hb24.size
    have hg4 : w4.heap[gr]? = some (.cells ItV.zer.cells.toArray 76 (0, 0)) := (hb24.block gr hgw).trans HG2.out
    have hp4 := (hb24.block p (by omega)).trans HF2.out.blk
    dsimp only at hp4
    rw [← EX.out] at hp4
    have hk4 : Keeps (fun j => j = p) w w4 := HK2.out.trans (Keeps.of_below hb24 _ (fun k hk _ => hk))
    have HWZ : Hid (w.heap.size = gr) := Lib.hid EGR.out.symm
    have HGX : Hid (gr < gx ∧ p < gx) := Lib.hid (by omega)
    have HX4 := Lib.hid hx4
    have HG4 := Lib.hid hg4
    have HP4 := Lib.hid hp4
    have HK4 := Lib.hid hk4
    have HO4 := Lib.hid ho4
    have HW2 : Hid (gr < w2.heap.size) := Lib.hid hgw
    have HZ4 : Hid (w2.heap.size ≤ w4.heap.size) := Lib.hid hz4
    have ED := Lib.hid ed
    clear ed hgl hgw hz4 hx4 hb24 hg4 hp4 hk4 ho4 HM HC0 HC1 hpw2 HSZ HNW HFA
    cases B with
    | true =>
      obtain ⟨w5, ew5⟩ : ∃ w5, w5 = w4 := ⟨_, rfl⟩
      rw [← ew5] at HX4 HG4 HP4 HK4 HO4 ⊢
      have HX5 := HX4
      have HG5 := HG4
      have HP5 := HP4
      have HK5 := HK4
      have HO5 := HO4
      clear HX4 HG4 HP4 HK4 HO4 ew5
      obtain ⟨w8, ew8⟩ : ∃ w8, w8 = set5 w5 gr d := ⟨_, rfl⟩
      have h8 : w8.heap[gr]? = some (.cells d.cells.toArray 76 (0, 0)) := by rw [ew8]; exact set5_heap HG5.out _
      have k8 : Keeps (fun j => j = gr) w5 w8 := by rw [ew8]; exact set5_keeps w5 gr d
      have hk8 : Keeps (fun j => j = p) w w8 := HK5.out.over (k8.mono (fun j hj => by have := HWZ.out; omega))
      have hp8 := (k8.block p (by have := heap_lt HP5.out; exact this) (by omega)).trans HP5.out
      have hf8 : Flds w8 p A n c ⟨s.l, s.at_ + 1, s.err⟩ := H.out.next hk8 rfl HAT.out (by rw [hp8, EX.out] <;> rfl)
      have ho8 : ItsO (w.heap.size ≤ ·) w8 [d] I := (HO5.out.frame (w' := w8) (fun j hj hl => k8.block j hl (by have : w2.heap.size ≤ j := hj; have := HW2.out; omega))).weak (fun j hj _ => by have : w2.heap.size ≤ j := hj; have := HW2.out; have := HWZ.out; show w.heap.size ≤ j; omega)
      have HF8 := Lib.hid hf8
      have HK8 := Lib.hid hk8
      have HO8 := Lib.hid ho8
      obtain ⟨⟨v0, v1, v2, v3, v4⟩, -⟩ := five_of h8
      obtain ⟨⟨s0, s1, s2, s3, s4⟩, z0, z1, z2, z3, z4⟩ := five_of HG5.out
      obtain ⟨⟨x0, x1, x2, x3, x4⟩, -⟩ := five_of HX5.out
      rw [ED.out] at ew8 v0 v1 v2 v3 v4
      unfold set5 at ew8
      unfold ItV.zer at s0 s1 s2 s3 s4
      dsimp only at s0 s1 s2 s3 s4 ew8 v0 v1 v2 v3 v4 x0 x1 x2 x3 x4
      have EW8 := Lib.hid ew8
      have HNE : Hid (gx ≠ gr ∧ gx ≠ p) := Lib.hid (by have := HGX.out; omega)
      clear ew8 h8 k8 hk8 hp8 hf8 ho8
      go_wp2_with (fail)
      rw [← EW8.out]
      refine bodyPost_ret (v := .tuple #[.agg #[.int .i64 dk, .bool dc, .bool dl, .slice dA dn dcc, .slice dAs dns dcs], .bool true]) (by simp [results, Try.results72, go_sem, v0, v1, v2, v3, v4]) rfl ?_
      rw [ES.out, if_neg (by simp)]
      exact ⟨d, by rw [ED.out]; rfl, HO8.out, HF8.out, HK8.out⟩
    | false =>
      cases must with
      | true =>
        obtain ⟨⟨c0, c1, c2⟩, f0, f1, f2⟩ := three_of HP4.out
        obtain ⟨w5, ew5⟩ : ∃ w5, w5 = w4.setCell ⟨p, 2, none⟩ (.int .i64 12) := ⟨_, rfl⟩
        have k5 : Keeps (fun j => j = p) w4 w5 := by rw [ew5]; exact Keeps.set _ w4 ⟨p, 2, none⟩ _ rfl
        have HX5 := Lib.hid ((k5.block gx (heap_lt HX4.out) (by have := HGX.out; omega)).trans HX4.out)
        have HG5 := Lib.hid ((k5.block gr (heap_lt HG4.out) (by omega)).trans HG4.out)
        have HP5 : Hid (w5.heap[p]? = some (.cells #[.slice A n c, .int .i64 x, .int .i64 12] 103 (0, 0))) := Lib.hid (by rw [ew5]; exact heap_set HP4.out 2 _)
        have HK5 := Lib.hid (HK4.out.trans k5)
        have HO5 := Lib.hid (HO4.out.frame (w' := w5) (fun j hj hl => k5.block j hl (by have : w2.heap.size ≤ j := hj; have := HW2.out; omega)))
        have EW5 := Lib.hid ew5
        clear HX4 HG4 HP4 HK4 HO4 ew5 k5
        go_upto_region 7 with (fail)
        rw [← EW5.out]
        clear c0 c1 c2 f0 f1 f2
        obtain ⟨w8, ew8⟩ : ∃ w8, w8 = set5 w5 gr d := ⟨_, rfl⟩
        have h8 : w8.heap[gr]? = some (.cells d.cells.toArray 76 (0, 0)) := by rw [ew8]; exact set5_heap HG5.out _
        have k8 : Keeps (fun j => j = gr) w5 w8 := by rw [ew8]; exact set5_keeps w5 gr d
        have hk8 : Keeps (fun j => j = p) w w8 := HK5.out.over (k8.mono (fun j hj => by have := HWZ.out; omega))
        have hp8 := (k8.block p (by have := heap_lt HP5.out; exact this) (by omega)).trans HP5.out
        have hf8 : Flds w8 p A n c ⟨s.l, s.at_ + 1, 12⟩ := H.out.next hk8 rfl HAT.out (by rw [hp8, EX.out] <;> rfl)
        have ho8 : ItsO (w.heap.size ≤ ·) w8 [d] I := (HO5.out.frame (w' := w8) (fun j hj hl => k8.block j hl (by have : w2.heap.size ≤ j := hj; have := HW2.out; omega))).weak (fun j hj _ => by have : w2.heap.size ≤ j := hj; have := HW2.out; have := HWZ.out; show w.heap.size ≤ j; omega)
        have HF8 := Lib.hid hf8
        have HK8 := Lib.hid hk8
        have HO8 := Lib.hid ho8
        obtain ⟨⟨v0, v1, v2, v3, v4⟩, -⟩ := five_of h8
        obtain ⟨⟨s0, s1, s2, s3, s4⟩, z0, z1, z2, z3, z4⟩ := five_of HG5.out
        obtain ⟨⟨x0, x1, x2, x3, x4⟩, -⟩ := five_of HX5.out
        rw [ED.out] at ew8 v0 v1 v2 v3 v4
        unfold set5 at ew8
        unfold ItV.zer at s0 s1 s2 s3 s4
        dsimp only at s0 s1 s2 s3 s4 ew8 v0 v1 v2 v3 v4 x0 x1 x2 x3 x4
        have EW8 := Lib.hid ew8
        have HNE : Hid (gx ≠ gr ∧ gx ≠ p) := Lib.hid (by have := HGX.out; omega)
        clear ew8 h8 k8 hk8 hp8 hf8 ho8
        go_wp2_with (fail)
        rw [← EW8.out]
        refine bodyPost_ret (v := .tuple #[.agg #[.int .i64 dk, .bool dc, .bool dl, .slice dA dn dcc, .slice dAs dns dcs], .bool false]) (by simp [results, Try.results72, go_sem, v0, v1, v2, v3, v4]) rfl ?_
        rw [ES.out, if_pos (by simp)]
        exact ⟨d, by rw [ED.out]; rfl, HO8.out, HF8.out, HK8.out⟩
      | false =>
        obtain ⟨w5, ew5⟩ : ∃ w5, w5 = w4 := ⟨_, rfl⟩
        rw [← ew5] at HX4 HG4 HP4 HK4 HO4 ⊢
        have HX5 := HX4
        have HG5 := HG4
        have HP5 := HP4
        have HK5 := HK4
        have HO5 := HO4
        clear HX4 HG4 HP4 HK4 HO4 ew5
        obtain ⟨w8, ew8⟩ : ∃ w8, w8 = set5 w5 gr d := ⟨_, rfl⟩
        have h8 : w8.heap[gr]? = some (.cells d.cells.toArray 76 (0, 0)) := by rw [ew8]; exact set5_heap HG5.out _
        have k8 : Keeps (fun j => j = gr) w5 w8 := by rw [ew8]; exact set5_keeps w5 gr d
        have hk8 : Keeps (fun j => j = p) w w8 := HK5.out.over (k8.mono (fun j hj => by have := HWZ.out; omega))
        have hp8 := (k8.block p (by have := heap_lt HP5.out; exact this) (by omega)).trans HP5.out
        have hf8 : Flds w8 p A n c ⟨s.l, s.at_ + 1, s.err⟩ := H.out.next hk8 rfl HAT.out (by rw [hp8, EX.out] <;> rfl)
        have ho8 : ItsO (w.heap.size ≤ ·) w8 [d] I := (HO5.out.frame (w' := w8) (fun j hj hl => k8.block j hl (by have : w2.heap.size ≤ j := hj; have := HW2.out; omega))).weak (fun j hj _ => by have : w2.heap.size ≤ j := hj; have := HW2.out; have := HWZ.out; show w.heap.size ≤ j; omega)
        have HF8 := Lib.hid hf8
        have HK8 := Lib.hid hk8
        have HO8 := Lib.hid ho8
        obtain ⟨⟨v0, v1, v2, v3, v4⟩, -⟩ := five_of h8
        obtain ⟨⟨s0, s1, s2, s3, s4⟩, z0, z1, z2, z3, z4⟩ := five_of HG5.out
        obtain ⟨⟨x0, x1, x2, x3, x4⟩, -⟩ := five_of HX5.out
        rw [ED.out] at ew8 v0 v1 v2 v3 v4
        unfold set5 at ew8
        unfold ItV.zer at s0 s1 s2 s3 s4
        dsimp only at s0 s1 s2 s3 s4 ew8 v0 v1 v2 v3 v4 x0 x1 x2 x3 x4
        have EW8 := Lib.hid ew8
        have HNE : Hid (gx ≠ gr ∧ gx ≠ p) := Lib.hid (by have := HGX.out; omega)
        clear ew8 h8 k8 hk8 hp8 hf8 ho8
        go_wp2_with (fail)
        rw [← EW8.out]
        refine bodyPost_ret (v := .tuple #[.agg #[.int .i64 dk, .bool dc, .bool dl, .slice dA dn dcc, .slice dAs dns dcs], .bool false]) (by simp [results, Try.results72, go_sem, v0, v1, v2, v3, v4]) rfl ?_
        rw [ES.out, if_neg (by simp)]
        exact ⟨d, by rw [ED.out]; rfl, HO8.out, HF8.out, HK8.out⟩
  · have e0 : (((s.err : Nat) : Int) != 0) = true := by rw [bne_iff_ne]; omega
    have eI : I = zerI := HII.out.symm.trans (if_neg h0)
    have eB : B = false := HBB.out.symm.trans (if_neg h0)
    have eS : S' = ⟨s.l, s.at_ + 1, s.err⟩ := by rw [← HSS.out]; simp [nxS, h0]
    have EB := Lib.hid eB
    have EI := Lib.hid eI
    have ES := Lib.hid eS
    clear eI eB eS h0 HBB HII HSS
    obtain ⟨⟨s0, s1, s2, s3, s4⟩, z0, z1, z2, z3, z4⟩ := five_of HG2.out
    obtain ⟨w8, ew8⟩ : ∃ w8, w8 = set5 w2 gr ItV.zer := ⟨_, rfl⟩
    have h8 : w8.heap[gr]? = some (.cells ItV.zer.cells.toArray 76 (0, 0)) := by rw [ew8]; exact set5_heap HG2.out _
    have k8 : Keeps (fun j => j = gr) w2 w8 := by rw [ew8]; exact set5_keeps w2 gr ItV.zer
    have hk8 : Keeps (fun j => j = p) w w8 := HK2.out.over (k8.mono (fun j hj => by have := EGR.out; omega))
    have hp8 := (k8.block p (by have := heap_lt HF2.out.blk; exact this) (by omega)).trans HF2.out.blk
    have HF8 : Hid (Flds w8 p A n c ⟨s.l, s.at_ + 1, s.err⟩) := Lib.hid (H.out.next hk8 rfl HAT.out (by rw [hp8]))
    have HK8 := Lib.hid hk8
    obtain ⟨⟨v0, v1, v2, v3, v4⟩, -⟩ := five_of h8
    unfold set5 at ew8
    unfold ItV.zer at s0 s1 s2 s3 s4 ew8 v0 v1 v2 v3 v4
    dsimp only at s0 s1 s2 s3 s4 ew8 v0 v1 v2 v3 v4
    have EW8 := Lib.hid ew8
    clear ew8 h8 k8 hk8 hp8
    go_wp2_with (fail)
    rw [← EW8.out]
    refine bodyPost_ret (v := .tuple #[.agg #[.int .i64 0, .bool false, .bool false, .slice none 0 0, .slice none 0 0], .bool false]) (by simp [results, Try.results72, go_sem, v0, v1, v2, v3, v4]) rfl ?_
    rw [EB.out, EI.out, ES.out]
    exact ⟨ItV.zer, rfl, ItsO.one (TxtO.nil_ _ _) (FoO.nil_ _ _) (by simp [Fo.len]), HF8.out, HK8.out⟩
end Go.Proofs.Ytcffinkkfdfcaaa

/- What bytes, one, four and number of a walk over fields do. Conditions: a list that can be read, apart from the walk's own block. -/
namespace Go.Proofs.Ytcffinkkfdfcaaa
open Go Go.RowKit

theorem ItsO.parts {ok : Nat → Prop} {w : World} {d : ItV} {I : Fo} (h : ItsO ok w [d] I) : d.li = itL I ∧ TxtO ok w d.A d.n d.c (itB I) ∧ FoO ok w (.slice d.As d.ns d.cs) (itS I) ∧ (itS I).len ≤ 2199023255488 := by
  cases I with
  | nil => cases h
  | cons k cr li bs sub rest =>
    obtain ⟨d', ds', e, h1, h2, h3, h4, ⟨es, h5, h6, h7, h8⟩, h9⟩ := h
    injection e with e1 e2
    subst e1
    exact ⟨h3, h4, ⟨es, h5, h6, h7⟩, h8⟩
set_option maxRecDepth 100000 in
set_option maxHeartbeats 4000000 in
theorem bytes_c (p : Nat) (A : Option Addr) (n c : Nat) (s : FS) (N : Nat) (hN : N ≤ 1000) (w : World) (h : Flds w p A n c s) (ha : s.at_ ≤ 100) :
    Calls Try.prog 50 #[.pointer (some ⟨p, 0, none⟩), .int .i64 (N : Int)] w fun r w' => ∃ Ab cb, r = .returned (.slice Ab N cb) ∧ TxtO (w.heap.size ≤ ·) w' Ab N cb (byB s N) ∧ Flds w' p A n c (byS s N) ∧ Keeps (fun j => j = p) w w' := by
  have hp := h.lt
  have H := Lib.hid h
  obtain ⟨L, hL⟩ : ∃ L, byB s N = L := ⟨_, rfl⟩
  obtain ⟨S', hS⟩ : ∃ S', byS s N = S' := ⟨_, rfl⟩
  obtain ⟨B, hB⟩ : ∃ B, nxB s = B := ⟨_, rfl⟩
  rw [hL, hS]
  have HLL := Lib.hid hL
  have HSS := Lib.hid hS
  have HBB := Lib.hid hB
  clear h hL hS hB
  go_enter Try.func50, Try.ntmps50
  go_wp2_with (fail)
  refine (next_c p A n c s true w H.out ha).mono ?_
  rintro _ w1 ⟨⟨dk, dc, dl, dA, dn, dcc, dAs, dns, dcs⟩, rfl, ho, hf, hk⟩
  unfold ItV.val
  dsimp only
  rw [HBB.out]
  obtain ⟨hli, ht, -, -⟩ := ho.parts
  dsimp only at hli ht
  obtain ⟨gx, egx⟩ : ∃ gx, gx = w1.heap.size := ⟨_, rfl⟩
  obtain ⟨w2, ew2⟩ : ∃ w2, w2 = w1.alloc (.cells #[.int .i64 dk, .bool dc, .bool dl, .slice dA dn dcc, .slice dAs dns dcs] 76) := ⟨_, rfl⟩
  have b2 : Below w1.heap.size w1 w2 := by rw [ew2]; exact (Below.refl _ _).alloc (Nat.le_refl _) _
  have hx2 : w2.heap[gx]? = some (.cells (ItV.cells ⟨dk, dc, dl, dA, dn, dcc, dAs, dns, dcs⟩).toArray 76 (0, 0)) := by rw [ew2, egx]; exact heap_alloc_new _ _
  have HF2 := Lib.hid (hf.below b2)
  have HK2 : Hid (Keeps (fun j => j = p) w w2) := Lib.hid (hk.trans (Keeps.of_below b2 _ (fun k hk _ => hk)))
  have HT2 := Lib.hid (ht.frame (w' := w2) (fun j _ hj => b2.block j hj))
  obtain ⟨⟨x0, x1, x2, x3, x4⟩, -⟩ := five_of hx2
  dsimp only at x0 x1 x2 x3 x4
  have HX2 := Lib.hid hx2
  have HPX : Hid (gx ≠ p) := Lib.hid (by have := hf.lt; omega)
  have EW2 := Lib.hid ew2
  have EGX := Lib.hid egx
  have HLI := Lib.hid hli
  have HS2 : Hid (w.heap.size ≤ w2.heap.size) := Lib.hid HK2.out.size
  clear ho hf hk ht b2 hx2 ew2 egx hli
  have HBn := Lib.hid HBB.out.symm
  clear HBB
  cases B with
  | false =>
    have eb : L = zerB N := by rw [← HLL.out]; unfold byB; rw [if_neg (by rw [← HBn.out]; simp)]
    have es : S' = nxS s true := by rw [← HSS.out]; unfold byS; rw [if_neg (by rw [← HBn.out]; simp)]
    have EL := Lib.hid eb
    have ES := Lib.hid es
    clear eb es
    go_upto_region 2 with (fail)
    rw [← EW2.out]
    clear x0 x1 x2 x3 x4
    go_wp2_with (first | (refine wpList_makeB w2 rfl (.tmp 14) (.tmp 14) rfl .i64 .i64 _ _ N rfl rfl rfl rfl (by omega) ?_; intro w3 h3 b3 _; have H3 := Lib.hid h3; have B3 := Lib.hid b3; clear h3 b3))
    go_ret
    rw [EL.out, ES.out]
    exact ⟨_, _, rfl, ⟨by simp [zerB], Own.low H3.out (Nat.zero_le _), fun a e => by injection e with e; rw [← e]; exact HS2.out, by omega⟩, HF2.out.below B3.out, HK2.out.trans (Keeps.of_below B3.out _ (fun k hk _ => hk))⟩
  | true =>
    have e0 := (nxS_ok (m := true) HBn.out.symm)
    have E0 := Lib.hid e0
    clear e0
    obtain ⟨X, hX⟩ : ∃ X, X = (itL (nxI s) || !decide ((itB (nxI s)).length = N)) := ⟨_, rfl⟩
    have es : S' = badS (nxS s true) X := by rw [← HSS.out]; unfold byS; rw [if_pos HBn.out.symm, hX]
    have ES := Lib.hid es
    have hn := HT2.out.1
    have HX := Lib.hid hX
    clear es hX
    cases X with
    | true =>
      have eb : L = zerB N := by
        rw [← HLL.out]
        unfold byB
        rw [if_neg]
        rintro ⟨-, q1, q2⟩
        have := HX.out
        rw [q1, decide_eq_true q2] at this
        cases this
      have EL := Lib.hid eb
      have eB : badS (nxS s true) true = { nxS s true with err := 3 } := by simp [badS, E0.out]
      clear eb
      have HXd : Hid (dl = true ∨ dl = false ∧ dn ≠ N) := Lib.hid (by
        have q := HX.out
        rw [← HLI.out, hn] at q
        cases dl with
        | true => exact .inl rfl
        | false => exact .inr ⟨rfl, fun e => by rw [decide_eq_true e] at q; cases q⟩)
      have EB := Lib.hid eB
      clear hn eB
      obtain ⟨w4, ew4⟩ : ∃ w4 : World, w4 = w2 := ⟨_, rfl⟩
      rcases HXd.out with q | ⟨q, hne⟩
      all_goals
        subst q
        try have d0 : ((dn : Int) != (N : Int)) = true := by rw [bne_iff_ne]; omega
        go_upto_region 2 with (fail)
        rw [← EW2.out, ← EGX.out]
        go_wp2_with (fail)
        refine (bad_c p A n c (nxS s true) true w2 HF2.out).mono ?_
        rintro _ w3 ⟨rfl, hf3, hk3, hz3⟩
        rw [EB.out] at hf3
        obtain ⟨⟨c0, c1, c2⟩, -⟩ := three_of hf3.blk
        dsimp only at c0 c1 c2
        have HF3 := Lib.hid hf3
        have HK3 := Lib.hid (HK2.out.trans hk3)
        have HS3 : Hid (w.heap.size ≤ w3.heap.size) := Lib.hid HK3.out.size
        clear hf3 hk3 hz3 x0 x1 x2 x3 x4
        go_wp2_with (first | (refine wpList_makeB w3 rfl (.tmp 32) (.tmp 32) rfl .i64 .i64 _ _ N rfl rfl rfl rfl (by omega) ?_; intro w5 h5 b5 _; have H5 := Lib.hid h5; have B5 := Lib.hid b5; clear h5 b5))
        go_ret
        rw [EL.out, ES.out, EB.out]
        exact ⟨_, _, rfl, ⟨by simp [zerB], Own.low H5.out (Nat.zero_le _), fun a e => by injection e with e; rw [← e]; exact HS3.out, by omega⟩, HF3.out.below B5.out, HK3.out.trans (Keeps.of_below B5.out _ (fun k hk _ => hk))⟩
    | false =>
      have q := HX.out
      rw [← HLI.out, hn] at q
      cases dl with
      | true => cases q
      | false =>
        have hdn : dn = N := by
          by_cases e : dn = N
          · exact e
          · rw [decide_eq_false e] at q; cases q
        have eb : L = itB (nxI s) := by
          rw [← HLL.out]
          unfold byB
          rw [if_pos ⟨HBn.out.symm, HLI.out.symm, hn.trans hdn⟩]
        have EL := Lib.hid eb
        clear eb q hn
        subst hdn
        have d0 : ((dn : Int) != (dn : Int)) = false := by simp
        have eB : badS (nxS s true) false = nxS s true := by simp [badS]
        have EB := Lib.hid eB
        clear eB
        go_upto_region 2 with (fail)
        rw [← EW2.out, ← EGX.out]
        go_wp2_with (fail)
        refine (bad_c p A n c (nxS s true) false w2 HF2.out).mono ?_
        rintro _ w3 ⟨rfl, hf3, hk3, hz3⟩
        rw [EB.out] at hf3
        obtain ⟨⟨c0, c1, c2⟩, -⟩ := three_of hf3.blk
        rw [E0.out] at c2
        have hx3 := (hk3.block gx (heap_lt HX2.out) HPX.out).trans HX2.out
        have ht3 := HT2.out.frame (w' := w3) (fun j hj hl => hk3.block j hl (by have : w.heap.size ≤ j := hj; omega))
        obtain ⟨⟨y0, y1, y2, y3, y4⟩, -⟩ := five_of hx3
        dsimp only at y0 y1 y2 y3 y4
        have HF3 := Lib.hid hf3
        have HK3 := Lib.hid (HK2.out.trans hk3)
        have HT3 := Lib.hid ht3
        clear hf3 hk3 hz3 hx3 ht3 x0 x1 x2 x3 x4
        go_wp2_with (fail)
        go_ret
        rw [EL.out, ES.out, EB.out]
        exact ⟨_, _, rfl, HT3.out, HF3.out, HK3.out⟩
end Go.Proofs.Ytcffinkkfdfcaaa

/- What one, four and number of a walk over fields answer. Conditions: a list that can be read, apart from the walk's own block. -/
namespace Go.Proofs.Ytcffinkkfdfcaaa
open Go Go.RowKit

def oneN (s : FS) : Nat := ((byB s 1).headD 0).toNat
def fourN (s : FS) : Nat := beN (byB s 4)
theorem u32_u64w {n : Nat} (h : n < 4294967296) : IntKind.u32.wrap (n : Int) = (n : Int) := by
  unfold IntKind.wrap
  simp [IntKind.bits, IntKind.signed]
  omega
set_option maxRecDepth 100000 in
set_option maxHeartbeats 4000000 in
theorem one_c (p : Nat) (A : Option Addr) (n c : Nat) (s : FS) (w : World) (h : Flds w p A n c s) (ha : s.at_ ≤ 100) :
    Calls Try.prog 48 #[.pointer (some ⟨p, 0, none⟩)] w fun r w' => r = .returned (.int .i64 (oneN s : Int)) ∧ Flds w' p A n c (byS s 1) ∧ Keeps (fun j => j = p) w w' := by
  have H := Lib.hid h
  clear h
  obtain ⟨R, hR⟩ : ∃ R, oneN s = R := ⟨_, rfl⟩
  rw [hR]
  have HR := Lib.hid hR
  clear hR
  go_enter Try.func48, Try.ntmps48
  go_wp2_with (fail)
  refine (bytes_c p A n c s 1 (by decide) w H.out ha).mono ?_
  rintro _ w1 ⟨Ab, cb, rfl, ht, hf, hk⟩
  obtain ⟨h1, h2, h3, h4, -⟩ := ht.r
  obtain ⟨x, ex⟩ : ∃ x, byB s 1 = [x] := by
    match q : byB s 1, h1 with
    | [x], _ => exact ⟨x, rfl⟩
  rw [ex] at h2
  obtain ⟨b, off, rfl, hb, hc⟩ := h2.addrB (by simp)
  have c0 := hc 0 (by simp)
  simp only [Nat.add_zero, List.getElem_cons_zero] at c0
  unfold bv at c0
  have hx : x.toNat < 256 := x.toNat_lt
  have ER : Hid (R = x.toNat) := Lib.hid (by rw [← HR.out]; unfold oneN; rw [ex]; rfl)
  have HF := Lib.hid hf
  have HK := Lib.hid hk
  clear ht hf hk h1 h2 h3 h4 ex hc HR
  go_wp2_with (fail)
  go_ret
  exact ⟨by rw [ER.out]; rfl, HF.out, HK.out⟩
set_option maxRecDepth 100000 in
set_option maxHeartbeats 4000000 in
theorem four_c (p : Nat) (A : Option Addr) (n c : Nat) (s : FS) (w : World) (h : Flds w p A n c s) (ha : s.at_ ≤ 100) :
    Calls Try.prog 49 #[.pointer (some ⟨p, 0, none⟩)] w fun r w' => r = .returned (.int .u32 (fourN s : Int)) ∧ Flds w' p A n c (byS s 4) ∧ Keeps (fun j => j = p) w w' := by
  have H := Lib.hid h
  clear h
  obtain ⟨R, hR⟩ : ∃ R, fourN s = R := ⟨_, rfl⟩
  rw [hR]
  have HR := Lib.hid hR
  clear hR
  go_enter Try.func49, Try.ntmps49
  go_wp2_with (fail)
  refine (bytes_c p A n c s 4 (by decide) w H.out ha).mono ?_
  rintro _ w1 ⟨Ab, cb, rfl, ht, hf, hk⟩
  obtain ⟨h1, h2, h3, h4, -⟩ := ht.r
  have HR2 := Lib.hid h2
  have H1 := Lib.hid h1
  have HF := Lib.hid hf
  have HK := Lib.hid hk
  clear ht hf hk h1 h2 h3 h4
  go_wp2_with (fail)
  refine (Rnew_c Ab 4 cb (byB s 4) w1 H1.out HR2.out (by decide)).mono ?_
  rintro _ w2 ⟨r, A', rfl, hr, hrd, hb, -⟩
  have HF2 := Lib.hid (HF.out.below hb)
  have HK2 := Lib.hid (HK.out.trans (Keeps.of_below hb _ (fun k hk _ => hk)))
  have hpr : p < r := Nat.lt_of_lt_of_le HF.out.lt hr
  have HPR := Lib.hid hpr
  have HRD := Lib.hid hrd
  have HS1 : Hid (w.heap.size ≤ r) := Lib.hid (Nat.le_trans HK.out.size hr)
  clear hr hrd hb hpr
  go_wp2_with (fail)
  refine (Rnum_c r ⟨byB s 4, 0, 0, A'⟩ 4 w2 HRD.out (by decide)).mono ?_
  rintro _ w3 ⟨rfl, -, hg⟩
  have hv : (numR ⟨byB s 4, 0, 0, A'⟩ 4).1 = R := by
    rw [← HR.out]
    unfold numR fourN
    rw [if_neg (by simp), if_neg (by decide), if_neg (by simp [byB_len])]
    simp [List.take_of_length_le, byB_len]
  rw [hv]
  have hk3 : Keeps (fun j => j = r) w2 w3 := Keeps.of_grown hg _ (fun k e => (Option.some.inj e).symm)
  have hR : R < 4294967296 := by
    rw [← HR.out]
    have := beN_lt (byB s 4)
    rw [byB_len] at this
    exact this
  have hk4 : Keeps (fun j => j = p) w w3 := HK2.out.over (hk3.mono (fun j hj => by have := HS1.out; omega))
  have hf3 : Flds w3 p A n c (byS s 4) := H.out.next hk4 (byS_l s 4) (by rw [byS_at]; omega) ((hk3.block p HF2.out.lt (by have := HPR.out; omega)).trans HF2.out.blk)
  have HF3 := Lib.hid hf3
  have HK3 := Lib.hid hk4
  have hw := u32_u64w hR
  clear hg hk3 hk4 hf3 hv hR
  go_wp2_with (fail)
  go_ret
  exact ⟨rfl, HF3.out, HK3.out⟩
theorem varR_u64 (bs : List UInt8) : U64 (varR ⟨bs, 0, 0, none⟩).1 := (varR_step (s := ⟨bs, 0, 0, none⟩) (n := (varR ⟨bs, 0, 0, none⟩).1) (s1 := (varR ⟨bs, 0, 0, none⟩).2) rfl rfl (Nat.zero_le _)).2.2.2.2.1
theorem endR_g (s : RS) (g : Option Addr) : endR { s with gA := g } = endR s := rfl
set_option maxRecDepth 100000 in
set_option maxHeartbeats 4000000 in
theorem number_c (p : Nat) (A : Option Addr) (n c : Nat) (s : FS) (must : Bool) (w : World) (h : Flds w p A n c s) (ha : s.at_ ≤ 100) :
    Calls Try.prog 80 #[.pointer (some ⟨p, 0, none⟩), .bool must] w fun r w' => r = .returned (.int .u64 (nuN s : Int)) ∧ Flds w' p A n c (nuS s must) ∧ Keeps (fun j => j = p) w w' := by
  have hp := h.lt
  have H := Lib.hid h
  clear h
  obtain ⟨R, hR⟩ : ∃ R, nuN s = R := ⟨_, rfl⟩
  obtain ⟨S', hS⟩ : ∃ S', nuS s must = S' := ⟨_, rfl⟩
  obtain ⟨B, hB⟩ : ∃ B, nxB s = B := ⟨_, rfl⟩
  rw [hR, hS]
  have HRR := Lib.hid hR
  have HSS := Lib.hid hS
  have HBB := Lib.hid hB
  clear hR hS hB
  go_enter Try.func80, Try.ntmps80
  go_wp2_with (fail)
  refine (next_c p A n c s must w H.out ha).mono ?_
  rintro _ w1 ⟨⟨dk, dc, dl, dA, dn, dcc, dAs, dns, dcs⟩, rfl, ho, hf, hk⟩
  unfold ItV.val
  dsimp only
  rw [HBB.out]
  obtain ⟨hli, ht, -, -⟩ := ho.parts
  dsimp only at hli ht
  obtain ⟨gx, egx⟩ : ∃ gx, gx = w1.heap.size := ⟨_, rfl⟩
  obtain ⟨w2, ew2⟩ : ∃ w2, w2 = w1.alloc (.cells #[.int .i64 dk, .bool dc, .bool dl, .slice dA dn dcc, .slice dAs dns dcs] 76) := ⟨_, rfl⟩
  have b2 : Below w1.heap.size w1 w2 := by rw [ew2]; exact (Below.refl _ _).alloc (Nat.le_refl _) _
  have hx2 : w2.heap[gx]? = some (.cells (ItV.cells ⟨dk, dc, dl, dA, dn, dcc, dAs, dns, dcs⟩).toArray 76 (0, 0)) := by rw [ew2, egx]; exact heap_alloc_new _ _
  have HF2 := Lib.hid (hf.below b2)
  have HK2 : Hid (Keeps (fun j => j = p) w w2) := Lib.hid (hk.trans (Keeps.of_below b2 _ (fun k hk _ => hk)))
  have HT2 := Lib.hid (ht.frame (w' := w2) (fun j _ hj => b2.block j hj))
  obtain ⟨⟨x0, x1, x2, x3, x4⟩, -⟩ := five_of hx2
  dsimp only at x0 x1 x2 x3 x4
  have HX2 := Lib.hid hx2
  have HPX : Hid (gx ≠ p) := Lib.hid (by have := hf.lt; omega)
  have EW2 := Lib.hid ew2
  have EGX := Lib.hid egx
  have HLI := Lib.hid hli
  clear ho hf hk ht b2 hx2 ew2 egx hli
  cases B with
  | false =>
    have er : R = 0 := by rw [← HRR.out]; unfold nuN; rw [if_neg (by rw [HBB.out]; simp)]
    have es : S' = nxS s must := by rw [← HSS.out]; unfold nuS; rw [if_neg (by rw [HBB.out]; simp)]
    have ER := Lib.hid er
    have ES := Lib.hid es
    clear er es
    go_upto_region 2 with (fail)
    rw [← EW2.out]
    clear x0 x1 x2 x3 x4
    go_wp2_with (fail)
    go_ret
    rw [ER.out, ES.out]
    exact ⟨rfl, HF2.out, HK2.out⟩
  | true =>
    obtain ⟨I, hI⟩ : ∃ I, nxI s = I := ⟨_, rfl⟩
    rw [hI] at HT2 HLI
    have er : R = (varR ⟨itB I, 0, 0, none⟩).1 := by rw [← HRR.out]; unfold nuN; rw [if_pos HBB.out, hI]
    have es : S' = badS (nxS s must) (itL I || (decide (endR (varR ⟨itB I, 0, 0, none⟩).2 ≠ 0) || (!must && decide (R = 0)))) := by rw [← HSS.out]; unfold nuS; rw [if_pos HBB.out, hI, HRR.out]
    have hn := HT2.out.1
    obtain ⟨-, hrd, -, -, -, hln⟩ := HT2.out.r
    have ER := Lib.hid er
    have ES := Lib.hid es
    have HN := Lib.hid hn
    have HRD := Lib.hid hrd
    have HUR : Hid (U64 R) := Lib.hid (by rw [er]; exact varR_u64 _)
    clear er es hn hrd hI
    go_upto_region 4 with (fail)
    rw [← EW2.out, ← EGX.out]
    go_wp2_with (fail)
    refine (Rnew_c dA dn dcc (itB I) w2 HN.out HRD.out hln).mono ?_
    rintro _ w3 ⟨r, A', rfl, hr, hrd, hb, -⟩
    have HF3 := Lib.hid (HF2.out.below hb)
    have HK3 := Lib.hid (HK2.out.trans (Keeps.of_below hb _ (fun k hk _ => hk)))
    have HX3 := Lib.hid ((hb.block gx (heap_lt HX2.out)).trans HX2.out)
    have HPR : Hid (p < r ∧ gx < r ∧ w.heap.size ≤ r) := Lib.hid ⟨Nat.lt_of_lt_of_le HF2.out.lt hr, Nat.lt_of_lt_of_le (heap_lt HX2.out) hr, Nat.le_trans HK2.out.size hr⟩
    have HRD3 := Lib.hid hrd
    clear hr hrd hb x0 x1 x2 x3 x4
    go_wp2_with (fail)
    refine (Rvar_c r ⟨itB I, 0, 0, A'⟩ w3 HRD3.out).mono ?_
    rintro _ w4 ⟨rfl, hrd4, hg4⟩
    have hv : (varR ⟨itB I, 0, 0, A'⟩).1 = R := by rw [ER.out, show (⟨itB I, 0, 0, A'⟩ : RS) = { (⟨itB I, 0, 0, none⟩ : RS) with gA := A' } from rfl, varR_g2]
    have hv2 : (varR ⟨itB I, 0, 0, A'⟩).2 = { (varR ⟨itB I, 0, 0, none⟩).2 with gA := A' } := by rw [show (⟨itB I, 0, 0, A'⟩ : RS) = { (⟨itB I, 0, 0, none⟩ : RS) with gA := A' } from rfl, varR_g2]
    rw [hv]
    rw [hv2] at hrd4
    have hk4 : Keeps (fun j => j = r) w3 w4 := Keeps.of_grown hg4 _ (fun k e => (Option.some.inj e).symm)
    have HX4 := Lib.hid ((hk4.block gx (heap_lt HX3.out) (by have := HPR.out; omega)).trans HX3.out)
    have HP4 := Lib.hid ((hk4.block p HF3.out.lt (by have := HPR.out; omega)).trans HF3.out.blk)
    have HK4 : Hid (Keeps (fun j => j = p) w w4) := Lib.hid (HK3.out.over (hk4.mono (fun j hj => by have := HPR.out; omega)))
    have HF4 : Hid (Flds w4 p A n c (nxS s must)) := Lib.hid (H.out.next HK4.out rfl (by rw [nxS_at]; omega) HP4.out)
    have HRD4 := Lib.hid hrd4
    obtain ⟨⟨x0, x1, x2, x3, x4⟩, -⟩ := five_of HX4.out
    dsimp only at x0 x1 x2 x3 x4
    obtain ⟨E, eE⟩ : ∃ E, endR (varR ⟨itB I, 0, 0, none⟩).2 = E := ⟨_, rfl⟩
    rw [eE, ← HLI.out] at ES
    have HE := Lib.hid eE
    clear hv hv2 hk4 hg4 hrd4 eE HX3 HF3 HK3 HX2 HF2 HK2 HP4 HRD3 HT2
    obtain ⟨X, hX⟩ : ∃ X, X = (dl || (decide (E ≠ 0) || (!must && decide (R = 0)))) := ⟨_, rfl⟩
    rw [← hX] at ES
    have fin : ∀ w5, (∃ q, w5 = w4.drewN q) → Calls Try.prog 51 #[.pointer (some ⟨p, 0, none⟩), .bool X] w5 fun r w' => r = .returned (.tuple #[]) ∧ Flds w' p A n c S' ∧ Keeps (fun j => j = p) w w' := by
      rintro w5 ⟨q, rfl⟩
      refine (bad_c p A n c (nxS s must) X (w4.drewN q) (HF4.out.drewN q)).mono ?_
      rintro e w6 ⟨he, hf6, hk6, -⟩
      exact ⟨he, by rw [ES.out]; exact hf6, (HK4.out.drewN q).trans hk6⟩
    have FIN := Lib.hid fin
    have HX := Lib.hid hX
    clear fin hX
    cases dl with
    | true =>
      obtain rfl : X = true := HX.out
      go_wp2_with (fail)
      refine (FIN.out w4 ⟨0, rfl⟩).mono ?_
      rintro _ w6 ⟨rfl, hf6, hk6⟩
      have HP6 := Lib.hid (And.intro hf6 hk6)
      clear hf6 hk6 x0 x1 x2 x3 x4
      go_wp2_with (fail)
      go_ret
      exact ⟨rfl, HP6.out⟩
    | false =>
      go_wp2_with (fail)
      refine (Rend_c r _ w4 HRD4.out).mono ?_
      rintro _ w5 ⟨rfl, q5, rfl⟩
      rw [endR_g, HE.out]
      have FIN2 := Lib.hid (FIN.out (w4.drewN q5) ⟨q5, rfl⟩)
      by_cases h1 : E = 0
      · have d1 : ((E : Int) != 0) = false := by rw [h1]; rfl
        cases must with
        | true =>
          obtain rfl : X = false := by rw [HX.out, h1]; rfl
          clear h1
          go_wp2_with (fail)
          refine FIN2.out.mono ?_
          rintro _ w6 ⟨rfl, hf6, hk6⟩
          have HP6 := Lib.hid (And.intro hf6 hk6)
          clear hf6 hk6 x0 x1 x2 x3 x4
          go_wp2_with (fail)
          go_ret
          exact ⟨rfl, HP6.out⟩
        | false =>
          by_cases h2 : R = 0
          · have d2 : ((R : Int) == 0) = true := by rw [h2]; rfl
            obtain rfl : X = true := by rw [HX.out, h1, h2]; rfl
            clear h1 h2
            go_wp2_with (fail)
            refine FIN2.out.mono ?_
            rintro _ w6 ⟨rfl, hf6, hk6⟩
            have HP6 := Lib.hid (And.intro hf6 hk6)
            clear hf6 hk6 x0 x1 x2 x3 x4
            go_wp2_with (fail)
            go_ret
            exact ⟨rfl, HP6.out⟩
          · have d2 : ((R : Int) == 0) = false := by rw [beq_eq_false_iff_ne]; omega
            obtain rfl : X = false := by rw [HX.out, h1, decide_eq_false h2]; rfl
            clear h1 h2
            go_wp2_with (fail)
            refine FIN2.out.mono ?_
            rintro _ w6 ⟨rfl, hf6, hk6⟩
            have HP6 := Lib.hid (And.intro hf6 hk6)
            clear hf6 hk6 x0 x1 x2 x3 x4
            go_wp2_with (fail)
            go_ret
            exact ⟨rfl, HP6.out⟩
      · have d1 : ((E : Int) != 0) = true := by rw [bne_iff_ne]; omega
        obtain rfl : X = true := by rw [HX.out, decide_eq_true h1]; rfl
        clear h1
        go_wp2_with (fail)
        refine FIN2.out.mono ?_
        rintro _ w6 ⟨rfl, hf6, hk6⟩
        have HP6 := Lib.hid (And.intro hf6 hk6)
        clear hf6 hk6 x0 x1 x2 x3 x4
        go_wp2_with (fail)
        go_ret
        exact ⟨rfl, HP6.out⟩
end Go.Proofs.Ytcffinkkfdfcaaa

/- What known and open make: a walk over the items of the kinds 1 to K. Conditions: a list, or bytes, that can be read. -/
namespace Go.Proofs.Ytcffinkkfdfcaaa
open Go Go.RowKit

theorem info_i64 : (Try.prog.info? 3).map (fun i => (i.zero, i.size, i.bytes)) = some (some (.int .i64 0), 1, 8) := by kernel_rfl
def zv (z : Int) : Value := .int .i64 z
/-- Numbers in a row of the call's own. -/
def OwnZ (w : World) (B : Nat) (v : Value) (zs : List Int) : Prop := Own w B 3 v (zs.map zv)
theorem OwnZ.form {w : World} {B : Nat} {v : Value} {zs : List Int} (h : OwnZ w B v zs) : ∃ A c, v = .slice A zs.length c ∧ zs.length ≤ c ∧ c ≤ maxLen ∧ RdI w A zs := by
  obtain ⟨A, c, h1, h2, h3, h4, h5, _⟩ := Own.form h
  simp only [List.length_map] at h1 h2
  refine ⟨A, c, h1, h2, h3, ?_⟩
  rcases h4 with h4 | ⟨b, off, e, hb, hc⟩
  · exact .inl (List.map_eq_nil_iff.1 h4)
  · exact .inr ⟨b, off, e, hb, fun k hk => by rw [hc k (by simpa using hk), List.getElem_map]; rfl⟩
/-- 'append(v, x)' of one number, laid in a new block. -/
theorem wpList_appZ1 (w : World) {ops : Array Oper} {rest : List Oper} {o : Oper} {a : Act} {Q : Exit → Act → World → Prop} (hgd : o.guard = none) (s x : Operand)
    (ho : o.op = .call { callee := .builtin .append, args := #[s, x], argTypes := #[106, 106] })
    (B : Nat) (v : Value) (zs : List Int) (hs : a.eval s = v) (hown : OwnZ w B v zs) (X : Value) (hx : a.eval x = .slice (some ⟨w.heap.size, 0, none⟩) 1 1) (z : Int) (hX : X = zv z)
    (hlen : zs.length ≤ 1000) (hB : B ≤ w.heap.size)
    (h : ∀ v' w', OwnZ w' B v' (zs ++ [z]) → Below B w w' → wpList Try.prog ops Q rest (a.put o.dst v') w') : wpList Try.prog ops Q (o :: rest) a (w.alloc (.cells #[X] 3)) := by
  subst hX
  obtain ⟨i0, hi, hz0, hz1, hz2⟩ := info_parts info_i64
  refine wpList_app _ hgd s x 106 ho B 3 i0 (.int .i64 0) 8 Try.underlying106 hi hz0 hz1 hz2 rfl v (zs.map zv) hs (Own.alloc hown _) (some ⟨w.heap.size, 0, none⟩) 1 1 [zv z] hx rfl (Rd.lit w [zv z] _) (by intro u hu; rw [List.mem_singleton.1 hu]; rfl) (by simp only [List.length_map, maxLen]; omega) (by simp only [List.length_map]; omega) (by simp; omega) ?_
  intro v' w' h1 h2 h3
  refine h v' w' (by simpa [OwnZ] using h1) (((Below.refl B w).alloc hB _).grown h2 (by simp; omega) (fun q e => (Own.lt hown q e).1))
theorem kindsL_succ (q : Nat) : kindsL (q + 1) = kindsL q ++ [((q : Int) + 1)] := by
  unfold kindsL; rw [List.range_succ, List.map_append]; rfl
theorem kindsL_len (q : Nat) : (kindsL q).length = q := by simp [kindsL]
set_option maxRecDepth 100000 in
set_option maxHeartbeats 4000000 in
theorem known_c (f : Fo) (ok : Nat → Prop) (A : Option Addr) (n c : Nat) (K e : Nat) (w : World) (hn : f.len = n) (h1 : FoR ok w A 0 f) (hs : f.size ≤ 100000) (hK : K ≤ 10) :
    Calls Try.prog 69 #[.slice A n c, .int .i64 (K : Int), .int .i64 (e : Int)] w fun r w' => ∃ p A' n' c', r = .returned (.pointer (some ⟨p, 0, none⟩)) ∧ w.heap.size ≤ p ∧ Flds w' p A' n' c' (knS f K e) ∧ Below w.heap.size w w' := by
  have HN := Lib.hid hn
  have H1 := Lib.hid h1
  have HS := Lib.hid hs
  clear hn h1 hs
  by_cases he : e = 0
  · have e0 : (((e : Nat) : Int) != 0) = false := by rw [he]; rfl
    have HE := Lib.hid he
    clear he
    obtain ⟨S, eS⟩ : ∃ S, knS f K e = S := ⟨_, rfl⟩
    rw [eS]
    have ES := Lib.hid eS
    clear eS
    go_enter Try.func69, Try.ntmps69
    go_wp2_with (fail)
    go_loopw [7, 15] (fun v i wr => ∃ q : Nat, q ≤ K ∧ i = .int .i64 q ∧ Hid (OwnZ wr w.heap.size v (kindsL q)) ∧ Hid (Below w.heap.size w wr)) (fun _ i _ => K - (intOf i).toNat)
    case atStart => exact ⟨0, by omega, rfl, Lib.hid (Own.nil_ _ _ _), Lib.hid (Below.refl _ _)⟩
    case round =>
      obtain ⟨q, hq, rfl, HO, HB⟩ := hrel
      have hsz := HB.out.size
      by_cases hlt : q < K
      · have hlt' : (q : Int) < (K : Int) := by omega
        go_wp2_with (first | (at_builtin; refine wpList_appZ1 wr rfl (.tmp 18) (.tmp 21) rfl w.heap.size u7 (kindsL q) rfl HO.out _ rfl ((q : Int) + 1) rfl (by rw [kindsL_len]; omega) hsz ?_; intro v' w' h1 h2; have HO2 := Lib.hid h1; have HB2 := Lib.hid (HB.out.trans h2); clear h1 h2))
        go_roundw
        case rel => exact ⟨q + 1, by omega, by go_num, Lib.hid (by rw [kindsL_succ]; exact HO2.out), HB2⟩
        case measure => simp [intOf]; omega
      · obtain rfl : K = q := by omega
        obtain ⟨Ak, ck, rfl, hc1, hc2, rk⟩ := HO.out.form
        rw [kindsL_len]
        have RK := Lib.hid rk
        clear rk hc1 hc2
        go_wp2_with (fail)
        refine (Pick_c f ok A n c Ak K ck (kindsL K) wr HN.out (H1.out.frame (fun j _ hj => HB.out.block j hj) HB.out.size) HS.out (kindsL_len K) RK.out (by omega)).mono ?_
        rintro _ w2 ⟨v2, rfl, ho2, hb2⟩
        obtain ⟨A2, c2, rfl, -, -, r2⟩ := ho2.form (n := (pickT (kindsL K) f).2.len) rfl
        obtain ⟨m2, em2⟩ : ∃ m2, m2 = (pickT (kindsL K) f).2.len := ⟨_, rfl⟩
        obtain ⟨E2, eE2⟩ : ∃ E2, E2 = (pickT (kindsL K) f).1 := ⟨_, rfl⟩
        rw [← em2, ← eE2]
        have hb3 : Below w.heap.size w w2 := HB.out.trans (hb2.mono hsz)
        have hb4 : Below w2.heap.size w2 (w2.alloc (.cells #[.slice A2 m2 c2, .int .i64 0, .int .i64 (E2 : Int)] 103)) := (Below.refl _ _).alloc (Nat.le_refl _) _
        have HP : Hid (Flds (w2.alloc (.cells #[.slice A2 m2 c2, .int .i64 0, .int .i64 (E2 : Int)] 103)) w2.heap.size A2 m2 c2 S) := Lib.hid (by
          rw [← ES.out, knS, if_neg (by rw [HE.out]; simp)]
          refine ⟨by rw [eE2]; exact heap_alloc_new w2 _, em2.symm, (r2.weak (ok' := fun j => j ≠ w2.heap.size) (fun j _ hj => by omega)).frame (fun j _ hj => hb4.block j hj) hb4.size, ?_, by show 0 ≤ 1000; omega⟩
          exact Nat.le_trans (pickT_size _ _) HS.out)
        have HB3 := Lib.hid (hb3.alloc hb3.size (.cells #[.slice A2 m2 c2, .int .i64 0, .int .i64 (E2 : Int)] 103))
        have HZ : Hid (w.heap.size ≤ w2.heap.size) := Lib.hid hb3.size
        clear ho2 hb2 r2 em2 eE2 hb3 hb4
        go_wp2_with (fail)
        go_ret
        exact ⟨_, _, _, _, rfl, HZ.out, HP.out, HB3.out⟩
  · have e0 : (((e : Nat) : Int) != 0) = true := by rw [bne_iff_ne]; omega
    have eS : knS f K e = ⟨.nil, 0, e⟩ := if_pos he
    rw [eS]
    clear eS he
    have HP : Hid (Flds (w.alloc (.cells #[.slice none 0 0, .int .i64 0, .int .i64 (e : Int)] 103)) w.heap.size none 0 0 ⟨.nil, 0, e⟩) := Lib.hid ⟨heap_alloc_new w _, rfl, by unfold FoR; trivial, by simp [Fo.size], by show 0 ≤ 1000; omega⟩
    have HB := Lib.hid ((Below.refl w.heap.size w).alloc (Nat.le_refl _) (.cells #[.slice none 0 0, .int .i64 0, .int .i64 (e : Int)] 103))
    go_enter Try.func69, Try.ntmps69
    go_wp2_with (fail)
    go_ret
    exact ⟨_, _, _, _, rfl, Nat.le_refl _, HP.out, HB.out⟩
set_option maxRecDepth 100000 in
set_option maxHeartbeats 4000000 in
theorem open_c (bs : List UInt8) (A : Option Addr) (n c : Nat) (K : Nat) (w : World) (hn : bs.length = n) (hr : Rd w A (bs.map bv)) (hl : n ≤ 140737488355328) (hK : K ≤ 10) :
    Calls Try.prog 47 #[.slice A n c, .int .i64 (K : Int)] w fun r w' => ∃ p A' n' c', r = .returned (.pointer (some ⟨p, 0, none⟩)) ∧ w.heap.size ≤ p ∧ Flds w' p A' n' c' (opS bs K) ∧ Below w.heap.size w w' := by
  have HN := Lib.hid hn
  have HR := Lib.hid hr
  clear hn hr
  go_enter Try.func47, Try.ntmps47
  go_wp2_with (fail)
  refine (DecodeT_c bs A n c w HN.out HR.out hl).mono ?_
  rintro _ w1 ⟨v1, rfl, ho, hb⟩
  obtain ⟨A1, c1, rfl, -, -, r1⟩ := ho.form (n := (decT bs).2.len) rfl
  have R1 := Lib.hid r1
  have HB := Lib.hid hb
  clear ho r1 hb
  go_wp2_with (fail)
  refine (known_c (decT bs).2 _ A1 _ c1 K (decT bs).1 w1 rfl R1.out (Nat.le_trans (decT_size bs) (by decide)) hK).mono ?_
  rintro _ w2 ⟨p, A', n', c', rfl, hp, hf, hb2⟩
  have HF : Hid (Flds w2 p A' n' c' (opS bs K)) := Lib.hid hf
  have HP : Hid (w.heap.size ≤ p) := Lib.hid (Nat.le_trans HB.out.size hp)
  have HB2 := Lib.hid (HB.out.trans (hb2.mono HB.out.size))
  clear hp hf hb2
  go_wp2_with (fail)
  go_ret
  exact ⟨_, _, _, _, rfl, HP.out, HF.out, HB2.out⟩
end Go.Proofs.Ytcffinkkfdfcaaa
