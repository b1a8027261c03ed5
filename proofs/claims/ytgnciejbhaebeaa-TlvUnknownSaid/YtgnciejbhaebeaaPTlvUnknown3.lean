/- Parts one behind the other: What tlv.clone answers: the item in memory of its own; How a law's arguments are opened: integers, bools, strings, slices of bytes; How a law's argument is opened: a slice of slices of bytes; a slice of ints; What slices.Contains and tlv.Pick answer; What the reference's Pick answers; The reference's row of items, in plain words: entries depth first, each with its depth and the kind ahead; Rows of the reference's entries in memory: seven cells each; The bytes of a list of items, in plain words; What slices.Clone, keys.clone and the reference's Copy answer of events: the same events in memory of one's own. Conditions: as told at each. -/
import Derived.Test.YtgnciejbhaebeaaPTlvUnknown1
import Derived.Test.YtgnciejbhaebeaaPTlvUnknown2
import Derived.SizedLaws
import Derived.Deep.Slices
import Derived.Lib.SmallJoins
import Derived.Deep.Matrix

/- What tlv.clone answers: the item in memory of its own. Conditions: an item that can be read. -/
namespace Go.Proofs.Ytgnciejbhaebeaa
open Go Go.RowKit

/-- An item as a value. -/
def ItV.val (d : ItV) : Value := .agg #[.int .i64 d.k, .bool d.cr, .bool d.li, .slice d.A d.n d.c, .slice d.As d.ns d.cs]
/-- The world within the copying of an item. -/
structure ClS (w0 : World) (gb : Nat) (d : ItV) (bs : List UInt8) (v : Value) (ds : List ItV) (P : Fo) (w : World) : Prop where
  box : w.heap[w0.heap.size]? = some (.cells d.cells.toArray 95 (0, 0))
  res : w.heap[w0.heap.size + 1]? = some (.cells #[.int .i64 0, .bool false, .bool false, .slice none 0 0, .slice none 0 0] 95 (0, 0))
  txt : TxtO (fun j => w0.heap.size + 1 < j ∧ j < gb) w d.A d.n d.c bs
  out : FoP (gb ≤ ·) w v ds P
  bel : Below w0.heap.size w0 w
  lo : w0.heap.size + 2 ≤ gb ∧ gb ≤ w.heap.size
section
variable {w0 w w' : World} {gb : Nat} {d : ItV} {bs : List UInt8} {v v' : Value} {ds : List ItV} {P : Fo}
theorem ClS.below (h : ClS w0 gb d bs v ds P w) (hb : Below w.heap.size w w') : ClS w0 gb d bs v ds P w' :=
  ⟨(hb.block _ (heap_lt h.box)).trans h.box, (hb.block _ (heap_lt h.res)).trans h.res, h.txt.frame (fun j _ hj => hb.block j hj), h.out.below hb, h.bel.trans (hb.mono h.bel.size), h.lo.1, Nat.le_trans h.lo.2 hb.size⟩
theorem ClS.more (h : ClS w0 gb d bs v ds P w) {e : ItV} {R : Fo} (hd : ItsO (fun j => gb ≤ j ∧ v.ownBlock ≠ some j) w [e] R) (ho : OwnI w' 0 v' (ds ++ [e])) (hg : w.grownBy w' v.ownBlock) (hv : v'.ownBlock = v.ownBlock ∨ v'.ownBlock = some w.heap.size) :
    ClS w0 gb d bs v' (ds ++ [e]) (P.app R) w' := by
  have hlo := h.lo
  have hne : ∀ j, j < w.heap.size → j < gb → w'.heap[j]? = w.heap[j]? := fun j hl hj => hg.block j hl (fun e => by have : gb ≤ j := h.out.ok_ j e.symm; omega)
  exact ⟨(hne _ (heap_lt h.box) (by omega)).trans h.box, (hne _ (heap_lt h.res) (by omega)).trans h.res, h.txt.frame (fun j hj hl => hne j hl hj.2), h.out.more hd ho hg hv hlo.2,
    h.bel.grown hg h.bel.size (fun k e => by have : gb ≤ k := h.out.ok_ k e; omega), hlo.1, Nat.le_trans hlo.2 hg.size⟩
end
set_option maxRecDepth 100000 in
set_option maxHeartbeats 8000000 in
theorem clone_it : ∀ (M : Nat) (sub : Fo), sub.size = M → ∀ (ok : Nat → Prop) (k : Int) (cr li : Bool) (bs : List UInt8) (A : Option Addr) (n c : Nat) (As : Option Addr) (ns cs : Nat) (w : World), TxtR ok w A n c bs → sub.len = ns → FoR ok w As 0 sub → sub.size ≤ 100000 →
    Calls Try.prog 73 #[.agg #[.int .i64 k, .bool cr, .bool li, .slice A n c, .slice As ns cs]] w fun r w' => ∃ d : ItV, r = .returned d.val ∧ ItsO (w.heap.size ≤ ·) w' [d] (.cons k cr li bs sub .nil) ∧ Below w.heap.size w w' := by
  intro M
  induction M using Nat.strongRecOn with
  | _ M ih =>
    intro sub hM ok k cr li bs A n c As ns cs w ht hns h1 hl
    have IH := Lib.hid ih; clear ih
    have HM := Lib.hid hM; clear hM
    have HT := Lib.hid ht
    obtain ⟨t1, t2, t3, t4, -, t5⟩ := ht
    have T1 := Lib.hid t1
    have HL := Lib.hid hl
    replace hl : ns ≤ 100000 := by have := Fo.len_le sub; omega
    have HNS := Lib.hid hns
    have H1 := Lib.hid h1
    clear t1 hns h1
    obtain ⟨w2, ew2⟩ : ∃ w2, w2 = (w.alloc (.cells #[.int .i64 k, .bool cr, .bool li, .slice A n c, .slice As ns cs] 95)).alloc (.cells #[.int .i64 0, .bool false, .bool false, .slice none 0 0, .slice none 0 0] 95) := ⟨_, rfl⟩
    obtain ⟨gx, egx⟩ : ∃ gx, gx = w.heap.size := ⟨_, rfl⟩
    have b2 : Below w.heap.size w w2 := by rw [ew2]; exact ((Below.refl _ _).alloc (Nat.le_refl _) _).alloc (by simp) _
    have g0 : w2.heap[gx]? = some (.cells #[.int .i64 k, .bool cr, .bool li, .slice A n c, .slice As ns cs] 95 (0, 0)) := by rw [ew2, egx]; exact heap2_old w _ _
    have g1 : w2.heap[gx + 1]? = some (.cells #[.int .i64 0, .bool false, .bool false, .slice none 0 0, .slice none 0 0] 95 (0, 0)) := by rw [ew2, egx]; exact heap2_new w _ _
    have x3 : w2.cell? ⟨gx, 3, none⟩ = some (.slice A n c) := by rw [heap_cell g0]; rfl
    have xf : w2.frozen? ⟨gx, 3, none⟩ = false := heap_free g0 _
    have EW2 := Lib.hid ew2
    have EGX := Lib.hid egx
    have B2 := Lib.hid b2
    have G0 := Lib.hid g0
    have G1 := Lib.hid g1
    have R2 := Lib.hid (t2.below b2)
    clear ew2 egx b2 g0 g1 t2
    go_enter Try.func73, Try.ntmps73
    go_upto_region 1 with (fail)
    rw [← EW2.out, ← EGX.out]
    go_upto_region 3 with (at_builtin; refine wpList_cloneB _ rfl (.tmp 7) rfl A n c bs rfl T1.out R2.out t5 ?_; intro A' c' w3 p1 p2 p3 p4 p5 p6; have P1 := Lib.hid p1; have P2 := Lib.hid p2; have P3 := Lib.hid p3; have P4 := Lib.hid p4; have z3 : w3.cell? ⟨gx, 3, none⟩ = some (.slice A n c) := (p2.cell (p := ⟨gx, 3, none⟩) (heap_lt G0.out)).trans x3; have zf : w3.frozen? ⟨gx, 3, none⟩ = false := heap_free ((p2.block gx (heap_lt G0.out)).trans G0.out) _; clear p1 p2 p3 p4 p5 p6 x3 xf)
    obtain ⟨w4, ew4⟩ : ∃ w4, w4 = w3.setCell ⟨gx, 3, none⟩ (.slice A' n c') := ⟨_, rfl⟩
    have h3x := (P2.out.block gx (heap_lt G0.out)).trans G0.out
    have h3r := (P2.out.block (gx + 1) (heap_lt G1.out)).trans G1.out
    have z23 := P2.out.size
    have z2g := heap_lt G1.out
    have hne0 : gx = w.heap.size := EGX.out
    have k34 : Keeps (fun j => j = gx) w3 w4 := by rw [ew4]; exact Keeps.set _ _ _ _ rfl
    obtain ⟨gb, egb⟩ : ∃ gb, gb = w3.heap.size := ⟨_, rfl⟩
    have hS4 : ClS w gb ⟨k, cr, li, A', n, c', As, ns, cs⟩ bs (.slice none 0 0) [] .nil w4 := by
      refine ⟨?_, ?_, ⟨T1.out, ?_, ?_, t5⟩, FoP.nil_ _ _, ?_, ?_, ?_⟩
      · rw [ew4, ← hne0, heap_set h3x]; rfl
      · rw [← hne0]; exact (k34.block _ (heap_lt h3r) (by show ¬ gx + 1 = gx; omega)).trans h3r
      · have := P1.out
        refine Own.frameK (Own.low this (Nat.zero_le _)) (fun g e => k34.block g (Own.lt this g e).2 (by have := (Own.lt this g e).1; show ¬ g = gx; omega))
      · intro a e
        subst e
        have := Own.lt P1.out a.block rfl
        exact ⟨by omega, by omega⟩
      · exact below_drewN ((B2.out.trans (P2.out.mono B2.out.size)).trans (by rw [ew4]; exact (Below.refl _ _).setCell (p := ⟨gx, 3, none⟩) (by show _ ≤ gx; omega) _)) 0
      · omega
      · rw [egb]; exact k34.size
    have HS4 := Lib.hid hS4
    have EW4 := Lib.hid ew4
    rw [← EW4.out]
    clear ew4 h3x h3r z23 z2g hne0 k34 egb hS4 z3 zf G0 G1 B2 P1 P2 P3 P4 R2 EW2
    have x4 : w4.cell? ⟨gx, 4, none⟩ = some (.slice As ns cs) := by rw [EGX.out, heap_cell HS4.out.box]; rfl
    go_wp2_with (fail)
    go_loopw [3, 13] (fun v i wr => ∃ (q : Nat) (r P : Fo) (ds : List ItV), i = .int .i64 q ∧ Hid (q + r.len = ns) ∧ Hid (FoR ok w As q r) ∧ Hid (r.size ≤ sub.size) ∧ Hid (sub = P.app r) ∧ Hid (P.len = q) ∧ Hid (ClS w gb ⟨k, cr, li, A', n, c', As, ns, cs⟩ bs v ds P wr)) (fun _ i _ => ns - (intOf i).toNat)
    case atStart => exact ⟨0, sub, .nil, [], rfl, Lib.hid (by rw [HNS.out]; omega), H1, Lib.hid (Nat.le_refl _), Lib.hid rfl, Lib.hid rfl, HS4⟩
    case round =>
      clear HS4 x4
      obtain ⟨q, r, P, ds, rfl, HK, R1, HSz, HF, HPl, HS⟩ := hrel
      cases r with
      | nil =>
        have hk : q = ns := HK.out
        have hk' : (ns : Int) ≤ (q : Int) := by omega
        have hF : sub = P := by rw [HF.out, Fo.app_nil]
        obtain ⟨A9, c9, ev, j1, j2, -⟩ := HS.out.out.o.form (n := ns) (by rw [← hF]; exact HNS.out)
        have HS' := Lib.hid (ev ▸ HS.out)
        subst ev
        have hb := HS'.out.box
        have hr := HS'.out.res
        rw [← EGX.out] at hb hr
        have b4 : wr.cell? ⟨gx, 4, none⟩ = some (.slice As ns cs) := by rw [heap_cell hb]; rfl
        have bf : wr.frozen? ⟨gx, 4, none⟩ = false := heap_free hb _
        obtain ⟨w7, ew7⟩ : ∃ w7, w7 = wr.setCell ⟨gx, 4, none⟩ (.slice A9 ns c9) := ⟨_, rfl⟩
        have h7 : w7.heap[gx]? = some (.cells #[.int .i64 k, .bool cr, .bool li, .slice A' n c', .slice A9 ns c9] 95 (0, 0)) := by rw [ew7, heap_set hb]; rfl
        have r7 : w7.heap[gx + 1]? = some (.cells #[.int .i64 0, .bool false, .bool false, .slice none 0 0, .slice none 0 0] 95 (0, 0)) := by rw [ew7]; exact (heap_far _ (by show gx + 1 ≠ gx; omega)).trans hr
        obtain ⟨w8, ew8⟩ : ∃ w8, w8 = ((((w7.setCell ⟨gx + 1, 0, none⟩ (.int .i64 k)).setCell ⟨gx + 1, 1, none⟩ (.bool cr)).setCell ⟨gx + 1, 2, none⟩ (.bool li)).setCell ⟨gx + 1, 3, none⟩ (.slice A' n c')).setCell ⟨gx + 1, 4, none⟩ (.slice A9 ns c9) := ⟨_, rfl⟩
        have r8 : w8.heap[gx + 1]? = some (.cells #[.int .i64 k, .bool cr, .bool li, .slice A' n c', .slice A9 ns c9] 95 (0, 0)) := by
          rw [ew8, heap_set (heap_set (heap_set (heap_set (heap_set r7 _ _) _ _) _ _) _ _) _ _]; rfl
        have k8 : Keeps (fun j => j = gx ∨ j = gx + 1) wr w8 := by
          rw [ew8, ew7]
          refine (((((Keeps.set _ _ _ _ (.inl rfl)).trans (Keeps.set _ _ _ _ (.inr rfl))).trans (Keeps.set _ _ _ _ (.inr rfl))).trans (Keeps.set _ _ _ _ (.inr rfl))).trans (Keeps.set _ _ _ _ (.inr rfl))).trans (Keeps.set _ _ _ _ (.inr rfl))
        have fin : ItsO (w.heap.size ≤ ·) w8 [⟨k, cr, li, A', n, c', A9, ns, c9⟩] (.cons k cr li bs sub .nil) := by
          have hlo := HS'.out.lo.1
          have e := EGX.out
          refine ItsO.one ?_ ?_ (by rw [HNS.out]; omega)
          · exact (HS'.out.txt.frame (w' := w8) (fun j hj hl => k8.block j hl (by have := hj.1; omega))).weak (fun j hj _ => by have := hj.1; show w.heap.size ≤ j; omega)
          · rw [hF]
            exact (HS'.out.out.o.frame (w' := w8) (fun j hj hl => k8.block j hl (by have : gb ≤ j := hj; omega))).weak (fun j hj _ => by have : gb ≤ j := hj; show w.heap.size ≤ j; omega)
        have bel : Below w.heap.size w w8 := HS'.out.bel.trans (k8.below (fun j hj => ⟨Nat.lt_of_lt_of_le hj HS'.out.bel.size, by have := EGX.out; omega⟩))
        have FIN := Lib.hid fin
        have BEL := Lib.hid bel
        have EW7 := Lib.hid ew7
        have EW8 := Lib.hid ew8
        obtain ⟨p0, p1, p2, p3, p4⟩ : w7.cell? ⟨gx, 0, none⟩ = some (.int .i64 k) ∧ w7.cell? ⟨gx, 1, none⟩ = some (.bool cr) ∧ w7.cell? ⟨gx, 2, none⟩ = some (.bool li) ∧ w7.cell? ⟨gx, 3, none⟩ = some (.slice A' n c') ∧ w7.cell? ⟨gx, 4, none⟩ = some (.slice A9 ns c9) := by
          refine ⟨?_, ?_, ?_, ?_, ?_⟩ <;> (rw [heap_cell h7]; rfl)
        obtain ⟨s0, s1, s2, s3, s4⟩ : w7.cell? ⟨gx + 1, 0, none⟩ = some (.int .i64 0) ∧ w7.cell? ⟨gx + 1, 1, none⟩ = some (.bool false) ∧ w7.cell? ⟨gx + 1, 2, none⟩ = some (.bool false) ∧ w7.cell? ⟨gx + 1, 3, none⟩ = some (.slice none 0 0) ∧ w7.cell? ⟨gx + 1, 4, none⟩ = some (.slice none 0 0) := by
          refine ⟨?_, ?_, ?_, ?_, ?_⟩ <;> (rw [heap_cell r7]; rfl)
        have f0 := heap_free r7 0
        have f1 := heap_free r7 1
        have f2 := heap_free r7 2
        have f3 := heap_free r7 3
        have f4 := heap_free r7 4
        obtain ⟨v0, v1, v2, v3, v4⟩ : w8.cell? ⟨gx + 1, 0, none⟩ = some (.int .i64 k) ∧ w8.cell? ⟨gx + 1, 1, none⟩ = some (.bool cr) ∧ w8.cell? ⟨gx + 1, 2, none⟩ = some (.bool li) ∧ w8.cell? ⟨gx + 1, 3, none⟩ = some (.slice A' n c') ∧ w8.cell? ⟨gx + 1, 4, none⟩ = some (.slice A9 ns c9) := by
          refine ⟨?_, ?_, ?_, ?_, ?_⟩ <;> (rw [heap_cell r8]; rfl)
        clear hk hF hb hr ew7 ew8 h7 r7 r8 k8 fin bel
        go_upto_region 9 with (fail)
        rw [← EW7.out]
        clear b4 bf
        go_wp2_with (fail)
        rw [← EW8.out]
        refine bodyPost_ret (v := .agg #[.int .i64 k, .bool cr, .bool li, .slice A' n c', .slice A9 ns c9]) (by simp [results, Try.results73, go_sem, v0, v1, v2, v3, v4]) rfl ?_
        exact ⟨⟨k, cr, li, A', n, c', A9, ns, c9⟩, rfl, FIN.out, BEL.out⟩
      | cons z cr1 li1 bs1 sub1 rest =>
        obtain ⟨⟨b1, o1, At, m, cm, As1, e1, eA, hb1, -, ⟨c0, ca, cb, cc, cd⟩, tt, s1, l1, l2, l3⟩, r1⟩ := R1.out.one
        subst eA
        have hlt : q < ns := by have := HK.out; simp only [Fo.len] at this; omega
        have kb := HS.out.bel
        have TT := Lib.hid tt
        have S1 := Lib.hid s1
        have R1b := Lib.hid r1
        rw [← kb.cell (p := ⟨b1, _, none⟩) hb1] at c0 ca cb cc cd
        have HSb : Hid (rest.size ≤ sub.size) := Lib.hid (by have := HSz.out; simp only [Fo.size] at this; omega)
        have HSs : Hid (sub1.size < M ∧ sub1.size ≤ 100000) := Lib.hid (by have := HSz.out; have := HM.out; have := HL.out; simp only [Fo.size] at *; omega)
        have HKb : Hid (q + 1 + rest.len = ns) := Lib.hid (by have := HK.out; simp only [Fo.len] at this; omega)
        have HFb : Hid (sub = (P.app (.cons z cr1 li1 bs1 sub1 .nil)).app rest) := Lib.hid (by rw [HF.out, Fo.app_assoc]; rfl)
        obtain ⟨sl, esl⟩ : ∃ sl, sl = sub1.len := ⟨_, rfl⟩
        rw [← esl] at cd l1 l3
        have ESL := Lib.hid esl
        have hlt' : (q : Int) < (ns : Int) := by omega
        obtain ⟨w5, ew5⟩ : ∃ w5, w5 = wr.alloc (.cells #[.int .i64 z, .bool cr1, .bool li1, .slice At m cm, .slice As1 sl e1] 95) := ⟨_, rfl⟩
        obtain ⟨gy, egy⟩ : ∃ gy, gy = wr.heap.size := ⟨_, rfl⟩
        have b5 : Below wr.heap.size wr w5 := by rw [ew5]; exact (Below.refl _ _).alloc (Nat.le_refl _) _
        have h5 : w5.heap[gy]? = some (.cells #[.int .i64 z, .bool cr1, .bool li1, .slice At m cm, .slice As1 sl e1] 95 (0, 0)) := by rw [ew5, egy]; exact heap_alloc_new _ _
        have HS5 := Lib.hid (HS.out.below b5)
        obtain ⟨p0, p1, p2, p3, p4⟩ : w5.cell? ⟨gy, 0, none⟩ = some (.int .i64 z) ∧ w5.cell? ⟨gy, 1, none⟩ = some (.bool cr1) ∧ w5.cell? ⟨gy, 2, none⟩ = some (.bool li1) ∧ w5.cell? ⟨gy, 3, none⟩ = some (.slice At m cm) ∧ w5.cell? ⟨gy, 4, none⟩ = some (.slice As1 sl e1) := by
          refine ⟨?_, ?_, ?_, ?_, ?_⟩ <;> (rw [heap_cell h5]; rfl)
        have EW5 := Lib.hid ew5
        have EGY := Lib.hid egy
        have Z5 : Hid (wr.heap.size < w5.heap.size) := Lib.hid (by rw [ew5]; simp)
        clear ew5 egy b5 h5 tt s1 r1 esl HK HSz HF R1 kb l1 l2
        go_upto_region 6 with (fail)
        rw [← EW5.out, ← EGY.out]
        clear c0 ca cb cc cd
        go_wp2_with (fail)
        refine (IH.out sub1.size HSs.out.1 sub1 rfl ok z cr1 li1 bs1 At m cm As1 sl e1 w5 (TT.out.frame (fun j _ hj => HS5.out.bel.block j hj) HS5.out.bel.size) ESL.out.symm (S1.out.below HS5.out.bel) HSs.out.2).mono ?_
        rintro _ w6 ⟨⟨dk, dc, dl, dA, dn, dcc, dAs, dns, dcs⟩, rfl, ho6, hb6⟩
        unfold ItV.val
        dsimp only
        have HS6 := Lib.hid (HS5.out.below hb6)
        have b67 : Below w6.heap.size w6 (w6.alloc (.cells #[.int .i64 dk, .bool dc, .bool dl, .slice dA dn dcc, .slice dAs dns dcs] 95)) := (Below.refl _ _).alloc (Nat.le_refl _) _
        have HS7 := Lib.hid (HS6.out.below b67)
        have lov := fun j e => (HS.out.out.lt j e)
        have HD7 : Hid (ItsO (fun j => gb ≤ j ∧ u3.ownBlock ≠ some j) (w6.alloc (.cells #[.int .i64 dk, .bool dc, .bool dl, .slice dA dn dcc, .slice dAs dns dcs] 95)) [⟨dk, dc, dl, dA, dn, dcc, dAs, dns, dcs⟩] (.cons z cr1 li1 bs1 sub1 .nil)) :=
          Lib.hid ((ho6.frame (fun j _ hj => b67.block j hj)).weak (fun j hj _ => by
            have h1 : w5.heap.size ≤ j := hj
            have h2 := HS.out.lo.2
            have h3 := Z5.out
            exact ⟨by omega, fun e => by have := lov j e; omega⟩))
        have HR7 := Lib.hid (Rd.lit w6 (cellsI [⟨dk, dc, dl, dA, dn, dcc, dAs, dns, dcs⟩]) 95)
        have hdl : ds.length ≤ 100000 := by rw [ItsO.len P ds HS7.out.out.its, HPl.out]; omega
        clear ho6 hb6 b67 lov p0 p1 p2 p3 p4 HS5
        go_wp2_with (at_builtin; refine wpList_appI _ rfl (.tmp 17) (.tmp 20) rfl 0 _ ds rfl HS7.out.out.row (some ⟨w6.heap.size, 0, none⟩) 1 1 [⟨dk, dc, dl, dA, dn, dcc, dAs, dns, dcs⟩] rfl rfl HR7.out (by omega) (Nat.zero_le _) ?_; intro v12 w12 ho12 hg12 hv12; have HS12 := Lib.hid (HS7.out.more HD7.out ho12 hg12 hv12); clear ho12 hg12 hv12)
        go_roundw
        case rel => exact ⟨q + 1, rest, _, _, by go_num, HKb, R1b, HSb, HFb, Lib.hid (by rw [Fo.len_app, HPl.out]; rfl), HS12⟩
        case measure => simp [intOf]; omega
end Go.Proofs.Ytgnciejbhaebeaa

/- How a law's arguments are opened: integers, bools, strings, slices of bytes. Conditions: none. -/
namespace Go.Proofs.Ytgnciejbhaebeaa
open Go Go.RowKit Go.ChangeShapes Go.WideShapes

theorem opn_int {H : Type} {enc : TypeId × Value → H} {P : Program} {W : World} {base t : Nat} {k : IntKind} {v : Value} {d : DataW H} {p : List MemPlace} (ht : P.underlying t = some (.int k))
    (hv : Value.okWide P W .any base t v) (hj : DataW.Trod enc P W 0 (fun _ => true) true t v d p) : ∃ a, v = .int k a ∧ (Lit.int k a).wf = true := by
  obtain ⟨a, h1, _, _, h2⟩ := open_int ht hv hj
  exact ⟨a, h1, h2⟩
theorem opn_bool {H : Type} {enc : TypeId × Value → H} {P : Program} {W : World} {base t : Nat} {v : Value} {d : DataW H} {p : List MemPlace} (ht : P.underlying t = some .bool)
    (hv : Value.okWide P W .any base t v) (hj : DataW.Trod enc P W 0 (fun _ => true) true t v d p) : ∃ a, v = .bool a := by
  obtain ⟨a, h1, _, _⟩ := open_bool ht hv hj
  exact ⟨a, h1⟩
theorem opn_string {H : Type} {enc : TypeId × Value → H} {P : Program} {W : World} {base t j : Nat} {v : Value} {d : DataW H} {p : List MemPlace} {ts : List TypeId} {ds : List (DataW H)} (ht : P.underlying t = some .string)
    (hv : Value.okWide P W .any base t v) (hj : DataW.Trod enc P W 0 (fun _ => true) true t v d p) (hsz : (DataW.weightsEach P ts ds).all (· ≤ reachBytes) = true) (h1 : ts[j]? = some t) (h2 : ds[j]? = some d) :
    ∃ s : ByteArray, v = .string s ∧ s.size ≤ 140737488351232 := by
  obtain ⟨s, g1, g2, _, _⟩ := Go.ChangeMaps.open_string ht hv hj
  subst g2
  have := sized_string hsz h1 h2
  exact ⟨s, g1, by simpa [reachBytes] using this⟩

/-- The values of a slice of bytes. -/
theorem rd_of_ints {W : World} {a : Addr} {zs : List Int} {len : Nat} (hl : len ≤ zs.length) (hcell : ∀ i, i < zs.length → W.cell? (a.add i) = some (.int .u8 (zs.getD i 0))) (hwz : ∀ n ∈ zs, (Lit.int .u8 n).wf = true) :
    ∃ bs : List UInt8, bs.length = len ∧ Rd W (some a) (bs.map bv) := by
  refine ⟨(zs.take len).map (fun z => UInt8.ofNat z.toNat), by simp; omega, ?_⟩
  rcases Nat.eq_zero_or_pos len with h0 | h0
  · subst h0; exact .inl (by simp)
  · obtain ⟨b, off, spot⟩ := a
    have h1 := hcell 0 (by omega)
    have hs : spot = none := by simpa [Addr.add] using World.cell?_spot h1
    subst hs
    refine .inr ⟨b, off, rfl, ?_, fun k hk => ?_⟩
    · exact World.block_lt_of_cell? W ⟨b, off, none⟩ (by simpa [Addr.add] using h1)
    · have hk' : k < zs.length := by simp at hk; omega
      have h2 := hcell k hk'
      rw [Addr.add_lit] at h2
      rw [h2]
      have hb := bounds_u8 (hwz zs[k] (List.getElem_mem hk'))
      simp only [List.getElem_map, List.getElem_take, bv, List.getD_eq_getElem?_getD, List.getElem?_eq_getElem hk', Option.getD_some, UInt8.toNat_ofNat']
      congr 2
      omega

theorem opn_bytes {H : Type} {enc : TypeId × Value → H} {P : Program} {W : World} {base t e j : Nat} {v : Value} {d : DataW H} {p : List MemPlace} {ts : List TypeId} {ds : List (DataW H)} (ht : P.underlying t = some (.slice e)) (he : P.underlying e = some (.int .u8)) (hc : P.cellsOf e = 1) (hb : P.bytesOf e = 1)
    (hv : Value.okWide P W .any base t v) (hj : DataW.Trod enc P W 0 (fun _ => true) true t v d p) (hsz : (DataW.weightsEach P ts ds).all (· ≤ reachBytes) = true) (h1 : ts[j]? = some t) (h2 : ds[j]? = some d) :
    ∃ (A : Option Addr) (n c : Nat) (bs : List UInt8), v = .slice A n c ∧ bs.length = n ∧ Rd W A (bs.map bv) ∧ n ≤ c ∧ c ≤ maxLen ∧ n ≤ 140737488351232 := by
  obtain ⟨a0, len, cap, rfl⟩ := okWide_slice ht hv
  obtain ⟨fuel, hf⟩ := hj
  rcases open_ints ht he hc hf with ⟨hcs, _⟩ | ⟨x, l, c, zs, hcs, _, hl, hm, hz, hx, hcell, hwz⟩
  · simp [Value.cells] at hcs
    obtain ⟨rfl, rfl, rfl⟩ := hcs
    exact ⟨none, 0, 0, [], rfl, rfl, .inl rfl, Nat.le_refl _, Nat.zero_le _, by decide⟩
  · simp [Value.cells] at hcs
    obtain ⟨rfl, rfl, rfl⟩ := hcs
    simp only [Prod.mk.injEq] at hx
    obtain ⟨rfl, _⟩ := hx
    simp only [if_true] at hz
    have hs := sized_slice hsz h1 h2 ht
    rw [hb] at hs
    simp only [lits, List.length_map, List.length_take, List.length_drop, reachBytes] at hs
    obtain ⟨bs, g1, g2⟩ := rd_of_ints (len := len) (by omega) hcell hwz
    exact ⟨some x, len, cap, bs, rfl, g1, g2, hl, hm, by omega⟩

theorem list_of_all {α : Type} {Q : Nat → α → Prop} (n : Nat) (h : ∀ i, i < n → ∃ x, Q i x) : ∃ l : List α, l.length = n ∧ ∀ i (hi : i < l.length), Q i l[i] := by
  induction n with
  | zero => exact ⟨[], rfl, fun i hi => absurd hi (by simp)⟩
  | succ n ih =>
    obtain ⟨l, h1, h2⟩ := ih (fun i hi => h i (by omega))
    obtain ⟨x, hx⟩ := h n (by omega)
    refine ⟨l ++ [x], by simp [h1], fun i hi => ?_⟩
    rcases Nat.lt_or_ge i l.length with hlt | hge
    · rw [List.getElem_append_left hlt]; exact h2 i hlt
    · have : i = n := by simp at hi; omega
      subst this
      rw [List.getElem_append_right hge]
      simpa using hx

/-- A pair of ints by value. -/
theorem opn_pair {H : Type} {enc : TypeId × Value → H} {P : Program} {W : World} {base t : Nat} {f0 f1 : Field} {v : Value} {d : DataW H} {p : List MemPlace} (hs : P.underlying t = some (.struct #[f0, f1])) (hone : Deep.oneCellFields P #[f0, f1] = true) (hC : P.cellsOf t = 2)
    (h0 : P.underlying f0.type = some (.int .i64)) (h1 : P.underlying f1.type = some (.int .i64))
    (hv : Value.okWide P W .any base t v) (hj : DataW.Trod enc P W 0 (fun _ => true) true t v d p) : ∃ a b : Int, v = .agg #[.int .i64 a, .int .i64 b] ∧ ((Lit.int .i64 a).wf = true ∧ (Lit.int .i64 b).wf = true) := by
  obtain ⟨v0, v1, y0, y1, n, rfl, _, _, g0, g1⟩ := Joins.open_agg2 hs hone hC hv hj
  obtain ⟨a, e0, _, wa⟩ := DataW.trod_int h0 g0
  obtain ⟨b, e1, _, wb⟩ := DataW.trod_int h1 g1
  simp at e0 e1
  subst e0 e1
  exact ⟨a, b, rfl, wa, wb⟩

/-- The address reads as these pairs. -/
def RdP (w : World) (A : Option Addr) (zs : List (Int × Int)) : Prop :=
  zs = [] ∨ ∃ b off, A = some ⟨b, off, none⟩ ∧ b < w.heap.size ∧ ∀ k (h : k < zs.length), w.cell? ⟨b, off + k * 2, none⟩ = some (.int .i64 zs[k].1) ∧ w.cell? ⟨b, off + k * 2 + 1, none⟩ = some (.int .i64 zs[k].2)
theorem RdP.below {w w' : World} {A : Option Addr} {zs : List (Int × Int)} (h : RdP w A zs) (hb : Below w.heap.size w w') : RdP w' A zs := by
  rcases h with h | ⟨b, off, hA, hlt, hc⟩
  · exact .inl h
  · exact .inr ⟨b, off, hA, Nat.lt_of_lt_of_le hlt hb.size, fun k hk => ⟨(hb.cell (p := ⟨b, _, none⟩) hlt).trans (hc k hk).1, (hb.cell (p := ⟨b, _, none⟩) hlt).trans (hc k hk).2⟩⟩

theorem opn_pairs {H : Type} {enc : TypeId × Value → H} {P : Program} {W : World} {base t e j : Nat} {f0 f1 : Field} {v : Value} {d : DataW H} {p : List MemPlace} {ts : List TypeId} {ds : List (DataW H)} (ht : P.underlying t = some (.slice e)) (hs : P.underlying e = some (.struct #[f0, f1])) (hone : Deep.oneCellFields P #[f0, f1] = true) (hC : P.cellsOf e = 2) (hB : P.bytesOf e = 16)
    (h0 : P.underlying f0.type = some (.int .i64)) (h1 : P.underlying f1.type = some (.int .i64)) (_ : True)
    (hv : Value.okWide P W .any base t v) (hj : DataW.Trod enc P W 0 (fun _ => true) true t v d p) (hsz : (DataW.weightsEach P ts ds).all (· ≤ reachBytes) = true) (k1 : ts[j]? = some t) (k2 : ds[j]? = some d) :
    ∃ (A : Option Addr) (n c : Nat) (zs : List (Int × Int)), v = .slice A n c ∧ (zs.length = n ∧ RdP W A zs ∧ n ≤ c ∧ c ≤ maxLen ∧ n * 16 ≤ 140737488351232 ∧ ∀ z ∈ zs, (Lit.int .i64 z.1).wf = true ∧ (Lit.int .i64 z.2).wf = true) := by
  obtain ⟨a0, len, cap, rfl⟩ := okWide_slice ht hv
  obtain ⟨fuel, hf⟩ := hj
  rcases Deep.open_slice ht hf with ⟨hcs, _⟩ | ⟨a, l, c, m, n, D, Pl, hcs, _, hl, hm, hmm, hx, hcell⟩
  · simp [Value.cells] at hcs
    obtain ⟨rfl, rfl, rfl⟩ := hcs
    exact ⟨none, 0, 0, [], rfl, rfl, .inl rfl, Nat.le_refl _, Nat.zero_le _, by decide, by simp⟩
  · simp [Value.cells] at hcs
    obtain ⟨rfl, rfl, rfl⟩ := hcs
    simp only [if_true] at hmm
    subst hmm
    simp only [Prod.mk.injEq] at hx
    obtain ⟨rfl, _⟩ := hx
    have hb := sized_slice hsz k1 k2 ht
    rw [hB] at hb
    simp only [List.length_map, List.length_range, reachBytes] at hb
    obtain ⟨o0, o1⟩ := (⟨Deep.hone_of hone 0 f0 rfl, Deep.hone_of hone 1 f1 rfl⟩ : _ ∧ _)
    have each : ∀ i, i < len → ∃ z : Int × Int, (W.cell? (a.add (i * 2)) = some (.int .i64 z.1) ∧ W.cell? ((a.add (i * 2)).add 1) = some (.int .i64 z.2)) ∧ (Lit.int .i64 z.1).wf = true ∧ (Lit.int .i64 z.2).wf = true := by
      intro i hi
      obtain ⟨cs', g1, g2⟩ := hcell i (by omega)
      rw [hC] at g1
      obtain ⟨_, hlen, hg⟩ := World.cells?_some g1
      obtain ⟨y0, y1, m, _, _, t0, t1⟩ := trod_struct2 hs g2
      match cs', hlen with
      | [u0, u1], _ =>
        rw [o0.1, o0.2] at t0
        rw [o1.1, o1.2] at t1
        obtain ⟨x0, e0, _, wa⟩ := DataW.trod_int h0 t0
        obtain ⟨x1, e1, _, wb⟩ := DataW.trod_int h1 t1
        simp at e0 e1
        subst e0 e1
        have c0 := hg 0 (by decide)
        have c1 := hg 1 (by decide)
        exact ⟨(x0, x1), ⟨by simpa [Addr.add] using c0, by simpa using c1⟩, wa, wb⟩
    obtain ⟨zs, hz1, hz2⟩ := list_of_all len each
    refine ⟨some a, len, _, zs, rfl, hz1, ?_, hl, hm, by omega, fun z hz => ?_⟩
    · rcases Nat.eq_zero_or_pos len with h0 | h0
      · left; exact List.eq_nil_of_length_eq_zero (by omega)
      · obtain ⟨b, off, spot⟩ := a
        have hz0 := (hz2 0 (by omega)).1.1
        have hsp : spot = none := by simpa [Addr.add] using World.cell?_spot hz0
        subst hsp
        refine .inr ⟨b, off, rfl, World.block_lt_of_cell? W ⟨b, off, none⟩ (by simpa [Addr.add] using hz0), fun k hk => ?_⟩
        have := (hz2 k hk).1
        simpa [Addr.add_lit] using this
    · obtain ⟨i, hi, rfl⟩ := List.mem_iff_getElem.1 hz
      exact (hz2 i hi).2
end Go.Proofs.Ytgnciejbhaebeaa

/- How a law's argument is opened: a slice of slices of bytes; a slice of ints. Conditions: none. -/
namespace Go.Proofs.Ytgnciejbhaebeaa
open Go Go.RowKit Go.ChangeShapes Go.WideShapes

theorem weightsAll_mem {H : Type} {P : Program} {e : TypeId} : ∀ {l : List (DataW H)} {d : DataW H}, d ∈ l → ∀ n ∈ d.weights P e, n ∈ DataW.weightsAll P e l
  | d' :: r, d, hd, n, hn => by
    simp only [DataW.weightsAll, List.mem_append]
    rcases List.mem_cons.1 hd with rfl | h
    · exact Or.inl hn
    · exact Or.inr (weightsAll_mem h n hn)
theorem sized_inner {H : Type} {P : Program} {ts : List TypeId} {ds : List (DataW H)} (h : (DataW.weightsEach P ts ds).all (· ≤ reachBytes) = true) {j : Nat} {t e q : TypeId} {elems spare e' sp' : List (DataW H)}
    (ht : ts[j]? = some t) (hd : ds[j]? = some (.slice elems spare)) (hu : P.underlying t = some (.slice e)) (hu2 : P.underlying e = some (.slice q)) (hx : DataW.slice e' sp' ∈ elems) : (e'.length + sp'.length) * P.bytesOf q ≤ reachBytes := by
  refine of_decide_eq_true (List.all_eq_true.1 h _ (DataW.weights_mem_each ht hd _ ?_))
  simp only [DataW.weights, hu, List.mem_cons, List.mem_append]
  exact Or.inr (Or.inl (weightsAll_mem hx _ (by simp [DataW.weights, hu2])))

theorem opn_bytess {H : Type} {enc : TypeId × Value → H} {P : Program} {W : World} {base t e q j : Nat} {v : Value} {d : DataW H} {p : List MemPlace} {ts : List TypeId} {ds : List (DataW H)} (ht : P.underlying t = some (.slice e)) (he : P.underlying e = some (.slice q)) (hq : P.underlying q = some (.int .u8))
    (ce : P.cellsOf e = 1) (be : P.bytesOf e = 24) (cq : P.cellsOf q = 1) (bq : P.bytesOf q = 1)
    (hv : Value.okWide P W .any base t v) (hj : DataW.Trod enc P W 0 (fun _ => true) true t v d p) (hsz : (DataW.weightsEach P ts ds).all (· ≤ reachBytes) = true) (k1 : ts[j]? = some t) (k2 : ds[j]? = some d) :
    ∃ (A : Option Addr) (n c : Nat) (bss : List (List UInt8)), v = .slice A n c ∧ (bss.length = n ∧ RdS W A bss ∧ n ≤ c ∧ c ≤ maxLen ∧ n * 24 ≤ 140737488351232 ∧ ∀ b ∈ bss, b.length ≤ 140737488351232) := by
  obtain ⟨a0, len, cap, rfl⟩ := okWide_slice ht hv
  obtain ⟨fuel, hf⟩ := hj
  rcases Deep.open_int_rows ht he hq ce cq hf with ⟨hcs, _⟩ | ⟨a, l, c, A, L, C, Z, hcs, _, hl, hm, hx, hcell⟩
  · simp [Value.cells] at hcs
    obtain ⟨rfl, rfl, rfl⟩ := hcs
    exact ⟨none, 0, 0, [], rfl, rfl, .inl rfl, Nat.le_refl _, Nat.zero_le _, by decide, by simp⟩
  · simp [Value.cells] at hcs
    obtain ⟨rfl, rfl, rfl⟩ := hcs
    simp only [Prod.mk.injEq] at hx
    obtain ⟨rfl, _⟩ := hx
    have hb := sized_slice hsz k1 k2 ht
    rw [be] at hb
    simp only [List.length_map, List.length_range, reachBytes] at hb
    have each : ∀ i, i < len → ∃ b : List UInt8, b.length = L i ∧ Rd W (A i) (b.map bv) ∧ b.length ≤ 140737488351232 := by
      intro i hi
      obtain ⟨g1, g2, g3, g4, g5, g6, g7⟩ := hcell i (by omega)
      cases hA : A i with
      | none =>
        have h0 := g6 hA
        exact ⟨[], by simp; omega, .inl rfl, by simp⟩
      | some a' =>
        obtain ⟨_, h2⟩ := g7 a' hA
        obtain ⟨bs, h3, h4⟩ := rd_of_ints (W := W) (a := a') (zs := Z i) (len := L i) (by omega) (fun k hk => h2 k (by omega)) g5
        refine ⟨bs, h3, h4, ?_⟩
        have hmem : DataW.slice (lits (H := H) .u8 ((Z i).take (L i))) (lits .u8 ((Z i).drop (L i))) ∈ (List.range len).map (fun r => Deep.intRow (H := H) .u8 (A r) (L r) (Z r)) := by
          refine List.mem_map.2 ⟨i, List.mem_range.2 hi, ?_⟩
          simp [Deep.intRow, hA]
        have h5 := sized_inner hsz k1 k2 ht he hmem
        rw [bq] at h5
        simp only [lits, List.length_map, List.length_take, List.length_drop, reachBytes] at h5
        omega
    obtain ⟨bss, z1, z2⟩ := list_of_all len each
    refine ⟨some a, len, _, bss, rfl, z1, ?_, hl, hm, by omega, fun b hb' => ?_⟩
    · rcases Nat.eq_zero_or_pos len with h0 | h0
      · left; exact List.eq_nil_of_length_eq_zero (by omega)
      · obtain ⟨b, off, spot⟩ := a
        have hz0 := (hcell 0 (by omega)).1
        have hsp : spot = none := by simpa [Addr.add] using World.cell?_spot hz0
        subst hsp
        refine .inr ⟨b, off, rfl, World.block_lt_of_cell? W ⟨b, off, none⟩ (by simpa [Addr.add] using hz0), fun k hk => ?_⟩
        obtain ⟨g1, g2, g3, _⟩ := hcell k (by omega)
        obtain ⟨z3, z4, _⟩ := z2 k hk
        rw [Addr.add_lit] at g1
        exact ⟨A k, C k, by rw [z3]; exact g1, z4, by rw [z3]; exact g2, g3⟩
    · obtain ⟨i, hi, rfl⟩ := List.mem_iff_getElem.1 hb'
      exact (z2 i hi).2.2

/-- The address reads as these ints. -/
def RdI (w : World) (A : Option Addr) (zs : List Int) : Prop :=
  zs = [] ∨ ∃ b off, A = some ⟨b, off, none⟩ ∧ b < w.heap.size ∧ ∀ k (h : k < zs.length), w.cell? ⟨b, off + k, none⟩ = some (.int .i64 zs[k])
theorem RdI.below {w w' : World} {A : Option Addr} {zs : List Int} (h : RdI w A zs) (hb : Below w.heap.size w w') : RdI w' A zs := by
  rcases h with h | ⟨b, off, hA, hlt, hc⟩
  · exact .inl h
  · exact .inr ⟨b, off, hA, Nat.lt_of_lt_of_le hlt hb.size, fun k hk => (hb.cell (p := ⟨b, _, none⟩) hlt).trans (hc k hk)⟩
theorem RdI.addr {w : World} {A : Option Addr} {zs : List Int} (h : RdI w A zs) (h0 : 0 < zs.length) : ∃ b off, A = some ⟨b, off, none⟩ ∧ b < w.heap.size ∧ ∀ k (h : k < zs.length), w.cell? ⟨b, off + k, none⟩ = some (.int .i64 zs[k]) := by
  rcases h with rfl | h
  · simp at h0
  · exact h
theorem opn_ints {H : Type} {enc : TypeId × Value → H} {P : Program} {W : World} {base t e j : Nat} {v : Value} {d : DataW H} {p : List MemPlace} {ts : List TypeId} {ds : List (DataW H)} (ht : P.underlying t = some (.slice e)) (he : P.underlying e = some (.int .i64)) (hc : P.cellsOf e = 1) (hb : P.bytesOf e = 8)
    (hv : Value.okWide P W .any base t v) (hj : DataW.Trod enc P W 0 (fun _ => true) true t v d p) (hsz : (DataW.weightsEach P ts ds).all (· ≤ reachBytes) = true) (h1 : ts[j]? = some t) (h2 : ds[j]? = some d) :
    ∃ (A : Option Addr) (n c : Nat) (zs : List Int), v = .slice A n c ∧ (zs.length = n ∧ RdI W A zs ∧ n ≤ c ∧ c ≤ maxLen ∧ n * 8 ≤ 140737488351232 ∧ ∀ z ∈ zs, (Lit.int .i64 z).wf = true) := by
  obtain ⟨a0, len, cap, rfl⟩ := okWide_slice ht hv
  obtain ⟨fuel, hf⟩ := hj
  rcases open_ints ht he hc hf with ⟨hcs, _⟩ | ⟨x, l, c, zs, hcs, _, hl, hm, hz, hx, hcell, hwz⟩
  · simp [Value.cells] at hcs
    obtain ⟨rfl, rfl, rfl⟩ := hcs
    exact ⟨none, 0, 0, [], rfl, rfl, .inl rfl, Nat.le_refl _, Nat.zero_le _, by decide, by simp⟩
  · simp [Value.cells] at hcs
    obtain ⟨rfl, rfl, rfl⟩ := hcs
    simp only [Prod.mk.injEq] at hx
    obtain ⟨rfl, _⟩ := hx
    simp only [if_true] at hz
    have hs := sized_slice hsz h1 h2 ht
    rw [hb] at hs
    simp only [lits, List.length_map, List.length_take, List.length_drop, reachBytes] at hs
    refine ⟨some x, len, cap, zs.take len, rfl, by simp; omega, ?_, hl, hm, by omega, fun z hz' => hwz z (List.mem_of_mem_take hz')⟩
    rcases Nat.eq_zero_or_pos len with h0 | h0
    · subst h0; exact .inl (by simp)
    · obtain ⟨b, off, spot⟩ := x
      have h1 := hcell 0 (by omega)
      have hs : spot = none := by simpa [Addr.add] using World.cell?_spot h1
      subst hs
      refine .inr ⟨b, off, rfl, World.block_lt_of_cell? W ⟨b, off, none⟩ (by simpa [Addr.add] using h1), fun k hk => ?_⟩
      have hk' : k < zs.length := by simp at hk; omega
      have h2 := hcell k hk'
      rw [Addr.add_lit] at h2
      rw [h2]
      simp [hk']
end Go.Proofs.Ytgnciejbhaebeaa

/- What slices.Contains and tlv.Pick answer. Conditions: items and numbers that can be read; few items. -/
namespace Go.Proofs.Ytgnciejbhaebeaa
open Go Go.RowKit

set_option maxRecDepth 100000 in
set_option maxHeartbeats 2000000 in
theorem IndexI_c (A : Option Addr) (n c : Nat) (zs : List Int) (x : Int) (w : World) (hn : zs.length = n) (hr : RdI w A zs) (hl : n ≤ 140737488355328) :
    Calls Try.prog 92 #[.slice A n c, .int .i64 x] w fun r w' => ∃ i : Int, r = .returned (.int .i64 i) ∧ decide (0 ≤ i) = decide (x ∈ zs) ∧ w' = w := by
  have HN := Lib.hid hn; clear hn
  have HR := Lib.hid hr; clear hr
  obtain ⟨B, eB⟩ : ∃ B, B = decide (x ∈ zs) := ⟨_, rfl⟩
  rw [← eB]
  have EB := Lib.hid eB; clear eB
  go_enter Try.func92, Try.ntmps92
  go_wp2_with (fail)
  go_loopw [8] (fun i wr => ∃ k : Nat, i = .int .i64 k ∧ k ≤ n ∧ Hid (∀ j (h : j < zs.length), j < k → zs[j] ≠ x) ∧ wr = w) (fun i _ => n - (intOf i).toNat)
  case atStart => exact ⟨0, rfl, Nat.zero_le _, Lib.hid (fun j h h0 => absurd h0 (Nat.not_lt_zero _)), rfl⟩
  case round =>
    obtain ⟨k, rfl, hk, HP, rfl⟩ := hrel
    rcases Nat.lt_or_ge k n with hlt | hge
    · have hlt' : (k : Int) < (n : Int) := by omega
      have hkz : k < zs.length := by rw [HN.out]; exact hlt
      obtain ⟨b, off, rfl, hb, hc⟩ := HR.out.addr (by omega)
      have c0 := hc k hkz
      obtain ⟨z, ez⟩ : ∃ z, z = zs[k] := ⟨_, rfl⟩
      rw [← ez] at c0
      have EZ := Lib.hid ez
      clear hc ez
      by_cases he : x = z
      · have e0 : (x == z) = true := by rw [he]; exact beq_self_eq_true _
        have hB : B = true := by rw [EB.out]; exact decide_eq_true (by rw [he, EZ.out]; exact List.getElem_mem _)
        have HB := Lib.hid hB
        clear he hB
        go_wp2_with (fail)
        go_ret
        exact ⟨_, rfl, by rw [HB.out]; exact decide_eq_true (by omega), rfl⟩
      · have e0 : (x == z) = false := by rw [beq_eq_false_iff_ne]; exact he
        have HE := Lib.hid he
        clear he
        go_wp2_with (fail)
        go_roundw
        case rel =>
          refine ⟨k + 1, by go_num, by omega, Lib.hid (fun j h hj => ?_), trivial⟩
          by_cases e : j = k
          · subst e; rw [← EZ.out]; exact fun e => HE.out e.symm
          · exact HP.out j h (by omega)
        case measure => simp [intOf]; omega
    · have hge' : (n : Int) ≤ (k : Int) := by omega
      have hB : B = false := by
        rw [EB.out]
        refine decide_eq_false (fun h => ?_)
        obtain ⟨j, hj, e⟩ := List.getElem_of_mem h
        exact HP.out j hj (by have := HN.out; omega) e
      have HB := Lib.hid hB
      clear hB
      go_wp2_with (fail)
      go_ret
      exact ⟨_, rfl, by rw [HB.out]; rfl, rfl⟩
set_option maxRecDepth 100000 in
set_option maxHeartbeats 2000000 in
theorem ContainsI_c (A : Option Addr) (n c : Nat) (zs : List Int) (x : Int) (w : World) (hn : zs.length = n) (hr : RdI w A zs) (hl : n ≤ 140737488355328) :
    Calls Try.prog 72 #[.slice A n c, .int .i64 x] w fun r w' => r = .returned (.bool (decide (x ∈ zs))) ∧ w' = w := by
  have ix := IndexI_c A n c zs x w hn hr hl
  have IX := Lib.hid ix; clear ix hn hr
  obtain ⟨B, eB⟩ : ∃ B, B = decide (x ∈ zs) := ⟨_, rfl⟩
  rw [← eB] at IX ⊢
  clear eB
  go_enter Try.func72, Try.ntmps72
  go_wp2_with (fail)
  refine IX.out.mono ?_
  rintro _ wx ⟨i, rfl, hi, hx⟩
  rw [hx]
  clear hx wx
  go_wp2_with (fail)
  go_ret
  exact ⟨rfl, rfl⟩
/-- The items that are known. -/
def pickF (ks : List Int) : Fo → Fo
  | .nil => .nil
  | .cons k cr li bs sub rest => if k ∈ ks then .cons k cr li bs sub (pickF ks rest) else pickF ks rest
/-- Is there one that must be known and isn't? -/
def critF (ks : List Int) : Fo → Bool
  | .nil => false
  | .cons k cr _ _ _ rest => (!decide (k ∈ ks) && cr) || critF ks rest
def pickT (ks : List Int) (f : Fo) : Nat × Fo := if critF ks f then (7, .nil) else (0, pickF ks f)
theorem pickF_app (ks : List Int) (g : Fo) : ∀ (f : Fo), pickF ks (f.app g) = (pickF ks f).app (pickF ks g)
  | .nil => rfl
  | .cons k cr li bs sub rest => by
    rw [Fo.app, pickF, pickF, pickF_app ks g rest]
    split <;> rfl
theorem critF_app (ks : List Int) (g : Fo) : ∀ (f : Fo), critF ks (f.app g) = (critF ks f || critF ks g)
  | .nil => rfl
  | .cons k cr li bs sub rest => by rw [Fo.app, critF, critF, critF_app ks g rest, Bool.or_assoc]
theorem pickF_len (ks : List Int) : ∀ (f : Fo), (pickF ks f).len ≤ f.len
  | .nil => Nat.le_refl _
  | .cons k cr li bs sub rest => by
    have := pickF_len ks rest
    rw [pickF]
    split
    · simp only [Fo.len]; omega
    · simp only [Fo.len]; omega
set_option maxRecDepth 100000 in
set_option maxHeartbeats 4000000 in
theorem Pick_c (f : Fo) (ok : Nat → Prop) (A : Option Addr) (n c : Nat) (Ak : Option Addr) (nk ck : Nat) (ks : List Int) (w : World) (hn : f.len = n) (h1 : FoR ok w A 0 f) (hs : f.size ≤ 100000) (hk : ks.length = nk) (hr : RdI w Ak ks) (hlk : nk ≤ 140737488355328) :
    Calls Try.prog 52 #[.slice A n c, .slice Ak nk ck] w fun r w' => ∃ v, r = .returned (.tuple #[v, .int .i64 ((pickT ks f).1 : Int)]) ∧ FoO (w.heap.size ≤ ·) w' v (pickT ks f).2 ∧ Below w.heap.size w w' := by
  have HN := Lib.hid hn
  have H1 := Lib.hid h1; clear h1
  have HKS := Lib.hid hk; clear hk
  have HRK := Lib.hid hr; clear hr
  have hl : n ≤ 100000 := by have := Fo.len_le f; omega
  have HSF := Lib.hid hs
  clear hn hs
  obtain ⟨T, eT⟩ : ∃ T, T = pickT ks f := ⟨_, rfl⟩
  rw [← eT]
  have ET := Lib.hid eT; clear eT
  go_enter Try.func52, Try.ntmps52
  go_wp2_with (fail)
  go_loopw [6, 11] (fun v i wr => ∃ (q : Nat) (r P : Fo) (ds : List ItV), i = .int .i64 q ∧ Hid (q + r.len = n) ∧ Hid (FoR ok w A q r) ∧ Hid (r.size ≤ f.size) ∧ Hid (f = P.app r) ∧ Hid (critF ks P = false) ∧ Hid (P.len = q) ∧ Hid (FoP (w.heap.size ≤ ·) wr v ds (pickF ks P)) ∧ Hid (Below w.heap.size w wr)) (fun _ i _ => n - (intOf i).toNat)
  case atStart => exact ⟨0, f, .nil, [], rfl, Lib.hid (by rw [HN.out]; omega), H1, Lib.hid (Nat.le_refl _), Lib.hid rfl, Lib.hid rfl, Lib.hid rfl, Lib.hid (FoP.nil_ _ _), Lib.hid (Below.refl _ _)⟩
  case round =>
    obtain ⟨q, r, P, ds, rfl, HK, R1, HSz, HF, HCr, HPl, HS, HB⟩ := hrel
    cases r with
    | nil =>
      have hk : q = n := HK.out
      have hk' : (n : Int) ≤ (q : Int) := by omega
      have hF : f = P := by rw [HF.out, Fo.app_nil]
      have e0 : T = (0, pickF ks P) := by rw [ET.out, pickT, hF, HCr.out]; rfl
      have E0 := Lib.hid e0
      clear hk hF e0
      go_wp2_with (fail)
      go_ret2
      exact ⟨_, by rw [E0.out]; rfl, by rw [E0.out]; exact HS.out.o, HB.out⟩
    | cons z cr li bs sub rest =>
      obtain ⟨⟨b1, o1, At, m, cm, As1, e1, eA, hb1, -, ⟨c0, ca, cb, cc, cd⟩, tt, s1, l1, l2, l3⟩, r1⟩ := R1.out.one
      subst eA
      have hlt : q < n := by have := HK.out; simp only [Fo.len] at this; omega
      have kb := HB.out
      have TT := Lib.hid tt
      have S1 := Lib.hid s1
      have R1b := Lib.hid r1
      rw [← kb.cell (p := ⟨b1, _, none⟩) hb1] at c0 ca cb cc cd
      have HSb : Hid (rest.size ≤ f.size) := Lib.hid (by have := HSz.out; simp only [Fo.size] at this; omega)
      have HSs : Hid (sub.size ≤ 100000) := Lib.hid (by have := HSz.out; have := HSF.out; simp only [Fo.size] at *; omega)
      have HKb : Hid (q + 1 + rest.len = n) := Lib.hid (by have := HK.out; simp only [Fo.len] at this; omega)
      have HFb : Hid (f = (P.app (.cons z cr li bs sub .nil)).app rest) := Lib.hid (by rw [HF.out, Fo.app_assoc]; rfl)
      obtain ⟨sl, esl⟩ : ∃ sl, sl = sub.len := ⟨_, rfl⟩
      rw [← esl] at cd l1 l3
      have ESL := Lib.hid esl
      have hlt' : (q : Int) < (n : Int) := by omega
      obtain ⟨w5, ew5⟩ : ∃ w5, w5 = wr.alloc (.cells #[.int .i64 z, .bool cr, .bool li, .slice At m cm, .slice As1 sl e1] 95) := ⟨_, rfl⟩
      obtain ⟨gy, egy⟩ : ∃ gy, gy = wr.heap.size := ⟨_, rfl⟩
      have b5 : Below wr.heap.size wr w5 := by rw [ew5]; exact (Below.refl _ _).alloc (Nat.le_refl _) _
      have h5 : w5.heap[gy]? = some (.cells #[.int .i64 z, .bool cr, .bool li, .slice At m cm, .slice As1 sl e1] 95 (0, 0)) := by rw [ew5, egy]; exact heap_alloc_new _ _
      have HS5 := Lib.hid (HS.out.below b5)
      have HB5 : Hid (Below w.heap.size w w5) := Lib.hid (HB.out.trans (b5.mono HB.out.size))
      obtain ⟨p0, p1, p2, p3, p4⟩ : w5.cell? ⟨gy, 0, none⟩ = some (.int .i64 z) ∧ w5.cell? ⟨gy, 1, none⟩ = some (.bool cr) ∧ w5.cell? ⟨gy, 2, none⟩ = some (.bool li) ∧ w5.cell? ⟨gy, 3, none⟩ = some (.slice At m cm) ∧ w5.cell? ⟨gy, 4, none⟩ = some (.slice As1 sl e1) := by
        refine ⟨?_, ?_, ?_, ?_, ?_⟩ <;> (rw [heap_cell h5]; rfl)
      have EW5 := Lib.hid ew5
      have EGY := Lib.hid egy
      have Z5 : Hid (wr.heap.size < w5.heap.size) := Lib.hid (by rw [ew5]; simp)
      have ci := ContainsI_c Ak nk ck ks z w5 HKS.out (by
        rcases HRK.out with h | ⟨b, off, h1, h2, h3⟩
        · exact .inl h
        · exact .inr ⟨b, off, h1, Nat.lt_of_lt_of_le h2 HB5.out.size, fun k hk => (HB5.out.cell (p := ⟨b, off + k, none⟩) h2).trans (h3 k hk)⟩) hlk
      have CI := Lib.hid ci
      clear ew5 egy b5 h5 tt s1 r1 esl HK HSz HF R1 kb l1 l2 ci
      go_upto_region 5 with (fail)
      rw [← EW5.out, ← EGY.out]
      clear c0 ca cb cc cd
      go_wp2_with (fail)
      refine CI.out.mono ?_
      rintro _ wx ⟨rfl, hx⟩
      rw [hx]
      clear hx wx
      by_cases hin : z ∈ ks
      · have d0 : decide (z ∈ ks) = true := decide_eq_true hin
        have hpk : Hid (pickF ks (P.app (.cons z cr li bs sub .nil)) = (pickF ks P).app (.cons z cr li bs sub .nil)) := Lib.hid (by rw [pickF_app]; simp only [pickF, if_pos hin])
        have hcr : Hid (critF ks (P.app (.cons z cr li bs sub .nil)) = false) := Lib.hid (by rw [critF_app, HCr.out]; simp [critF, hin])
        clear hin
        go_wp2_with (fail)
        refine (clone_it sub.size sub rfl ok z cr li bs At m cm As1 sl e1 w5 (TT.out.frame (fun j _ hj => HB5.out.block j hj) HB5.out.size) ESL.out.symm (S1.out.below HB5.out) HSs.out).mono ?_
        rintro _ w6 ⟨⟨dk, dc, dl, dA, dn, dcc, dAs, dns, dcs⟩, rfl, ho6, hb6⟩
        unfold ItV.val
        dsimp only
        have HS6 := Lib.hid (HS5.out.below hb6)
        have HB6 : Hid (Below w.heap.size w w6) := Lib.hid (HB5.out.trans (hb6.mono HB5.out.size))
        have b67 : Below w6.heap.size w6 (w6.alloc (.cells #[.int .i64 dk, .bool dc, .bool dl, .slice dA dn dcc, .slice dAs dns dcs] 95)) := (Below.refl _ _).alloc (Nat.le_refl _) _
        have HS7 := Lib.hid (HS6.out.below b67)
        have HB7 : Hid (Below w.heap.size w (w6.alloc (.cells #[.int .i64 dk, .bool dc, .bool dl, .slice dA dn dcc, .slice dAs dns dcs] 95))) := Lib.hid (HB6.out.trans (b67.mono HB6.out.size))
        have lov := fun j e => (HS.out.lt j e)
        have HD7 : Hid (ItsO (fun j => w.heap.size ≤ j ∧ u6.ownBlock ≠ some j) (w6.alloc (.cells #[.int .i64 dk, .bool dc, .bool dl, .slice dA dn dcc, .slice dAs dns dcs] 95)) [⟨dk, dc, dl, dA, dn, dcc, dAs, dns, dcs⟩] (.cons z cr li bs sub .nil)) :=
          Lib.hid ((ho6.frame (fun j _ hj => b67.block j hj)).weak (fun j hj _ => by
            have h1 : w5.heap.size ≤ j := hj
            have h2 := HB.out.size
            have h3 := Z5.out
            exact ⟨by omega, fun e => by have := lov j e; omega⟩))
        have HR7 := Lib.hid (Rd.lit w6 (cellsI [⟨dk, dc, dl, dA, dn, dcc, dAs, dns, dcs⟩]) 95)
        have hdl : ds.length ≤ 100000 := by rw [ItsO.len _ ds HS7.out.its]; have := pickF_len ks P; have := HPl.out; omega
        clear ho6 hb6 b67 lov p0 p1 p2 p3 p4 HS5
        go_wp2_with (at_builtin; refine wpList_appI _ rfl (.tmp 20) (.tmp 23) rfl 0 _ ds rfl HS7.out.row (some ⟨w6.heap.size, 0, none⟩) 1 1 [⟨dk, dc, dl, dA, dn, dcc, dAs, dns, dcs⟩] rfl rfl HR7.out (by omega) (Nat.zero_le _) ?_; intro v12 w12 ho12 hg12 hv12; have HS12 := Lib.hid (HS7.out.more HD7.out ho12 hg12 hv12 HB7.out.size); have HB12 := Lib.hid (HB7.out.grown hg12 HB7.out.size (fun k e => HS7.out.ok_ k e)); clear ho12 hg12 hv12)
        go_roundw
        case rel => exact ⟨q + 1, rest, _, _, by go_num, HKb, R1b, HSb, HFb, hcr, Lib.hid (by rw [Fo.len_app, HPl.out]; rfl), Lib.hid (by rw [hpk.out]; exact HS12.out), HB12⟩
        case measure => simp [intOf]; omega
      · have d0 : decide (z ∈ ks) = false := decide_eq_false hin
        cases cr with
        | true =>
          have e0 : T = (7, .nil) := by rw [ET.out, pickT, HFb.out, critF_app, critF_app]; simp [critF, hin]
          have E0 := Lib.hid e0
          clear e0 hin
          go_wp2_with (fail)
          go_ret2
          exact ⟨_, by rw [E0.out]; rfl, by rw [E0.out]; exact FoO.nil_ _ _, HB5.out⟩
        | false =>
          have hpk : Hid (pickF ks (P.app (.cons z false li bs sub .nil)) = pickF ks P) := Lib.hid (by rw [pickF_app]; simp only [pickF, if_neg hin]; exact Fo.app_nil _)
          have hcr : Hid (critF ks (P.app (.cons z false li bs sub .nil)) = false) := Lib.hid (by rw [critF_app, HCr.out]; simp [critF])
          clear hin
          go_wp2_with (fail)
          go_roundw
          case rel => exact ⟨q + 1, rest, _, ds, by go_num, HKb, R1b, HSb, HFb, hcr, Lib.hid (by rw [Fo.len_app, HPl.out]; rfl), Lib.hid (by rw [hpk.out]; exact HS5.out), HB5⟩
          case measure => simp [intOf]; omega
end Go.Proofs.Ytgnciejbhaebeaa

/- What the reference's Pick answers. Conditions: items and numbers that can be read. -/
namespace Go.Proofs.Ytgnciejbhaebeaa
open Go Go.RowKit

theorem mem_take_succ {zs : List Int} {k : Nat} (h : k < zs.length) (z : Int) : decide (z ∈ zs.take (k + 1)) = (decide (z ∈ zs.take k) || decide (zs[k] = z)) := by
  have e : (z ∈ zs.take (k + 1)) = (z ∈ zs.take k ∨ zs[k] = z) := by
    rw [List.take_succ_eq_append_getElem h, List.mem_append, List.mem_singleton, eq_comm (a := z)]
  simp only [e, Bool.decide_or]
theorem ItsR.row1 {ok : Nat → Prop} {w : World} {z : Int} {cr li : Bool} {bs : List UInt8} {sub : Fo} {At As : Option Addr} {m cm e1 : Nat} (tt : TxtR ok w At m cm bs) (s1 : FoR ok w As 0 sub) (l1 : sub.len ≤ e1) (l2 : e1 ≤ maxLen) (l3 : sub.len ≤ 2199023255488) (hk : ∀ j, ok j → j < w.heap.size → j < w.heap.size) :
    ItsR (· < w.heap.size) w [⟨z, cr, li, At, m, cm, As, sub.len, e1⟩] (.cons z cr li bs sub .nil) :=
  ⟨_, [], rfl, rfl, rfl, rfl, tt.weak hk, ⟨rfl, s1.weak hk, l1, l2, l3⟩, rfl⟩
set_option maxRecDepth 100000 in
set_option maxHeartbeats 8000000 in
theorem refPick_c (f : Fo) (ok : Nat → Prop) (A : Option Addr) (n c : Nat) (Ak : Option Addr) (nk ck : Nat) (ks : List Int) (w : World) (hn : f.len = n) (h1 : FoR ok w A 0 f) (hl : n ≤ 100000) (hk : ks.length = nk) (hr : RdI w Ak ks) (hlk : nk ≤ 140737488355328) :
    Calls Try.prog 53 #[.slice A n c, .slice Ak nk ck] w fun r w' => ∃ v, r = .returned (.tuple #[v, .int .i64 ((pickT ks f).1 : Int)]) ∧ FoM (fun _ => True) w' v (pickT ks f).2 ∧ Below w.heap.size w w' := by
  have HN := Lib.hid hn; clear hn
  have H1 := Lib.hid h1; clear h1
  have HKS := Lib.hid hk; clear hk
  have HRK := Lib.hid hr; clear hr
  obtain ⟨T, eT⟩ : ∃ T, T = pickT ks f := ⟨_, rfl⟩
  rw [← eT]
  have ET := Lib.hid eT; clear eT
  go_enter Try.func53, Try.ntmps53
  go_wp2_with (fail)
  go_loopw [6, 7] (fun v i wr => ∃ (q : Nat) (r P : Fo) (ds : List ItV), i = .int .i64 q ∧ Hid (q + r.len = n) ∧ Hid (FoR ok w A q r) ∧ Hid (f = P.app r) ∧ Hid (critF ks P = false) ∧ Hid (P.len = q) ∧ Hid (OwnI wr w.heap.size v ds) ∧ Hid (ItsR (· < w.heap.size) w ds (pickF ks P)) ∧ Hid (Below w.heap.size w wr)) (fun _ i _ => n - (intOf i).toNat)
  case atStart => exact ⟨0, f, .nil, [], rfl, Lib.hid (by rw [HN.out]; omega), H1, Lib.hid rfl, Lib.hid rfl, Lib.hid rfl, Lib.hid (World.ownsRow_made w #[] 0 (Nat.le_refl _) (Nat.zero_le _) rfl), Lib.hid rfl, Lib.hid ((Below.refl _ _).alloc (Nat.le_refl _) _)⟩
  case round =>
    obtain ⟨wo, rfl⟩ : ∃ wo, wo = wr := ⟨_, rfl⟩
    obtain ⟨q, r, P, ds, rfl, HK, R1, HF, HCr, HPl, HO, HI, HB⟩ := hrel
    cases r with
    | nil =>
      have hk : q = n := HK.out
      have hk' : (n : Int) ≤ (q : Int) := by omega
      have hF : f = P := by rw [HF.out, Fo.app_nil]
      have e0 : T = (0, pickF ks P) := by rw [ET.out, pickT, hF, HCr.out]; rfl
      have E0 := Lib.hid e0
      clear hk hF e0
      go_wp2_with (fail)
      go_ret2
      refine ⟨_, by rw [E0.out]; rfl, ?_, HB.out⟩
      rw [E0.out]
      exact ⟨ds, HO.out.low (Nat.zero_le _), fun _ _ => trivial, (ItsR.frame (fun j (hj : j < w.heap.size) _ => HB.out.block j hj) HB.out.size _ _ HI.out).weak (fun _ _ _ => trivial)⟩
    | cons z cr li bs sub rest =>
      obtain ⟨⟨b1, o1, At, m, cm, As1, e1, eA, hb1, -, ⟨c0, ca, cb, cc, cd⟩, tt, s1, l1, l2, l3⟩, r1⟩ := R1.out.one
      subst eA
      have hlt : q < n := by have := HK.out; simp only [Fo.len] at this; omega
      have kb := HB.out
      have D1 := Lib.hid (ItsR.row1 (z := z) (cr := cr) (li := li) tt s1 l1 l2 l3 (fun _ _ h => h))
      have R1b := Lib.hid r1
      rw [← kb.cell (p := ⟨b1, _, none⟩) hb1] at c0 ca cb cc cd
      have HKb : Hid (q + 1 + rest.len = n) := Lib.hid (by have := HK.out; simp only [Fo.len] at this; omega)
      have HFb : Hid (f = (P.app (.cons z cr li bs sub .nil)).app rest) := Lib.hid (by rw [HF.out, Fo.app_assoc]; rfl)
      obtain ⟨sl, esl⟩ : ∃ sl, sl = sub.len := ⟨_, rfl⟩
      rw [← esl] at cd l1 l3 D1
      have hlt' : (q : Int) < (n : Int) := by omega
      have C0 := Lib.hid c0
      have CA := Lib.hid ca
      have CB := Lib.hid cb
      have CC := Lib.hid cc
      have CD := Lib.hid cd
      have HB1 := Lib.hid hb1
      clear tt s1 r1 esl HK HF R1 kb l1 l2 c0 ca cb cc cd hb1
      go_wp2_with (fail)
      go_loopw [8, 9] (fun b k wr => ∃ (j : Nat), b = .bool (decide (z ∈ ks.take j)) ∧ k = .int .i64 j ∧ j ≤ nk ∧ ∃ y, wr = wo.drewN y) (fun _ k _ => nk - (intOf k).toNat)
      case atStart => exact ⟨0, by simp, rfl, Nat.zero_le _, 0, rfl⟩
      case round =>
        obtain ⟨j, hb, rfl, hj, y, rfl⟩ := hrel
        obtain ⟨B, eB⟩ : ∃ B, B = decide (z ∈ ks.take j) := ⟨_, rfl⟩
        rw [← eB] at hb
        subst hb
        have EB := Lib.hid eB
        clear eB
        have c0 := C0.out
        have ca := CA.out
        rcases Nat.lt_or_ge j nk with hjn | hjn
        · have hjk : j < ks.length := by rw [HKS.out]; exact hjn
          obtain ⟨bk, ok', rfl, hbk, hck⟩ := HRK.out.addr (by omega)
          have k0 := hck j hjk
          rw [← HB.out.cell (p := ⟨bk, _, none⟩) hbk] at k0
          obtain ⟨zj, ez⟩ : ∃ zj, zj = ks[j] := ⟨_, rfl⟩
          rw [← ez] at k0
          have hjn' : (j : Int) < (nk : Int) := by omega
          obtain ⟨E, eE⟩ : ∃ E, E = (zj == z) := ⟨_, rfl⟩
          have e0 : (zj == z) = E := eE.symm
          have hnew : Hid (decide (z ∈ ks.take (j + 1)) = (B || E)) := Lib.hid (by
            rw [mem_take_succ hjk, ← EB.out, eE, ez]
            congr 1)
          clear hck ez eE
          cases B with
          | true =>
            have hnew' : Hid (decide (z ∈ ks.take (j + 1)) = true) := Lib.hid (by rw [hnew.out]; rfl)
            clear hnew
            go_wp2_with (fail)
            go_quiet (fail)
            go_wp2_with (fail)
            go_roundw
            case rel => exact ⟨j + 1, by rw [hnew'.out], by go_num, by omega, _, rfl⟩
            case measure => simp [intOf]; omega
          | false =>
            have hnew' : Hid (decide (z ∈ ks.take (j + 1)) = E) := Lib.hid (by rw [hnew.out]; rfl)
            clear hnew
            go_wp2_with (fail)
            go_quiet (fail)
            go_wp2_with (fail)
            go_roundw
            case rel => exact ⟨j + 1, by rw [hnew'.out], by go_num, by omega, _, rfl⟩
            case measure => simp [intOf]; omega
        · have hjn' : (nk : Int) ≤ (j : Int) := by omega
          have hB : B = decide (z ∈ ks) := by rw [EB.out, List.take_of_length_le (by rw [HKS.out]; exact hjn)]
          have cb := CB.out
          have cc := CC.out
          have cd := CD.out
          have HOy := Lib.hid (HO.out.drewN y)
          have HBy : Hid (Below w.heap.size w (wo.drewN y)) := Lib.hid (below_drewN HB.out y)
          by_cases hin : z ∈ ks
          · rw [decide_eq_true hin] at hB
            subst hB
            have hpk : Hid (pickF ks (P.app (.cons z cr li bs sub .nil)) = (pickF ks P).app (.cons z cr li bs sub .nil)) := Lib.hid (by rw [pickF_app]; simp only [pickF, if_pos hin])
            have hcr : Hid (critF ks (P.app (.cons z cr li bs sub .nil)) = false) := Lib.hid (by rw [critF_app, HCr.out]; simp [critF, hin])
            have b67 : Below wo.heap.size (wo.drewN y) ((wo.drewN y).alloc (.cells #[.int .i64 z, .bool cr, .bool li, .slice At m cm, .slice As1 sl e1] 95)) := (Below.refl (wo.drewN y).heap.size (wo.drewN y)).alloc (Nat.le_refl _) _
            have HO7 : Hid (OwnI ((wo.drewN y).alloc (.cells #[.int .i64 z, .bool cr, .bool li, .slice At m cm, .slice As1 sl e1] 95)) w.heap.size u6 ds) := Lib.hid (HOy.out.below b67)
            have HB7 : Hid (Below w.heap.size w ((wo.drewN y).alloc (.cells #[.int .i64 z, .bool cr, .bool li, .slice At m cm, .slice As1 sl e1] 95))) := Lib.hid (HBy.out.trans (b67.mono HBy.out.size))
            have HR7 := Lib.hid (Rd.lit (wo.drewN y) (cellsI [⟨z, cr, li, At, m, cm, As1, sl, e1⟩]) 95)
            have hdl : ds.length ≤ 100000 := by rw [ItsR.len _ ds HI.out]; have := pickF_len ks P; have := HPl.out; omega
            clear hin b67 HOy HBy
            go_wp2_with (at_builtin; refine wpList_appI _ rfl (.tmp 37) (.tmp 42) rfl w.heap.size _ ds rfl HO7.out (some ⟨wo.heap.size, 0, none⟩) 1 1 [⟨z, cr, li, At, m, cm, As1, sl, e1⟩] rfl rfl HR7.out (by omega) HB7.out.size ?_; intro v12 w12 ho12 hg12 hv12; have HO12 := Lib.hid ho12; have HB12 := Lib.hid (HB7.out.grown hg12 HB7.out.size (fun k e => (HO7.out.lt k e).1)); clear ho12 hg12 hv12)
            go_roundw
            case measure => simp [intOf]; omega
            case rel => exact ⟨q + 1, rest, _, _, by go_num, HKb, R1b, HFb, hcr, Lib.hid (by rw [Fo.len_app, HPl.out]; rfl), HO12, Lib.hid (by rw [hpk.out]; exact ItsR.snoc D1.out _ _ HI.out), HB12⟩
          · rw [decide_eq_false hin] at hB
            subst hB
            cases cr with
            | true =>
              have e0 : T = (7, .nil) := by rw [ET.out, pickT, HFb.out, critF_app, critF_app]; simp [critF, hin]
              have E0 := Lib.hid e0
              clear e0 hin
              go_wp2_with (fail)
              go_ret2
              exact ⟨_, by rw [E0.out]; rfl, by rw [E0.out]; exact FoM.nil_ _ _, HBy.out⟩
            | false =>
              have hpk : Hid (pickF ks (P.app (.cons z false li bs sub .nil)) = pickF ks P) := Lib.hid (by rw [pickF_app]; simp only [pickF, if_neg hin]; exact Fo.app_nil _)
              have hcr : Hid (critF ks (P.app (.cons z false li bs sub .nil)) = false) := Lib.hid (by rw [critF_app, HCr.out]; simp [critF])
              clear hin
              go_wp2_with (fail)
              go_roundw
              case measure => simp [intOf]; omega
              case rel => exact ⟨q + 1, rest, _, ds, by go_num, HKb, R1b, HFb, hcr, Lib.hid (by rw [Fo.len_app, HPl.out]; rfl), HOy, Lib.hid (by rw [hpk.out]; exact HI.out), HBy⟩
end Go.Proofs.Ytgnciejbhaebeaa

/- The reference's row of items, in plain words: entries depth first, each with its depth and the kind ahead. Conditions: none. -/
namespace Go.Proofs.Ytgnciejbhaebeaa
open Go Go.RowKit

/-- An entry: the item's kind, whether critical, whether a list, how many bytes, how many items; its depth, the kind ahead. -/
structure En where
  k : Int
  cr : Bool
  li : Bool
  nb : Nat
  ns : Nat
  d : Int
  ah : Int
/-- The entries of a list, to depth 5. -/
def fullR : Fo → Int → Int → List En
  | .nil, _, _ => []
  | .cons k cr li bs sub rest, d, ah => ⟨k, cr, li, bs.length, sub.len, d, ah⟩ :: ((if d < 5 then fullR sub (d + 1) 0 else []) ++ fullR rest d k)
/-- The first ones, one more than 'most'. -/
def rowR (f : Fo) (d : Int) (most : Int) : List En := (fullR f d 0).take (most + 1).toNat

/-- One round: what is out, an item, its list's row. -/
theorem take_round {P S T : List En} {x : En} {m : Int} {O : List En} (hO : O = P.take (m + 1).toNat) (hL : (O.length : Int) ≤ m) :
    O ++ [x] ++ S.take (m - (O ++ [x]).length + 1).toNat = (P ++ (x :: S)).take (m + 1).toNat ∧ (P ++ (x :: (S ++ T))) = (P ++ (x :: S)) ++ T := by
  have hP : O = P := by
    rw [hO]
    refine List.take_of_length_le ?_
    have h2 := congrArg List.length hO
    rw [List.length_take] at h2
    omega
  subst hP
  refine ⟨?_, by simp⟩
  rw [List.length_append, List.length_singleton] 
  have e : (m + 1).toNat = O.length + ((m - ((O.length + 1 : Nat) : Int) + 1).toNat + 1) := by omega
  rw [e, List.take_length_add_append, List.take_succ_cons]
  simp
theorem take_one {P : List En} {x : En} {m : Int} {O : List En} (hO : O = P.take (m + 1).toNat) (hL : (O.length : Int) ≤ m) : O ++ [x] = (P ++ [x]).take (m + 1).toNat := by
  have h := (take_round (S := []) (T := []) (x := x) hO hL).1
  simpa using h
theorem take_done {P T : List En} {m : Int} {O : List En} (hO : O = P.take (m + 1).toNat) (hL : ¬ (O.length : Int) ≤ m) : O = (P ++ T).take (m + 1).toNat := by
  have h2 := congrArg List.length hO
  rw [List.length_take] at h2
  rw [List.take_append_of_le_length (by omega)]
  exact hO
end Go.Proofs.Ytgnciejbhaebeaa

/- Rows of the reference's entries in memory: seven cells each. Conditions: none. -/
namespace Go.Proofs.Ytgnciejbhaebeaa
open Go Go.RowKit

/-- An entry as it lies: its numbers, and where its bytes and items are. -/
structure EnV where
  k : Int
  cr : Bool
  li : Bool
  A : Option Addr
  nb : Nat
  cb : Nat
  As : Option Addr
  ns : Nat
  cs : Nat
  d : Int
  ah : Int
def EnV.en (x : EnV) : En := ⟨x.k, x.cr, x.li, x.nb, x.ns, x.d, x.ah⟩
def EnV.cells (x : EnV) : List Value := [.int .i64 x.k, .bool x.cr, .bool x.li, .slice x.A x.nb x.cb, .slice x.As x.ns x.cs, .int .i64 x.d, .int .i64 x.ah]
def cellsE (ds : List EnV) : List Value := ds.flatMap EnV.cells
theorem cellsE_cons (d : EnV) (ds : List EnV) : cellsE (d :: ds) = d.cells ++ cellsE ds := rfl
theorem cellsE_append (a b : List EnV) : cellsE (a ++ b) = cellsE a ++ cellsE b := by simp [cellsE]
theorem cellsE_length (ds : List EnV) : (cellsE ds).length = ds.length * 7 := by
  induction ds with
  | nil => rfl
  | cons d ds ih => rw [cellsE_cons, List.length_append, ih]; simp [EnV.cells]; omega
theorem cellsE_get : ∀ (ds : List EnV) (i : Nat) (h : i < ds.length) (j : Nat), j < 7 → (cellsE ds)[i * 7 + j]? = (ds[i].cells)[j]?
  | d :: ds, 0, _, j, hj => by
    rw [cellsE_cons, Nat.zero_mul, Nat.zero_add, List.getElem?_append_left (by simpa [EnV.cells] using hj)]
    rfl
  | d :: ds, i + 1, h, j, hj => by
    rw [cellsE_cons, List.getElem?_append_right (by simp [EnV.cells]; omega)]
    have e : (i + 1) * 7 + j - d.cells.length = i * 7 + j := by simp [EnV.cells]; omega
    rw [e, cellsE_get ds i (by simpa using h) j hj]
    rfl
theorem cellsE_one (ds : List EnV) : ∀ u ∈ cellsE ds, u.oneCell' = true := by
  intro u hu
  obtain ⟨d, _, h⟩ := List.mem_flatMap.1 hu
  simp only [EnV.cells, List.mem_cons, List.not_mem_nil, or_false] at h
  rcases h with rfl | rfl | rfl | rfl | rfl | rfl | rfl <;> rfl
def OwnE (w : World) (B : Nat) (v : Value) (ds : List EnV) : Prop := w.ownsRow B 122 7 v ds.length (cellsE ds)
theorem info_en : (Try.prog.info? 122).map (fun i => (i.zero, i.size, i.bytes)) = some (some (.agg #[.int .i64 0, .bool false, .bool false, .slice none 0 0, .slice none 0 0, .int .i64 0, .int .i64 0]), 7, 80) := by kernel_rfl

/-- 'append(v, xs...)' on entries. -/
theorem wpList_appE (w : World) {ops : Array Oper} {rest : List Oper} {o : Oper} {a : Act} {Q : Exit → Act → World → Prop} (hgd : o.guard = none) (s x : Operand)
    (ho : o.op = .call { callee := .builtin .append, args := #[s, x], argTypes := #[119, 119] })
    (B : Nat) (v : Value) (ds : List EnV) (hs : a.eval s = v) (hown : OwnE w B v ds)
    (A : Option Addr) (m c : Nat) (ns : List EnV) (hx : a.eval x = .slice A m c) (hm : ns.length = m) (hr : Rd w A (cellsE ns))
    (hlen : ds.length + m ≤ 1000000) (hB : B ≤ w.heap.size)
    (h : ∀ v' w', OwnE w' B v' (ds ++ ns) → w.grownBy w' v.ownBlock → (v'.ownBlock = v.ownBlock ∨ v'.ownBlock = some w.heap.size) → wpList Try.prog ops Q rest (a.put o.dst v') w') : wpList Try.prog ops Q (o :: rest) a w := by
  obtain ⟨i0, hi, hz0, hz1, hz2⟩ := info_parts info_en
  refine wpList_plain hgd fun K hK => ?_
  obtain ⟨v', w', hrun, h2, h3, h4⟩ := run_appN (P := Try.prog) w B 119 o.type 122 i0 _ 7 80 Try.underlying119 hi hz0 hz1 hz2 rfl (by decide) v ds.length (cellsE ds) hown A m c (cellsE ns) (by rw [cellsE_length, hm]) hr (cellsE_one _) (by unfold maxLen; omega) (by omega) hB
  unfold Oper.wp execOp
  simp only [ho, resolve, invoke, builtin, Sem.run_bind, Sem.run_pure, Result.andThen_ok, List.map_toArray, List.map_cons, List.map_nil, hs, hx, hrun]
  refine hK _ _ (h v' w' ?_ h3 h4)
  unfold OwnE
  rw [cellsE_append, List.length_append, hm]
  exact h2
theorem OwnE.form {w : World} {v : Value} {ds : List EnV} {B : Nat} (h : OwnE w B v ds) : ∃ A c, v = .slice A ds.length c ∧ ds.length ≤ c ∧ c ≤ maxLen ∧ Rd w A (cellsE ds) ∧ (∀ a, A = some a → B ≤ a.block ∧ a.block < w.heap.size ∧ a.off = 0 ∧ a.spot = none) ∧ (A = none → c = 0) := by
  obtain ⟨hl, h2⟩ := h
  rcases h2 with ⟨rfl, h0⟩ | ⟨g, cap, cur, rfl, hb, hg, hn, hm, hcs, ht⟩
  · obtain rfl : ds = [] := List.eq_nil_of_length_eq_zero h0
    exact ⟨none, 0, rfl, Nat.le_refl _, Nat.zero_le _, .inl rfl, fun a ha => by (cases ha), fun _ => rfl⟩
  · refine ⟨some ⟨g, 0, none⟩, cap, rfl, hn, hm, .inr ⟨g, 0, rfl, (Array.getElem?_eq_some_iff.1 hg).1, fun k hk => ?_⟩, fun a ha => ?_, fun ha => by (cases ha)⟩
    · rw [Nat.zero_add, cell_of_row w g k cur _ (0, 0) hg]
      have h1 : (cellsE ds)[k]? = some (cellsE ds)[k] := List.getElem?_eq_getElem hk
      rw [← h1]
      conv => rhs; rw [← ht]
      rw [List.getElem?_take, if_pos (by omega)]
      simp
    · injection ha with ha; subst ha; exact ⟨hb, (Array.getElem?_eq_some_iff.1 hg).1, rfl, rfl⟩
theorem OwnE.below {w w' : World} {B : Nat} {v : Value} {ds : List EnV} (h : OwnE w B v ds) (hb : Below w.heap.size w w') : OwnE w' B v ds := Own.frameK h (fun g e => hb.block g (World.ownsRow.lt h g e).2)
theorem OwnE.formL {w : World} {v : Value} {ds : List EnV} {B L : Nat} (h : OwnE w B v ds) (hL : ds.length = L) : ∃ A c, v = .slice A L c ∧ L ≤ c ∧ c ≤ maxLen ∧ Rd w A (cellsE ds) := by
  obtain ⟨A, c, h1, h2, h3, h4, -, -⟩ := h.form
  exact ⟨A, c, by rw [h1, hL], by rw [← hL]; exact h2, h3, h4⟩

/-- 'append(v, xs...)' on entries, the grown row laid open. -/
theorem wpList_appEL (w : World) {ops : Array Oper} {rest : List Oper} {o : Oper} {a : Act} {Q : Exit → Act → World → Prop} (hgd : o.guard = none) (s x : Operand)
    (ho : o.op = .call { callee := .builtin .append, args := #[s, x], argTypes := #[119, 119] })
    (W : World) (v : Value) (ds : List EnV) (L : Nat) (hs : a.eval s = v) (hown : OwnE w W.heap.size v ds) (hL : ds.length = L)
    (A : Option Addr) (m c : Nat) (ns : List EnV) (hx : a.eval x = .slice A m c) (hm : ns.length = m) (hr : Rd w A (cellsE ns))
    (hlen : L + m ≤ 1000000) (hB : Below W.heap.size W w)
    (h : ∀ A' c' w', OwnE w' W.heap.size (.slice A' (L + m) c') (ds ++ ns) → L + m ≤ c' → c' ≤ maxLen → Below W.heap.size W w' → wpList Try.prog ops Q rest (a.put o.dst (.slice A' (L + m) c')) w') : wpList Try.prog ops Q (o :: rest) a w := by
  refine wpList_appE w hgd s x ho W.heap.size v ds hs hown A m c ns hx hm hr (by omega) hB.size fun v' w' h1 h2 _ => ?_
  obtain ⟨A', c', rfl, h4, h5, -⟩ := h1.formL (L := L + m) (by rw [List.length_append, hL, hm])
  exact h A' c' w' h1 h4 h5 (hB.grown h2 hB.size (fun j hj => (World.ownsRow.lt hown j hj).1))
end Go.Proofs.Ytgnciejbhaebeaa

/- The bytes of a list of items, in plain words. Conditions: none. -/
namespace Go.Proofs.Ytgnciejbhaebeaa
open Go Go.RowKit

/-- An item's number: its kind, whether critical, whether a list. -/
def numI (k : Int) (cr li : Bool) : Nat := (4 * k).toNat + (if cr then 2 else 0) + (if li then 1 else 0)
def layL : Fo → List UInt8
  | .nil => []
  | .cons k cr li bs sub rest => varL (numI k cr li) ++ varL (if li then layL sub else bs).length ++ (if li then layL sub else bs) ++ layL rest
/-- Kinds and bytes that may be, all told. -/
def Fo.good : Fo → Prop
  | .nil => True
  | .cons k _ _ bs sub rest => 1 ≤ k ∧ k ≤ 1000 ∧ bs.length ≤ 4096 ∧ sub.good ∧ rest.good
theorem numI_le {k : Int} (cr li : Bool) (h1 : 1 ≤ k) (h2 : k ≤ 1000) : numI k cr li ≤ 4003 := by
  unfold numI
  cases cr <;> cases li <;> simp <;> omega
theorem varL_10 {n : Nat} (h : n ≤ 1000000000) : (varL n).length ≤ 10 := varL_len10 (by unfold U64; omega)
theorem layL_le : ∀ (f : Fo), f.good → f.size ≤ 100000 → (layL f).length ≤ 4116 * f.size
  | .nil, _, _ => by simp [layL]
  | .cons k cr li bs sub rest, h, hs => by
    obtain ⟨h1, h2, h3, h4, h5⟩ := h
    simp only [Fo.size] at hs
    have i1 := layL_le sub h4 (by omega)
    have i2 := layL_le rest h5 (by omega)
    have n1 := varL_10 (n := numI k cr li) (by have := numI_le cr li h1 h2; omega)
    have hin : (if li then layL sub else bs).length ≤ 4116 * sub.size + 4096 := by
      cases li
      · simp only [Bool.false_eq_true, if_false]; omega
      · simp only [if_true]; omega
    have n2 := varL_10 (n := (if li then layL sub else bs).length) (by omega)
    rw [layL, List.length_append, List.length_append, List.length_append]
    simp only [Fo.size]
    cases li
    · simp only [Bool.false_eq_true, if_false] at *; omega
    · simp only [if_true] at *; omega
end Go.Proofs.Ytgnciejbhaebeaa

/- What slices.Clone, keys.clone and the reference's Copy answer of events: the same events in memory of one's own. Conditions: events that can be read; lengths that fit. -/
namespace Go.Proofs.Ytgnciejbhaebeaa
open Go Go.RowKit

set_option maxRecDepth 100000 in
set_option maxHeartbeats 1000000 in
/-- slices.Clone: the same cells in a row of its own. -/
theorem CloneV_c (ok : Nat → Prop) (A : Option Addr) (n c : Nat) (ds : List EvV) (es : List Ev) (w : World) (hn : es.length = n) (hr : EvsR ok w A ds es) (hl : n ≤ 2513169434916) :
    Calls Try.prog 64 #[.slice A n c] w fun r w' => ∃ v, r = .returned v ∧ OwnV w' w.heap.size v ds ∧ Below w.heap.size w w' := by
  have hdn : ds.length = n := hr.len.trans hn
  have HD := Lib.hid hdn; clear hdn
  have HR := Lib.hid hr.row; clear hr hn
  cases A with
  | none =>
    have h0 : ds = [] := by
      rcases HR.out with h | ⟨_, _, h, _⟩
      · have := congrArg List.length h
        rw [cellsV_length] at this
        simp only [List.length_nil] at this
        exact List.eq_nil_of_length_eq_zero (by omega)
      · cases h
    subst h0
    have he : ∀ w : World, (binOp .eql 23 (.slice none n c) (.slice none 0 0)).run Try.prog w = .ok (.bool true) w := fun _ => rfl
    go_enter Try.func64, Try.ntmps64
    go_wp2_with (fail)
    go_ret
    exact ⟨_, rfl, World.ownsRow_nil _ _ _ _, Below.refl _ _⟩
  | some a =>
    have o1 : OwnV (w.alloc (.cells #[] 36)) w.heap.size (.slice (some ⟨w.heap.size, 0, none⟩) 0 0) [] := World.ownsRow_made w #[] 0 (Nat.le_refl _) (Nat.zero_le _) rfl
    have k1 : Below w.heap.size w (w.alloc (.cells #[] 36)) := (Below.refl _ _).alloc (Nat.le_refl _) _
    have O1 := Lib.hid o1; clear o1
    have he : ∀ w : World, (binOp .eql 23 (.slice (some a) n c) (.slice none 0 0)).run Try.prog w = .ok (.bool false) w := fun _ => rfl
    go_enter Try.func64, Try.ntmps64
    go_wp2_with (first | (at_builtin; refine wpList_appV _ rfl (.tmp 5) (.tmp 6) rfl w.heap.size _ [] rfl O1.out (some a) n c ds rfl HD.out (HR.out.below k1) (by simpa using hl) k1.size ?_; intro v2 w2 h2 h3 _; have H2 := Lib.hid h2; clear h2; have k2 := k1.grown h3 k1.size (fun k e => (World.ownsRow.lt O1.out k e).1); clear h3))
    go_ret
    exact ⟨_, rfl, by have := H2.out; simpa using this, k2⟩

/-- k of them have texts of their own. -/
def Cl (w : World) (B g n c : Nat) (ds : List EvV) (es : List Ev) (k : Nat) : Prop :=
  ∃ ds' : List EvV, ds'.length = n ∧ OwnV w B (.slice (some ⟨g, 0, none⟩) n c) ds' ∧ (∀ i (h1 : i < ds'.length) (h2 : i < es.length), i < k → EvO (g < ·) w ds'[i] es[i]) ∧ ∀ i (h1 : i < ds'.length) (h2 : i < ds.length), k ≤ i → ds'[i] = ds[i]
theorem Cl.below {w w' : World} {B g n c k : Nat} {ds : List EvV} {es : List Ev} (h : Cl w B g n c ds es k) (hb : Below w.heap.size w w') : Cl w' B g n c ds es k := by
  obtain ⟨ds', h1, h2, h3, h4⟩ := h
  exact ⟨ds', h1, h2.below hb, fun i g1 g2 g3 => (h3 i g1 g2 g3).frame (fun q _ hq => hb.block q hq), h4⟩
theorem Cl.put {w : World} {B g n c k : Nat} {ds : List EvV} {es : List Ev} (h : Cl w B g n c ds es k) (hds : ds.length = n) (hes : es.length = n) (hk : k < n) (A' : Option Addr) (n' c' : Nat)
    (ht : ∀ (h1 : k < ds.length) (h2 : k < es.length), EvO (g < ·) w (ds[k].txt A' n' c') es[k]) : Cl (w.setCell ⟨g, k * 5 + 1, none⟩ (.slice A' n' c')) B g n c ds es (k + 1) := by
  obtain ⟨ds', h1, h2, h3, h4⟩ := h
  have far : ∀ {d : EvV} {e : Ev}, EvO (g < ·) w d e → EvO (g < ·) (w.setCell ⟨g, k * 5 + 1, none⟩ (.slice A' n' c')) d e := fun h => h.frame (fun q hq _ => heap_far _ (by show q ≠ g; omega))
  have e := h4 k (by omega) (by omega) (Nat.le_refl _)
  refine ⟨_, by rw [List.length_set]; exact h1, h2.setT k (by omega) A' n' c', fun i g1 g2 g3 => ?_, fun i g1 g2 g3 => ?_⟩
  · rw [List.getElem_set]
    split
    · rename_i hki
      subst hki
      rw [e]
      exact far (ht _ _)
    · exact far (h3 i _ _ (by omega))
  · rw [List.getElem_set, if_neg (by omega)]
    exact h4 i _ _ (by omega)
theorem Cl.cell {w : World} {B g n c k : Nat} {ds : List EvV} {es : List Ev} (h : Cl w B g n c ds es k) (j : Nat) (hj : j < n) :
    ∃ u0 u1 u2 u3 u4, w.cell? ⟨g, j * 5, none⟩ = some u0 ∧ w.cell? ⟨g, j * 5 + 1, none⟩ = some u1 ∧ w.cell? ⟨g, j * 5 + 2, none⟩ = some u2 ∧ w.cell? ⟨g, j * 5 + 3, none⟩ = some u3 ∧ w.cell? ⟨g, j * 5 + 4, none⟩ = some u4 := by
  obtain ⟨ds', h1, h2, _⟩ := h
  obtain ⟨a0, a1, a2, a3, a4⟩ := h2.five j (by omega)
  exact ⟨_, _, _, _, _, a0, a1, a2, a3, a4⟩
theorem Cl.free {w : World} {B g n c k : Nat} {ds : List EvV} {es : List Ev} (h : Cl w B g n c ds es k) (j : Nat) : w.frozen? ⟨g, j, none⟩ = false := by
  obtain ⟨ds', _, h2, _⟩ := h
  exact h2.free j
theorem Cl.out {w : World} {B g n c : Nat} {ds : List EvV} {es : List Ev} (h : Cl w B g n c ds es n) (hes : es.length = n) : ∃ ds', EvsO (B ≤ ·) w (.slice (some ⟨g, 0, none⟩) n c) ds' es := by
  obtain ⟨ds', h1, h2, h3, h4⟩ := h
  have hg := h2.len.2.2.2.1
  refine ⟨ds', by omega, h2.low (Nat.zero_le _), fun k e => ?_, fun i g1 g2 => (h3 i g1 g2 (by omega)).weak (fun q hq _ => by have : g < q := hq; show B ≤ q; omega)⟩
  injection e with e
  subst e
  exact hg

set_option maxRecDepth 100000 in
set_option maxHeartbeats 2000000 in
theorem clone_c (ok : Nat → Prop) (A : Option Addr) (n c : Nat) (ds : List EvV) (es : List Ev) (w : World) (hn : es.length = n) (hr : EvsR ok w A ds es) (hl : n ≤ 2513169434916) :
    Calls Try.prog 63 #[.slice A n c] w fun r w' => ∃ v ds', r = .returned v ∧ EvsO (w.heap.size ≤ ·) w' v ds' es ∧ Below w.heap.size w w' := by
  have hdn : ds.length = n := hr.len.trans hn
  have HD := Lib.hid hdn; clear hdn
  have HN := Lib.hid hn
  go_enter Try.func63, Try.ntmps63
  go_wp2_with (fail)
  refine (CloneV_c ok A n c ds es w hn hr hl).mono ?_
  rintro e w1 ⟨v, rfl, ho1, hb1⟩
  obtain ⟨A1, c1, rfl, p1, p2, p3, p4, p5⟩ := OwnV.form ho1
  rw [HD.out] at p1 ho1 ⊢
  have HO1 := Lib.hid ho1; clear ho1
  rcases Nat.eq_zero_or_pos n with h0 | h0
  · subst h0
    have he : es = [] := List.eq_nil_of_length_eq_zero HN.out
    have hde : ds = [] := List.eq_nil_of_length_eq_zero HD.out
    subst he hde
    clear p3 p4 p5 hn hr
    go_wp2_with (fail)
    go_loopw [9] (fun i wr => i = .int .i64 (0 : Nat) ∧ wr = w1) (fun _ _ => 0)
    case atStart => exact ⟨rfl, rfl⟩
    case round =>
      obtain ⟨rfl, rfl⟩ := hrel
      go_wp2_with (fail)
      go_ret
      have h1 := HO1.out
      exact ⟨_, [], rfl, ⟨rfl, OwnV.low h1 (Nat.zero_le _), fun k e => (World.ownsRow.lt h1 k e).1, fun i h1 => absurd h1 (by simp)⟩, hb1⟩
  · obtain ⟨b, off, rfl, _⟩ := p3.addr (by rw [cellsV_length, HD.out]; omega)
    obtain ⟨q1, q2, q3, q4⟩ := p4 _ rfl
    simp only at q3 q4
    subst q3
    have hcl : Cl w1 w.heap.size b n c1 ds es 0 := ⟨ds, HD.out, HO1.out, fun i _ _ h => absurd h (by omega), fun i _ _ _ => rfl⟩
    have HC := Lib.hid hcl; clear hcl HO1
    clear p3 p4 p5 hn
    have hl2 := q2
    go_wp2_with (fail)
    go_loopw [9] (fun i wr => ∃ k : Nat, k ≤ n ∧ i = .int .i64 k ∧ Hid (Cl wr w.heap.size b n c1 ds es k) ∧ Below w.heap.size w wr ∧ b < wr.heap.size) (fun i _ => n - (intOf i).toNat)
    case atStart => exact ⟨0, Nat.zero_le _, rfl, HC, hb1, q2⟩
    case round =>
      clear HC hb1
      obtain ⟨k, hk, rfl, HC, kb, hbw⟩ := hrel
      rcases Nat.lt_or_ge k n with hlt | hge
      · obtain ⟨e, b1, o1, At, m, cm, ee, rfl, hb1, -, tt, c0, ca, cb, cc, cd⟩ := hr.at_ k (by rw [HN.out]; exact hlt)
        obtain ⟨t1, t2, t3, t4, -, t5⟩ := tt
        have ca' := ca
        rw [← kb.cell (p := ⟨b1, _, none⟩) hb1] at ca'
        have T1 := Lib.hid t1; clear t1
        have EE := Lib.hid ee; clear ee
        clear c0 ca cb cc cd
        have hlt' : (k : Int) < (n : Int) := by omega
        go_wp2_with (first | (at_builtin; refine wpList_cloneB _ rfl (.tmp 18) rfl At m cm e.t rfl T1.out (t2.below kb) (by omega) ?_; intro A2 c2 w2 g1 g2 g3 g4 g5 g6; have G1 := Lib.hid g1; clear g1 g5; have HC2 := Lib.hid (HC.out.below g2); have k2 := kb.trans (g2.mono kb.size); obtain ⟨u0, u1, u2, u3, u4, -, f1, -⟩ := HC2.out.cell k hlt; have fr := HC2.out.free (k * 5 + 1); have gs := g2.size))
        have ho : EvO (b < ·) w2 (ds[k]'(by rw [HD.out]; exact hlt) |>.txt A2 m c2) (es[k]'(by rw [HN.out]; exact hlt)) := by
          have h5 := hr.each k (by rw [HD.out]; exact hlt) (by rw [HN.out]; exact hlt)
          rw [← EE.out] at h5 ⊢
          exact ⟨h5.1, h5.2.1, h5.2.2.1, h5.2.2.2.1, T1.out, Own.low G1.out (Nat.zero_le _), fun a ea => Nat.lt_of_lt_of_le hbw (g6 a ea).1, t5⟩
        have hput := HC2.out.put HD.out HN.out hlt A2 m c2 (fun _ _ => ho)
        have kset := k2.grown (only_set b (k * 5 + 1) (.slice A2 m c2)) k2.size (fun q e => by injection e with e; omega)
        have hput' := Lib.hid hput
        clear hput ho
        go_roundw
        case rel => exact ⟨k + 1, by omega, by go_num, hput', kset, by show b < _; simp [World.setCell]; omega⟩
        case measure => simp [intOf]; omega
      · obtain rfl : n = k := by omega
        go_wp2_with (fail)
        go_ret
        obtain ⟨ds', h1⟩ := HC.out.out HN.out
        exact ⟨_, ds', rfl, h1, kb⟩
end Go.Proofs.Ytgnciejbhaebeaa
