/- Parts one behind the other: What the reference's Apply (17) answers: app17. Conditions: as told at each. -/
import Derived.Test.YtndjggabdajbfaaGreatDoorPG28
import Derived.Test.YtndjggabdajbfaaGreatDoorPG29
import Derived.Test.YtndjggabdajbfaaGreatDoorPG12
import Derived.Test.YtndjggabdajbfaaGreatDoorPG15
import Derived.Test.YtndjggabdajbfaaGreatDoorPG24
import Derived.Test.YtndjggabdajbfaaGreatDoorPG25
import Derived.Test.YtndjggabdajbfaaGreatDoorPG26
import Derived.Deep.CutBlock

set_option linter.unusedVariables false
set_option linter.unusedSimpArgs false
/- What the reference's Apply (17) answers: app17. Conditions: the screen's parts and the bytes can be read; the tables lie where they were laid. -/
namespace Go.Proofs.YtndjggabdajbfaaGreatDoor
open Go Go.RowKit Go.Lib

/-- The state: that of BpS, and the reader's box r. -/
structure BrS (w : World) (q z g r gs C R : Nat) (s : ScD) (n c : Nat) (L : Option Addr) (d : Nat) (D : Option Addr) (dc : Nat) (bs : List UInt8) (st : RS) (wx : World) : Prop where
  bp : BpS w q z g gs C R s n c L d wx
  hr : RdB wx r D dc st
  ne : r ≠ g ∧ r ≠ gs ∧ z < r
  bb : st.b = bs
  at_ : st.at_ ≤ bs.length
  er : st.err = 0
section
variable {w wx wy : World} {q z g r gs C R : Nat} {s t : ScD} {n c : Nat} {L : Option Addr} {d : Nat} {D : Option Addr} {dc : Nat} {bs : List UInt8} {st st' : RS}
theorem BpS.far (h : BpS w q z g gs C R s n c L d wx) {e : Nat} (k : Stays (fun k => k = e) wx wy) (he : w.heap.size ≤ e ∧ e ≠ q ∧ e ≠ z ∧ e ≠ g ∧ e ≠ gs) : BpS w q z g gs C R s n c L d wy := by
  obtain ⟨h1, h2, h3, h4, h5⟩ := he
  exact ⟨h.bel.trans (k.below h.bel.size (fun j hj e => by omega)), k.scB h.hq (fun x => h2 x.symm), k.scB h.hz (fun x => h3 x.symm), k.scB h.sg (fun x => h4 x.symm), k.keepC h.own (fun j ej x => by injection ej with ej; have : gs = j := ej; omega), h.ln, h.gne, h.ord, h.fit, h.cc, h.rr, h.lk, h.ok, h.tl⟩
theorem BrS.below (h : BrS w q z g r gs C R s n c L d D dc bs st wx) (hb : Below wx.heap.size wx wy) : BrS w q z g r gs C R s n c L d D dc bs st wy := ⟨h.bp.below hb, h.hr.below hb, h.ne, h.bb, h.at_, h.er⟩
theorem BrS.rs (h : BrS w q z g r gs C R s n c L d D dc bs st wx) (hdr : Rd w D (bs.map bv)) (hc : bs.length ≤ dc) (hm : dc ≤ maxLen) (hl : bs.length ≤ 140737488355328) : RsOk wx D dc st := by
  have e := h.bb
  exact ⟨by rw [e]; exact hdr.below h.bp.bel, by rw [e]; exact hc, hm, by rw [e]; exact h.at_, by rw [e]; exact hl⟩
end
/-- The state, the reader's bytes and error left open. -/
structure BrW (w : World) (q z g r gs C R : Nat) (s : ScD) (n c : Nat) (L : Option Addr) (d : Nat) (D : Option Addr) (dc : Nat) (st : RS) (wx : World) : Prop where
  bp : BpS w q z g gs C R s n c L d wx
  hr : RdB wx r D dc st
  ne : r ≠ g ∧ r ≠ gs ∧ z < r
section
variable {w wx wy : World} {q z g r gs C R : Nat} {s t : ScD} {n c : Nat} {L : Option Addr} {d : Nat} {D : Option Addr} {dc : Nat} {bs : List UInt8} {st st' : RS}
theorem BrS.wk (h : BrS w q z g r gs C R s n c L d D dc bs st wx) : BrW w q z g r gs C R s n c L d D dc st wx := ⟨h.bp, h.hr, h.ne⟩
theorem BrW.up (h : BrW w q z g r gs C R s n c L d D dc st wx) (h1 : st.b = bs) (h2 : st.at_ ≤ bs.length) (h3 : st.err = 0) : BrS w q z g r gs C R s n c L d D dc bs st wx := ⟨h.bp, h.hr, h.ne, h1, h2, h3⟩
theorem BrW.below (h : BrW w q z g r gs C R s n c L d D dc st wx) (hb : Below wx.heap.size wx wy) : BrW w q z g r gs C R s n c L d D dc st wy := ⟨h.bp.below hb, h.hr.below hb, h.ne⟩
theorem BrW.setR (h : BrW w q z g r gs C R s n c L d D dc st wx) (st' : RS) : BrW w q z g r gs C R s n c L d D dc st' (wx.setRow r (rsC D dc st')) := by
  have ho := h.bp.ord
  obtain ⟨n1, n2, n3⟩ := h.ne
  exact ⟨h.bp.far (Stays.setRow _ _ _ _ rfl) (by omega), setRow_heap wx r _ _ _ _ h.hr, h.ne⟩
theorem BrW.stay (h : BrW w q z g r gs C R s n c L d D dc st wx) (k : Stays (fun k => k = g) wx wy) (hg : ScB wy g t (some ⟨gs, 0, none⟩) n c L 0 d) (e : t.cols = s.cols ∧ t.rows = s.rows ∧ t.cells = s.cells ∧ t.links = s.links) (ht : t.title.size ≤ 1000000) : BrW w q z g r gs C R t n c L d D dc st wy :=
  ⟨h.bp.stay k hg e.1 e.2.1 e.2.2.1 e.2.2.2 ht, h.hr.stay k (fun x => h.ne.1 x), h.ne⟩
end
theorem num17_small {most : Int} {l : List UInt8} (h : 0 ≤ most) : ((num17 most l).2.1 : Int) ≤ most := by
  unfold num17
  cases varGo l 0 with
  | bad e => exact h
  | ok n k =>
    simp only
    split
    · exact h
    · rename_i hn
      simp only
      omega
theorem rleft_c (A : Option Addr) (c : Nat) (s : RS) (w : World) (h : RsOk w A c s) :
    Calls Tryz.prog 22 #[.agg (rsC A c s)] w fun e w' => e = .returned (.int .i64 ((s.b.length - s.at_ : Nat) : Int)) ∧ Below w.heap.size w w' := refLeft_c A c s w h
theorem rtext_c (A : Option Addr) (c : Nat) (s : RS) (most : Int) (w : World) (h : RsOk w A c s) (hm : (Lit.int .i64 most).wf = true) :
    Calls Tryz.prog 25 #[.agg (rsC A c s), .int .i64 most] w fun e w' => ∃ v, e = .returned (.tuple #[v, .agg (rsC A c (textR s most).2)]) ∧ OwnB w' w.heap.size v (textR s most).1 ∧ Below w.heap.size w w' := refTextR_c A c s most w h hm
theorem thing2 (s : ScD) (l : List UInt8) : thing17 2 s l = (
    let x := num17 (s.cols - 1) l
    if x.1 ≠ 0 then (x.1, s, l) else
    let y := num17 (s.rows - 1) x.2.2
    if y.1 ≠ 0 then (y.1, s, l) else
    let h := num17 1 y.2.2
    if h.1 ≠ 0 then (h.1, s, l) else (0, ⟨s.cols, s.rows, s.cells, (x.2.1 : Int), (y.2.1 : Int), h.2.1 == 1, s.mouse, s.title, s.links⟩, h.2.2)) := rfl
theorem thing4 (s : ScD) (l : List UInt8) : thing17 4 s l = (if (num17 2 l).1 ≠ 0 then ((num17 2 l).1, s, l) else (0, ⟨s.cols, s.rows, s.cells, s.x, s.y, s.hid, ((num17 2 l).2.1 : Int), s.title, s.links⟩, (num17 2 l).2.2)) := rfl
theorem textR_b (s : RS) (most : Int) (h : s.at_ ≤ s.b.length) : (textR s most).2.b = s.b ∧ (textR s most).2.at_ ≤ s.b.length := by
  unfold textR
  split
  · exact ⟨rfl, h⟩
  · split
    · exact ⟨rfl, h⟩
    · rename_i n k hg
      have hk := (varGo_u64 hg).2.1
      rw [List.length_drop] at hk
      split
      · exact ⟨rfl, h⟩
      · split
        · exact ⟨rfl, h⟩
        · exact ⟨rfl, by simp only; omega⟩
/-- What number leads to. -/
theorem num_facts {s : RS} {most : Int} {x : Nat} {t : RS} {e : Nat} (h0 : s.err = 0) (ha : s.at_ ≤ s.b.length) (eN : refNum s most = (x, t, e)) :
    e = (num17 most s.rest).1 ∧ x = (num17 most s.rest).2.1 ∧ (e = 0 → t.err = 0 ∧ t.rest = (num17 most s.rest).2.2) ∧ t.b = s.b ∧ t.at_ ≤ s.b.length := by
  have h := refNum_is (s := s) (most := most) h0
  have h2 := refNum_rdr s most
  rw [eN] at h h2
  obtain ⟨h1, h3, h4⟩ := h
  have h5 : t = (varR s).2 := h2
  refine ⟨h1, h3, fun h6 => ?_, by rw [h5]; exact varR_b s, by rw [h5]; exact varR_at s ha⟩
  obtain ⟨k1, _, k3, k4⟩ := h4 (h1.symm.trans h6)
  exact ⟨k3, by show t.b.drop t.at_ = _; rw [show t.b = s.b from k1]; exact k4⟩
/-- What a thing leads to: the error's number, the screen behind it. -/
def BrT (w : World) (q z g r : Nat) (D : Option Addr) (dc : Nat) (bs : List UInt8) (T : Nat × ScD × List UInt8) (v : Value) (wx : World) : Prop :=
  v = .int .i64 (T.1 : Int) ∧ ScB wx q scZ none 0 0 none 0 0 ∧ ScB wx z scZ none 0 0 none 0 0 ∧ Below w.heap.size w wx ∧
    (T.1 = 0 → ∃ gs C R n c L d st, BrS w q z g r gs C R T.2.1 n c L d D dc bs st wx ∧ st.rest = T.2.2)
theorem BrT.no {w wx : World} {q z g r : Nat} {D : Option Addr} {dc : Nat} {bs : List UInt8} {T : Nat × ScD × List UInt8} {E : Nat} {x : Int} (h : T.1 = E) (h0 : E ≠ 0) (hx : x = (E : Int)) (hq : ScB wx q scZ none 0 0 none 0 0) (hz : ScB wx z scZ none 0 0 none 0 0) (hb : Below w.heap.size w wx) : BrT w q z g r D dc bs T (.int .i64 x) wx := by
  subst hx
  exact ⟨by rw [h], hq, hz, hb, fun h2 => absurd (h.symm.trans h2) h0⟩
theorem BrT.yes {w wx : World} {q z g r gs C R : Nat} {s : ScD} {n c : Nat} {L : Option Addr} {d : Nat} {D : Option Addr} {dc : Nat} {bs : List UInt8} {st : RS} {T : Nat × ScD × List UInt8} (h : T = (0, s, st.rest)) (hs : BrS w q z g r gs C R s n c L d D dc bs st wx) : BrT w q z g r D dc bs T (.int .i64 0) wx := by
  subst h
  exact ⟨rfl, hs.bp.hq, hs.bp.hz, hs.bp.bel, fun _ => ⟨gs, C, R, n, c, L, d, st, hs, rfl⟩⟩
set_option maxRecDepth 100000 in
set_option maxHeartbeats 16000000 in
theorem refApply17_c (a : ScD) (A : Option Addr) (n c : Nat) (L : Option Addr) (m cm : Nat) (D : Option Addr) (dn dc : Nat) (bs : List UInt8) (w : World) (hs : ScR w a A n c L m cm) (hdn : bs.length = dn) (hdr : Rd w D (bs.map bv)) (hdl : dn ≤ 140737488355328) (hdc : dn ≤ dc) (hdm : dc ≤ maxLen) (hU : TabU w) :
    Calls Tryz.prog 9 #[.agg (scC a A n c L m cm), .slice D dn dc] w fun e w' => PostA w (app17 a bs) e w' := by
  obtain ⟨X, eX⟩ : ∃ X, X = scC a A n c L m cm := ⟨_, rfl⟩
  rw [← eX]
  obtain ⟨W0, eW0⟩ : ∃ W0, W0 = (w.alloc (.cells X 25)).alloc (.cells (scC scZ none 0 0 none 0 0) 25) := ⟨_, rfl⟩
  obtain ⟨p, ep⟩ : ∃ p, p = w.heap.size := ⟨_, rfl⟩
  obtain ⟨q, eq⟩ : ∃ q, q = w.heap.size + 1 := ⟨_, rfl⟩
  have hb0 : Below w.heap.size w W0 := by rw [eW0]; exact ((Below.refl _ _).alloc (Nat.le_refl _) _).alloc (by simp) _
  have hp0 : ScB W0 p a A n c L m cm := by rw [eW0, ep, eX]; exact (Below.heap_alloc _ _ _ (by simp)).trans (heap_alloc_new _ _)
  have hq0 : ScB W0 q scZ none 0 0 none 0 0 := by rw [eW0, eq]; exact heap_alloc2_new _ _ _
  have eW0' : (w.alloc (.cells X 25)).alloc (.cells #[.int .i64 0, .int .i64 0, .slice none 0 0, .int .i64 0, .int .i64 0, .bool false, .int .u8 0, .string { data := #[] }, .slice none 0 0] 25) = W0 := by rw [eW0]; rfl
  have EW0 := Lib.hid eW0'
  have EP := Lib.hid ep
  have EQ := Lib.hid eq
  have HB0 := Lib.hid hb0
  have HP0 := Lib.hid hp0
  have HQ0 := Lib.hid hq0
  have HSW := Lib.hid hs
  have HDR := Lib.hid hdr
  have HU := Lib.hid hU
  have HDN := Lib.hid hdn
  have HRS : Hid (bs.length ≤ dc ∧ dc ≤ maxLen ∧ bs.length ≤ 140737488355328) := Lib.hid ⟨by omega, hdm, by omega⟩
  have HWQ : Hid (w.heap.size ≤ q ∧ p < q) := Lib.hid ⟨by omega, by omega⟩
  have HOK := Lib.hid (And.intro hs.ok hs.tl)
  have HM0 := Lib.hid hs.hm
  have HN0 := Lib.hid hs.hn
  obtain ⟨Z, eZ⟩ : ∃ Z, app17 a bs = Z := ⟨_, rfl⟩
  rw [eZ]
  have EZ := Lib.hid eZ
  obtain ⟨b1, e1⟩ : ∃ t, fit17 a = t := ⟨_, rfl⟩
  have E1 := Lib.hid e1
  clear eX eW0 eW0' ep eq hb0 hs hdr hU eZ e1 hdn hp0 hq0 hdm
  go_enter Tryz.func9, Tryz.ntmps9
  go_upto_region 1 with (fail)
  rw [EW0.out, ← EQ.out, ← EP.out]
  go_upto_region 2 with (first
    | (refine wpList_store_rowTo rfl 25 (.tmp 6) (.tmp 17) rfl rfl W0.heap.size (scC scZ none 0 0 none 0 0) rfl rfl 25 _ (heap_alloc_new W0 _) (info_sc.trans rfl) rfl (sc_one _ _ _ _ _ _ _) ?_))
  generalize eXX : World.alloc W0 _ = XX
  have hx : Below W0.heap.size W0 XX := by rw [← eXX]; exact (Below.refl _ _).alloc (Nat.le_refl _) _
  obtain ⟨old, hq2⟩ : ∃ old, XX.heap[W0.heap.size]? = some (.cells old 25 (0, 0)) := ⟨_, by rw [← eXX]; exact heap_alloc_new _ _⟩
  obtain ⟨z, eg⟩ : ∃ g, g = W0.heap.size := ⟨_, rfl⟩
  obtain ⟨W1, eWW⟩ : ∃ W, W = XX.setRow W0.heap.size (scC scZ none 0 0 none 0 0) := ⟨_, rfl⟩
  rw [← eWW, ← eg]
  have HZ1 : Hid (ScB W1 z scZ none 0 0 none 0 0) := Lib.hid (by rw [eWW, eg]; exact setRow_heap _ _ _ _ _ _ hq2)
  have hbs : Below W0.heap.size W0 W1 := by rw [eWW]; exact below_setRow hx (Nat.le_refl _) _
  have EGz := Lib.hid eg
  clear eXX hx hq2 eg eWW
  have HB1 := Lib.hid (HB0.out.trans (hbs.mono HB0.out.size))
  have HP1 := Lib.hid (HP0.out.below hbs)
  have HQ1 := Lib.hid (HQ0.out.below hbs)
  have HQZ : Hid (q < z ∧ w.heap.size ≤ z) := Lib.hid (by have h1 := heap_lt HQ0.out; have h2 := EGz.out; have h3 := HWQ.out.1; omega)
  have HR1 := Lib.hid (HSW.out.below HB1.out)
  have HU1 := Lib.hid (HU.out.next HB1.out)
  clear hbs
  cases b1
  · have HZ : Hid ((scZ, 1) = Z) := Lib.hid (by rw [← EZ.out]; unfold app17; rw [if_neg (by rw [E1.out]; decide)])
    go_wp2_with (first
      | (refine wpList_load_row rfl 25 (.tmp 2) rfl p rfl 25 _ (0, 0) _ HP1.out Tryz.underlying25 rfl (info_sc.trans rfl) ?_)
      | (go_at_call 21; (refine (refFits17_c a A n c L m cm W1 HR1.out HU1.out).mono ?_); rintro _ w2 ⟨rfl, hb2⟩; rw [E1.out]; have HB2 := Lib.hid (HB1.out.trans (hb2.mono HB1.out.size)); have HP2 := Lib.hid (HP1.out.below hb2); have HQ2 := Lib.hid (HQ1.out.below hb2); have HZ2 := Lib.hid (HZ1.out.below hb2); have HR2 := Lib.hid (HR1.out.below hb2); clear hb2)
      | (refine wpList_load_row rfl 25 (.tmp 6) rfl z rfl 25 _ (0, 0) _ HZ2.out Tryz.underlying25 rfl (info_sc.trans rfl) ?_)
      | ((refine wpList_store_row rfl 25 (.tmp 4) (.tmp 21) rfl q (scC scZ none 0 0 none 0 0) rfl rfl 25 _ HQ2.out (info_sc.trans rfl) rfl (sc_one _ _ _ _ _ _ _) ?_); (repeat go_step); (refine bodyPost_ret (v := .tuple #[.agg (scC scZ none 0 0 none 0 0), .int .i64 1]) (results_row_tmp (p := 4) (u := 5) (ty := 25) rfl _ _ q 25 _ (0, 0) _ _ rfl rfl (setRow_heap w2 q _ _ _ _ HQ2.out) Tryz.underlying25 rfl (info_sc.trans rfl)) rfl ?_); (exact PostA.none_ HZ.out rfl (below_setRow HB2.out HWQ.out.1 _))))
  · obtain ⟨C0, R0, hf⟩ := fit17_of E1.out
    have HF := Lib.hid hf
    obtain rfl : m = 0 := by rw [← HM0.out, hf.lk]; rfl
    have HNC : Hid (n = C0 * R0) := Lib.hid (by rw [← HN0.out, hf.len])
    clear hf
    go_upto_region 5 with (first
      | (refine wpList_load_row rfl 25 (.tmp 2) rfl p rfl 25 _ (0, 0) _ HP1.out Tryz.underlying25 rfl (info_sc.trans rfl) ?_)
      | (refine wpList_load_row rfl 25 (.tmp 2) rfl p rfl 25 _ (0, 0) _ HP2.out Tryz.underlying25 rfl (info_sc.trans rfl) ?_)
      | (go_at_call 21; (refine (refFits17_c a A n c L 0 cm W1 HR1.out HU1.out).mono ?_); rintro _ w2 ⟨rfl, hb2⟩; rw [E1.out]; have HB2 := Lib.hid (HB1.out.trans (hb2.mono HB1.out.size)); have HP2 := Lib.hid (HP1.out.below hb2); have HQ2 := Lib.hid (HQ1.out.below hb2); have HZ2 := Lib.hid (HZ1.out.below hb2); have HR2 := Lib.hid (HR1.out.below hb2); clear hb2)
      | (go_at_call 6; (refine (refCopyS_c a A n c L 0 cm w2 HR2.out).mono ?_); rintro _ w3 ⟨A3, c3, L3, d3, rfl, ho3, ht3, _, hb3⟩; have HO3 := Lib.hid ho3; have HB3 := Lib.hid (HB2.out.trans (hb3.mono HB2.out.size)); have HQ3 := Lib.hid (HQ2.out.below hb3); have HZ3 := Lib.hid (HZ2.out.below hb3); clear ho3 ht3 hb3)
      | (refine wpList_store_rowTo rfl 25 (.tmp 7) (.tmp 23) rfl rfl w3.heap.size (scC a A3 n c3 L3 0 d3) rfl rfl 25 _ (heap_alloc_new w3 _) (info_sc.trans rfl) rfl (sc_one _ _ _ _ _ _ _) ?_))
    generalize eXX : World.alloc w3 _ = XX
    have hx : Below w3.heap.size w3 XX := by rw [← eXX]; exact (Below.refl _ _).alloc (Nat.le_refl _) _
    obtain ⟨old, hq2⟩ : ∃ old, XX.heap[w3.heap.size]? = some (.cells old 25 (0, 0)) := ⟨_, by rw [← eXX]; exact heap_alloc_new _ _⟩
    obtain ⟨g, eg⟩ : ∃ g, g = w3.heap.size := ⟨_, rfl⟩
    obtain ⟨W4, eWW⟩ : ∃ W, W = XX.setRow w3.heap.size (scC a A3 n c3 L3 0 d3) := ⟨_, rfl⟩
    rw [← eWW, ← eg]
    have HG4 : Hid (ScB W4 g a A3 n c3 L3 0 d3) := Lib.hid (by rw [eWW, eg]; exact setRow_heap _ _ _ _ _ _ hq2)
    have hbs : Below w3.heap.size w3 W4 := by rw [eWW]; exact below_setRow hx (Nat.le_refl _) _
    have EGg := Lib.hid eg
    clear eXX hx hq2 eg eWW
    obtain ⟨gs, rfl⟩ := own_at2 HO3.out (by rw [HF.out.len]; exact Nat.mul_pos HF.out.c1 HF.out.r1)
    have HBP4 : Hid (BpS w q z g gs C0 R0 a n c3 L3 d3 W4) := Lib.hid (by
      have h1 := HO3.out.lt gs rfl
      have h2 := heap_lt HZ2.out
      have h3 := heap_lt HZ3.out
      have h4 := EGg.out
      have h5 := HQZ.out
      have h6 := HB2.out.size
      exact ⟨HB3.out.trans (hbs.mono HB3.out.size), HQ3.out.below hbs, HZ3.out.below hbs, HG4.out, (OwnC.below HO3.out hbs).low HB2.out.size, HNC.out, by omega, ⟨HWQ.out.1, h5.1, by omega, by omega⟩, ⟨HF.out.c1, HF.out.c2, HF.out.r1, HF.out.r2⟩, HF.out.c, HF.out.r, HF.out.lk, HOK.out.1, HOK.out.2⟩)
    clear hbs
    go_upto_region 6 with (first
      | (refine wpList_store_rowTo rfl 61 (.tmp 8) (.tmp 25) rfl rfl W4.heap.size (rsC D dc ⟨bs, 0, 0, none⟩) rfl (by rw [← HDN.out]; rfl) 61 _ (heap_alloc_new W4 _) (info_rdr.trans rfl) rfl (rs_one _ _ _) ?_))
    generalize eXX : World.alloc W4 _ = XX
    have hx : Below W4.heap.size W4 XX := by rw [← eXX]; exact (Below.refl _ _).alloc (Nat.le_refl _) _
    obtain ⟨old, hq2⟩ : ∃ old, XX.heap[W4.heap.size]? = some (.cells old 61 (0, 0)) := ⟨_, by rw [← eXX]; exact heap_alloc_new _ _⟩
    obtain ⟨r, er⟩ : ∃ g, g = W4.heap.size := ⟨_, rfl⟩
    obtain ⟨W5, eW5⟩ : ∃ W, W = XX.setRow W4.heap.size (rsC D dc ⟨bs, 0, 0, none⟩) := ⟨_, rfl⟩
    rw [← eW5, ← er]
    have H5 : Hid (BrS w q z g r gs C0 R0 a n c3 L3 d3 D dc bs ⟨bs, 0, 0, none⟩ W5) := Lib.hid (by
      have hb5 : Below W4.heap.size W4 W5 := by rw [eW5]; exact below_setRow hx (Nat.le_refl _) _
      have h1 := heap_lt HBP4.out.sg
      have h2 := (HBP4.out.own.lt gs rfl).2
      have h3 := heap_lt HBP4.out.hz
      exact ⟨HBP4.out.below hb5, by rw [eW5, er]; exact setRow_heap _ _ _ _ _ _ hq2, ⟨by omega, by omega, by omega⟩, rfl, Nat.zero_le _, rfl⟩)
    clear eXX hx hq2 er eW5
    obtain ⟨TT, eTT⟩ : ∃ TT, things17 6 0 a bs = TT := ⟨_, rfl⟩
    have HTT := Lib.hid eTT
    have HZE : Hid (∀ e, TT.1 = e → e ≠ 0 → (scZ, e) = Z) := Lib.hid (fun e h1 h2 => by rw [← EZ.out]; unfold app17; rw [if_pos E1.out, HTT.out, if_neg (by rw [h1]; exact h2), h1])
    have HZ0 : Hid (∀ s, TT = (0, s) → (fit17 s = true → (s, 0) = Z) ∧ (fit17 s = false → (scZ, 3) = Z)) := Lib.hid (fun s h1 => ⟨fun h2 => by rw [← EZ.out]; unfold app17; rw [if_pos E1.out, HTT.out, h1, if_pos rfl, if_pos h2], fun h2 => by rw [← EZ.out]; unfold app17; rw [if_pos E1.out, HTT.out, h1, if_pos rfl, if_neg (by rw [h2]; decide)]⟩)
    clear eTT
    go_wp2_with (fail)
    go_loopw [9] (fun la wr => ∃ (l f gs C R : Nat) (s : ScD) (n c : Nat) (L : Option Addr) (d : Nat) (st : RS), la = .int .i64 (l : Int) ∧ l ≤ 5 ∧ Hid (6 ≤ f + l) ∧ Hid (things17 f l s st.rest = TT) ∧ Hid (BrS w q z g r gs C R s n c L d D dc bs st wr)) (fun la _ => 5 - (intOf la).toNat)
    case atStart => exact ⟨0, 6, gs, C0, R0, a, n, c3, L3, d3, ⟨bs, 0, 0, none⟩, rfl, Nat.zero_le _, Lib.hid (Nat.le_refl _), HTT, H5⟩
    case round =>
      clear H5 HTT HBP4
      obtain ⟨l, f, gs, C, R, s, n, c, L, d, st, rfl, hl, HF6, HT, H2⟩ := hrel
      obtain ⟨F, rfl⟩ : ∃ F, f = F + 1 := ⟨f - 1, by have := HF6.out; omega⟩
      have HRL := Lib.hid (rest_len st)
      have HOK2 := Lib.hid (H2.out.rs HDR.out HRS.out.1 HRS.out.2.1 HRS.out.2.2)
      cases hr : st.rest with
      | nil =>
        have HS : Hid (TT = (0, s)) := Lib.hid (by rw [← HT.out, hr]; rfl)
        have hlen : st.b.length - st.at_ = 0 := by rw [← HRL.out, hr]; rfl
        have HLEN := Lib.hid hlen
        obtain ⟨b2, e2⟩ : ∃ t, fit17 s = t := ⟨_, rfl⟩
        have E2 := Lib.hid e2
        obtain ⟨hz1, hz2⟩ := HZ0.out s HS.out
        have HZ1 := Lib.hid hz1
        have HZ2 := Lib.hid hz2
        clear hr hlen e2 hz1 hz2
        cases b2
        · have HZ := Lib.hid (HZ2.out E2.out)
          go_wp2_with (first
            | (refine wpList_load_row rfl 61 (.tmp 8) rfl r rfl 61 _ (0, 0) _ H2.out.hr Tryz.underlying61 rfl (info_rdr.trans rfl) ?_)
            | (go_at_call 22; (refine (rleft_c _ dc st wr HOK2.out).mono ?_); rintro _ w3 ⟨rfl, hb3⟩; rw [HLEN.out]; have H3 := Lib.hid (H2.out.below hb3); have HU3 := Lib.hid (HU.out.next H3.out.bp.bel); clear hb3)
            | (refine wpList_load_row rfl 25 (.tmp 7) rfl g rfl 25 _ (0, 0) _ H3.out.bp.sg Tryz.underlying25 rfl (info_sc.trans rfl) ?_)
            | (go_at_call 21; (refine (refFits17_c s (some ⟨gs, 0, none⟩) n c L 0 d w3 H3.out.bp.read HU3.out).mono ?_); rintro _ w4 ⟨rfl, hb4⟩; rw [E2.out]; have H4 := Lib.hid (H3.out.below hb4); clear hb4)
            | (refine wpList_load_row rfl 25 (.tmp 6) rfl z rfl 25 _ (0, 0) _ H4.out.bp.hz Tryz.underlying25 rfl (info_sc.trans rfl) ?_)
            | ((refine wpList_store_row rfl 25 (.tmp 4) (.tmp 139) rfl q (scC scZ none 0 0 none 0 0) rfl rfl 25 _ H4.out.bp.hq (info_sc.trans rfl) rfl (sc_one _ _ _ _ _ _ _) ?_); (repeat go_step); (refine bodyPost_ret (v := .tuple #[.agg (scC scZ none 0 0 none 0 0), .int .i64 3]) (results_row_tmp (p := 4) (u := 5) (ty := 25) rfl _ _ q 25 _ (0, 0) _ _ rfl rfl (setRow_heap w4 q _ _ _ _ H4.out.bp.hq) Tryz.underlying25 rfl (info_sc.trans rfl)) rfl ?_); (exact PostA.none_ HZ.out rfl (below_setRow H4.out.bp.bel HWQ.out.1 _))))
        · have HZ := Lib.hid (HZ1.out E2.out)
          go_wp2_with (first
            | (refine wpList_load_row rfl 61 (.tmp 8) rfl r rfl 61 _ (0, 0) _ H2.out.hr Tryz.underlying61 rfl (info_rdr.trans rfl) ?_)
            | (go_at_call 22; (refine (rleft_c _ dc st wr HOK2.out).mono ?_); rintro _ w3 ⟨rfl, hb3⟩; rw [HLEN.out]; have H3 := Lib.hid (H2.out.below hb3); have HU3 := Lib.hid (HU.out.next H3.out.bp.bel); clear hb3)
            | (refine wpList_load_row rfl 25 (.tmp 7) rfl g rfl 25 _ (0, 0) _ H3.out.bp.sg Tryz.underlying25 rfl (info_sc.trans rfl) ?_)
            | (go_at_call 21; (refine (refFits17_c s (some ⟨gs, 0, none⟩) n c L 0 d w3 H3.out.bp.read HU3.out).mono ?_); rintro _ w4 ⟨rfl, hb4⟩; rw [E2.out]; have H4 := Lib.hid (H3.out.below hb4); clear hb4)
            | (refine wpList_load_row rfl 25 (.tmp 7) rfl g rfl 25 _ (0, 0) _ H4.out.bp.sg Tryz.underlying25 rfl (info_sc.trans rfl) ?_)
            | ((refine wpList_store_row rfl 25 (.tmp 4) (.tmp 140) rfl q (scC s (some ⟨gs, 0, none⟩) n c L 0 d) rfl rfl 25 _ H4.out.bp.hq (info_sc.trans rfl) rfl (sc_one _ _ _ _ _ _ _) ?_); (repeat go_step); (refine bodyPost_ret (v := .tuple #[.agg (scC s (some ⟨gs, 0, none⟩) n c L 0 d), .int .i64 0]) (results_row_tmp (p := 4) (u := 5) (ty := 25) rfl _ _ q 25 _ (0, 0) _ _ rfl rfl (setRow_heap w4 q _ _ _ _ H4.out.bp.hq) Tryz.underlying25 rfl (info_sc.trans rfl)) rfl ?_); (exact PostA.some_ HZ.out ((Stays.setRow (fun k => k = q) w4 q (scC s (some ⟨gs, 0, none⟩) n c L 0 d) rfl).keepC H4.out.bp.own (fun j ej x => by { injection ej with ej; have h1 := H4.out.bp.ord; have : gs = j := ej; omega })) H4.out.bp.lk (below_setRow H4.out.bp.bel HWQ.out.1 _))))
      | cons kb l' =>
        obtain ⟨K, eK⟩ : ∃ K, K = kb.toNat := ⟨_, rfl⟩
        have hK : K < 256 := by rw [eK]; exact UInt8.toNat_lt kb
        have HSTEP : Hid ((if K ≤ l ∨ 5 < K then (3, s) else if (thing17 K s l').1 = 0 then things17 F K (thing17 K s l').2.1 (thing17 K s l').2.2 else ((thing17 K s l').1, (thing17 K s l').2.1)) = TT) := Lib.hid (by rw [← HT.out, hr, eK]; rfl)
        obtain ⟨N1, eN1⟩ : ∃ N1, st.b.length - st.at_ = N1 := ⟨_, rfl⟩
        have hN1 : 0 < N1 := by rw [← eN1, ← HRL.out, hr, List.length_cons]; exact Nat.succ_pos _
        have hN1i : (0 : Int) < (N1 : Int) := by omega
        have HLEN := Lib.hid eN1
        have hat : st.at_ < st.b.length := by omega
        have hati : (st.at_ : Int) < (st.b.length : Int) := by omega
        obtain ⟨st1, es1⟩ : ∃ t : RS, t = { st with at_ := st.at_ + 1 } := ⟨_, rfl⟩
        have hdrop : st.b.drop st.at_ = kb :: l' := hr
        rw [List.drop_eq_getElem_cons hat] at hdrop
        injection hdrop with hk1 hk2
        have HST1 : Hid (st1.rest = l' ∧ st1.b = st.b ∧ st1.at_ = st.at_ + 1 ∧ st1.err = 0) := Lib.hid (by rw [es1]; exact ⟨hk2, rfl, rfl, H2.out.er⟩)
        have HK1 : Hid ((st.b[st.at_]'hat).toNat = K) := Lib.hid (by rw [hk1, eK])
        obtain ⟨db, do_, hD, hdb, hcell⟩ := HDR.out.addrB (by have := H2.out.bb; have := H2.out.at_; rw [← H2.out.bb]; omega)
        subst hD
        have HDB := Lib.hid hdb
        have HCELL : Hid (w.cell? ⟨db, do_ + st.at_, none⟩ = some (.int .u8 (K : Int))) := Lib.hid (by
          have hbb := H2.out.bb
          have h1 : st.at_ < bs.length := by rw [← hbb]; exact hat
          rw [hcell st.at_ h1, ← HK1.out]
          subst hbb
          simp [bv])
        have hat2 : st.at_ ≤ 140737488355328 := by have h1 := HRS.out.2.2; have h2 := H2.out.at_; omega
        clear hr eK eN1 es1 hk1 hk2 hcell hdb HK1
        have hwK : IntKind.i64.wrap (K : Int) = (K : Int) := IntWalk.i64_in _ ⟨by omega, by omega⟩
        obtain ⟨bK, dK⟩ : ∃ b, (decide (K < 1) || (decide (5 < K) || decide (K ≤ l))) = b := ⟨_, rfl⟩
        obtain ⟨b1, d1⟩ : ∃ b, decide (K < 1) = b := ⟨_, rfl⟩
        obtain ⟨b2, d2⟩ : ∃ b, decide (5 < K) = b := ⟨_, rfl⟩
        obtain ⟨b3, d3⟩ : ∃ b, decide (K ≤ l) = b := ⟨_, rfl⟩
        have i1 : decide ((K : Int) < 1) = b1 := by rw [← d1]; exact decide_eq_decide.2 (by omega)
        have i2 : decide ((5 : Int) < (K : Int)) = b2 := by rw [← d2]; exact decide_eq_decide.2 (by omega)
        have i3 : decide ((K : Int) ≤ (l : Int)) = b3 := by rw [← d3]; exact decide_eq_decide.2 (by omega)
        have DK : Hid ((bK = true → K ≤ l ∨ 5 < K) ∧ (bK = false → ¬ (K ≤ l ∨ 5 < K))) := Lib.hid (by
          rw [← dK]
          simp only [Bool.or_eq_true, Bool.or_eq_false_iff, decide_eq_true_eq, decide_eq_false_iff_not]
          omega)
        have EDK : Hid ((b1 || (b2 || b3)) = bK) := Lib.hid (by rw [← d1, ← d2, ← d3, ← dK])
        clear dK
        go_upto_region 8 with (first
          | (refine wpList_load_row rfl 61 (.tmp 8) rfl r rfl 61 _ (0, 0) _ H2.out.hr Tryz.underlying61 rfl (info_rdr.trans rfl) ?_)
          | (go_at_call 22; (refine (rleft_c _ dc st wr HOK2.out).mono ?_); rintro _ w3 ⟨rfl, hb3⟩; rw [HLEN.out]; have H3 := Lib.hid (H2.out.below hb3); clear hb3))
        have x0 := H3.out.hr.three.1
        have x1 := H3.out.hr.three.2.1
        have xc : w3.cell? ⟨db, do_ + st.at_, none⟩ = some (.int .u8 (K : Int)) := (H3.out.bp.bel.cell (p := ⟨db, do_ + st.at_, none⟩) HDB.out).trans HCELL.out
        have f1 := heap_free H3.out.hr 1
        go_upto_region 10 with (fail)
        obtain ⟨W4, eW4⟩ : ∃ W, W = w3.setCell ⟨r, 1, none⟩ (.int .i64 ((st.at_ : Int) + 1)) := ⟨_, rfl⟩
        rw [← eW4]
        have H4 : Hid (BrS w q z g r gs C R s n c L d (some ⟨db, do_, none⟩) dc bs st1 W4) := Lib.hid (by
          have ho := H3.out.bp.ord
          obtain ⟨n1, n2, n3⟩ := H3.out.ne
          have k : Stays (fun k => k = r) w3 W4 := by rw [eW4]; exact Stays.set _ _ ⟨r, 1, none⟩ _ rfl
          refine ⟨H3.out.bp.far k (by omega), ?_, H3.out.ne, HST1.out.2.1.trans H3.out.bb, by rw [HST1.out.2.2.1, ← H3.out.bb]; exact hat, HST1.out.2.2.2⟩
          rw [eW4]
          refine (heap_set H3.out.hr 1 _).trans ?_
          unfold rsC
          rw [HST1.out.2.1, HST1.out.2.2.1, HST1.out.2.2.2, H2.out.er]
          simp)
        have HAT := Lib.hid hat
        clear x0 x1 xc f1 eW4 hat hati hat2
        go_cut [50] from 26 to 135 (fun s50 wx => s50 = .bool bK ∧ Hid (Below W4.heap.size W4 wx))
        case first =>
          cases b1 <;> cases b2 <;> cases b3 <;>
          · go_wp2_with (fail)
            go_meet
            exact ⟨by rw [← EDK.out] <;> rfl, Lib.hid (Below.refl _ _)⟩
        case rest =>
        obtain ⟨rfl, HBX⟩ := hcut
        have H5 := Lib.hid (H4.out.below HBX.out)
        clear d1 d2 d3 i1 i2 i3
        cases bK
        rotate_left
        · have HZ : Hid ((scZ, 3) = Z) := Lib.hid (HZE.out 3 (by rw [← HSTEP.out, if_pos (DK.out.1 rfl)]) (by decide))
          go_wp2_with (first
            | (refine wpList_load_row rfl 25 (.tmp 6) rfl z rfl 25 _ (0, 0) _ H5.out.bp.hz Tryz.underlying25 rfl (info_sc.trans rfl) ?_)
            | ((refine wpList_store_row rfl 25 (.tmp 4) (.tmp 51) rfl q (scC scZ none 0 0 none 0 0) rfl rfl 25 _ H5.out.bp.hq (info_sc.trans rfl) rfl (sc_one _ _ _ _ _ _ _) ?_); (repeat go_step); (refine bodyPost_ret (v := .tuple #[.agg (scC scZ none 0 0 none 0 0), .int .i64 3]) (results_row_tmp (p := 4) (u := 5) (ty := 25) rfl _ _ q 25 _ (0, 0) _ _ rfl rfl (setRow_heap wc q _ _ _ _ H5.out.bp.hq) Tryz.underlying25 rfl (info_sc.trans rfl)) rfl ?_); (exact PostA.none_ HZ.out rfl (below_setRow H5.out.bp.bel HWQ.out.1 _))))
        have HKB := Lib.hid (DK.out.2 rfl)
        have hkb := HKB.out
        obtain ⟨T, eT⟩ : ∃ T, thing17 K s st1.rest = T := ⟨_, rfl⟩
        have HST : Hid ((if T.1 = 0 then things17 F K T.2.1 T.2.2 else (T.1, T.2.1)) = TT) := Lib.hid (by have h := HSTEP.out; rw [if_neg hkb, ← HST1.out.1, eT] at h; exact h)
        have ET := Lib.hid eT
        have HOK5 := Lib.hid (H5.out.rs HDR.out HRS.out.1 HRS.out.2.1 HRS.out.2.2)
        have hK5 : K = 1 ∨ K = 2 ∨ K = 3 ∨ K = 4 ∨ K = 5 := by omega
        clear eT
        go_upto_block 2 with (fail)
        go_cut [11] from 26 to 135 (fun c11 wx => Hid (BrT w q z g r (some ⟨db, do_, none⟩) dc bs T c11 wx))
        case first =>
          rcases hK5 with rfl | rfl | rfl | rfl | rfl
          · go_wp2_with (first
              | (refine wpList_load_row rfl 61 (.tmp 8) rfl r rfl 61 _ (0, 0) _ H5.out.hr Tryz.underlying61 rfl (info_rdr.trans rfl) ?_)
              | (go_at_call 23; (refine (size_c (some ⟨db, do_, none⟩) dc s st1 wc HOK5.out HST1.out.2.2.2).mono ?_); rw [ET.out]; rintro _ w6 ⟨s6, A6, n6, c6, st6, rfl, hb6, hy6⟩; have HY6 := Lib.hid hy6; have H6 := Lib.hid (H5.out.below hb6); have HK6 := Lib.hid hb6; clear hy6 hb6)
              | (refine wpList_store_row rfl 25 (.tmp 7) (.tmp 59) rfl g (scC s6 A6 n6 c6 none 0 0) rfl rfl 25 _ H6.out.bp.sg (info_sc.trans rfl) rfl (sc_one _ _ _ _ _ _ _) ?_)
              | (refine wpList_store_row rfl 61 (.tmp 8) (.tmp 60) rfl r (rsC (some ⟨db, do_, none⟩) dc st6) rfl rfl 61 _ ((setRow_other w6 g r _ H5.out.ne.1).trans H6.out.hr) (info_rdr.trans rfl) rfl (rs_one _ _ _) ?_))
            have HR6 : Hid (RdB (w6.setRow g (scC s6 A6 n6 c6 none 0 0)) r (some ⟨db, do_, none⟩) dc st1) := Lib.hid ((setRow_other w6 g r _ H5.out.ne.1).trans H6.out.hr)
            go_meet
            refine Lib.hid ?_
            have ho := H5.out.bp.ord
            have kg : Stays (fun k => k = g) w6 (w6.setRow g (scC s6 A6 n6 c6 none 0 0)) := Stays.setRow _ _ _ _ rfl
            have kr : Stays (fun k => k = r) (w6.setRow g (scC s6 A6 n6 c6 none 0 0)) ((w6.setRow g (scC s6 A6 n6 c6 none 0 0)).setRow r (rsC (some ⟨db, do_, none⟩) dc st6)) := Stays.setRow _ _ _ _ rfl
            have hn := H5.out.ne
            have hbel : Below w.heap.size w ((w6.setRow g (scC s6 A6 n6 c6 none 0 0)).setRow r (rsC (some ⟨db, do_, none⟩) dc st6)) := (H6.out.bp.bel.trans (kg.below H6.out.bp.bel.size (fun j hj e => by omega))).trans (kr.below (Nat.le_trans H6.out.bp.bel.size kg.size) (fun j hj e => by omega))
            have hqq := kr.scB (kg.scB H6.out.bp.hq (by omega)) (by omega)
            have hzz := kr.scB (kg.scB H6.out.bp.hz (by omega)) (by omega)
            refine ⟨rfl, hqq, hzz, hbel, fun h0 => ?_⟩
            obtain ⟨y1, y2, y3, y4, y5, y6, C6, R6, y7, y8, y9⟩ := HY6.out h0
            have hdm : 1 ≤ C6 ∧ C6 ≤ 80 ∧ 1 ≤ R6 ∧ R6 ≤ 24 := by simp only [fitsI, Bool.and_eq_true, decide_eq_true_eq] at y9; omega
            have e6 : s6.cells = List.replicate n6 blankD := by
              rw [y7]
              show List.replicate ((C6 : Int) * (R6 : Int)).toNat blankD = _
              rw [y8, ← Int.natCast_mul]; rfl
            obtain ⟨g6, rfl⟩ := own_at2 y6 (by rw [e6, List.length_replicate, y8]; exact Nat.mul_pos hdm.1 hdm.2.2.1)
            have hg6 := y6.lt g6 rfl
            have h1 := heap_lt H5.out.bp.sg
            have h2 := heap_lt H5.out.hr
            have h3 := heap_lt H5.out.bp.hz
            rw [← y1]
            refine ⟨g6, C6, R6, n6, c6, none, 0, st6, ⟨⟨hbel, hqq, hzz, kr.scB (setRow_heap w6 g _ _ _ _ H6.out.bp.sg) (by omega), (kr.keepC (kg.keepC y6 (fun j ej x => by injection ej with ej; have : g6 = j := ej; omega)) (fun j ej x => by injection ej with ej; have : g6 = j := ej; omega)).low H5.out.bp.bel.size, y8, by omega, ⟨ho.1, ho.2.1, ho.2.2.1, by omega⟩, hdm, by rw [y7]; rfl, by rw [y7]; rfl, by rw [y7]; rfl, ?_, by rw [y7]; exact Nat.zero_le _⟩, setRow_heap _ r _ _ _ _ HR6.out, ⟨hn.1, by omega, hn.2.2⟩, y2.trans (HST1.out.2.1.trans H2.out.bb), by rw [← H2.out.bb, ← HST1.out.2.1]; exact y5, y4⟩, y3⟩
            rw [e6]
            intro x hx
            rw [List.eq_of_mem_replicate hx]
            decide
          · have hcc := H5.out.bp.cc
            have hrr := H5.out.bp.rr
            obtain ⟨hf1, hf2, hf3, hf4⟩ := H5.out.bp.fit
            have y0 := H5.out.bp.sg.nine.1
            rw [hcc] at y0
            obtain ⟨x, sa, ea, eN⟩ : ∃ x t e, refNum st1 ((C : Int) - 1) = (x, t, e) := ⟨_, _, _, rfl⟩
            have HNA := Lib.hid eN
            have HFA := Lib.hid (num_facts HST1.out.2.2.2 HOK5.out.2.2.2.1 eN)
            clear eN
            have et := ET.out
            rw [thing2, hcc, hrr] at et
            simp only at et
            rw [← HFA.out.1, ← HFA.out.2.1] at et
            have HET := Lib.hid et
            clear et hcc hrr
            go_upto_region 20 with (first
              | (refine wpList_load_row rfl 61 (.tmp 8) rfl r rfl 61 _ (0, 0) _ H5.out.wk.hr Tryz.underlying61 rfl (info_rdr.trans rfl) ?_)
              | (go_at_call 24; (refine (number_c (some ⟨db, do_, none⟩) dc st1 ((C : Int) - 1) wc HOK5.out ⟨by omega, by omega⟩).mono ?_); rintro _ w6 ⟨rfl, hb6⟩; rw [HNA.out]; have H6 := Lib.hid (H5.out.wk.below hb6); clear hb6)
              | (refine wpList_store_row rfl 61 (.tmp 8) (.tmp 71) rfl r (rsC (some ⟨db, do_, none⟩) dc sa) rfl rfl 61 _ H6.out.hr (info_rdr.trans rfl) rfl (rs_one _ _ _) ?_))
            have H7 := Lib.hid (H6.out.setR sa)
            obtain ⟨W7, eW⟩ : ∃ W, W = w6.setRow r (rsC (some ⟨db, do_, none⟩) dc sa) := ⟨_, rfl⟩
            rw [← eW] at H7 ⊢
            clear eW
            clear y0
            by_cases hea : ea = 0
            rotate_left
            · have z0 : ((ea : Int) == 0) = false := by rw [beq_eq_false_iff_ne]; omega
              have z1 : (ea == 0) = false := by rw [beq_eq_false_iff_ne]; exact hea
              have HEA := Lib.hid hea
              clear hea
              have x3 := H7.out.bp.sg.nine.2.2.2.1
              have x4 := H7.out.bp.sg.nine.2.2.2.2.1
              have x5 := H7.out.bp.sg.nine.2.2.2.2.2.1
              have f3 := heap_free H7.out.bp.sg 3
              have f4 := heap_free H7.out.bp.sg 4
              have f5 := heap_free H7.out.bp.sg 5
              go_wp2_with (fail)
              go_meet
              refine Lib.hid ?_
              have HY : ∀ b : Bool, BrW w q z g r gs C R ⟨s.cols, s.rows, s.cells, (x : Int), 0, b, s.mouse, s.title, s.links⟩ n c L d (some ⟨db, do_, none⟩) dc sa (((W7.setCell ⟨g, 3, none⟩ (.int .i64 ((x : Int)))).setCell ⟨g, 4, none⟩ (.int .i64 (0))).setCell ⟨g, 5, none⟩ (.bool b)) := fun b =>
                H7.out.stay (((Stays.set (fun k => k = g) _ ⟨g, 3, none⟩ _ rfl).trans (Stays.set (fun k => k = g) _ ⟨g, 4, none⟩ _ rfl)).trans (Stays.set (fun k => k = g) _ ⟨g, 5, none⟩ _ rfl)) (heap_set (heap_set (heap_set H7.out.bp.sg 3 _) 4 _) 5 _) ⟨rfl, rfl, rfl, rfl⟩ H7.out.bp.tl
              exact BrT.no (by rw [← HET.out, if_pos HEA.out]) HEA.out rfl (HY _).bp.hq (HY _).bp.hz (HY _).bp.bel
            have z0 : ((ea : Int) == 0) = true := by rw [beq_iff_eq]; omega
            have z1 : (ea == 0) = true := by rw [beq_iff_eq]; exact hea
            have HEA := Lib.hid hea
            have HSA : Hid (sa.err = 0 ∧ sa.b = bs ∧ sa.at_ ≤ bs.length) := Lib.hid ⟨(HFA.out.2.2.1 hea).1, HFA.out.2.2.2.1.trans (HST1.out.2.1.trans H2.out.bb), by rw [← H2.out.bb, ← HST1.out.2.1]; exact HFA.out.2.2.2.2⟩
            have HOA := Lib.hid ((H7.out.up HSA.out.2.1 HSA.out.2.2 HSA.out.1).rs HDR.out HRS.out.1 HRS.out.2.1 HRS.out.2.2)
            have y1 := H7.out.bp.sg.nine.2.1
            rw [H7.out.bp.rr] at y1
            obtain ⟨y, sb, eb, eN⟩ : ∃ x t e, refNum sa ((R : Int) - 1) = (x, t, e) := ⟨_, _, _, rfl⟩
            have HNB := Lib.hid eN
            have HFB := Lib.hid (num_facts HSA.out.1 HOA.out.2.2.2.1 eN)
            clear eN
            have HET1 : Hid ((if eb ≠ 0 then (eb, s, st1.rest) else if (num17 1 (num17 ((R : Int) - 1) sa.rest).2.2).1 ≠ 0 then ((num17 1 (num17 ((R : Int) - 1) sa.rest).2.2).1, s, st1.rest) else (0, ⟨s.cols, s.rows, s.cells, (x : Int), (y : Int), (num17 1 (num17 ((R : Int) - 1) sa.rest).2.2).2.1 == 1, s.mouse, s.title, s.links⟩, (num17 1 (num17 ((R : Int) - 1) sa.rest).2.2).2.2)) = T) := Lib.hid (by
              have h := HET.out
              rw [if_neg (by rw [hea]; decide), ← (HFA.out.2.2.1 hea).2, ← HFB.out.1, ← HFB.out.2.1] at h
              rw [H5.out.bp.cc, H5.out.bp.rr]
              exact h)
            clear hea
            go_upto_region 22 with (first
              | (refine wpList_load_row rfl 61 (.tmp 8) rfl r rfl 61 _ (0, 0) _ H7.out.hr Tryz.underlying61 rfl (info_rdr.trans rfl) ?_)
              | (go_at_call 24; (refine (number_c (some ⟨db, do_, none⟩) dc sa ((R : Int) - 1) W7 HOA.out ⟨by omega, by omega⟩).mono ?_); rintro _ w8 ⟨rfl, hb6⟩; rw [HNB.out]; have H8 := Lib.hid (H7.out.below hb6); clear hb6)
              | (refine wpList_store_row rfl 61 (.tmp 8) (.tmp 82) rfl r (rsC (some ⟨db, do_, none⟩) dc sb) rfl rfl 61 _ H8.out.hr (info_rdr.trans rfl) rfl (rs_one _ _ _) ?_))
            have H9 := Lib.hid (H8.out.setR sb)
            obtain ⟨W9, eW⟩ : ∃ W, W = w8.setRow r (rsC (some ⟨db, do_, none⟩) dc sb) := ⟨_, rfl⟩
            rw [← eW] at H9 ⊢
            clear eW
            clear y1 z0 z1
            by_cases heb : eb = 0
            rotate_left
            · have z0 : ((eb : Int) == 0) = false := by rw [beq_eq_false_iff_ne]; omega
              have z1 : (eb == 0) = false := by rw [beq_eq_false_iff_ne]; exact heb
              have HEB := Lib.hid heb
              clear heb
              have x3 := H9.out.bp.sg.nine.2.2.2.1
              have x4 := H9.out.bp.sg.nine.2.2.2.2.1
              have x5 := H9.out.bp.sg.nine.2.2.2.2.2.1
              have f3 := heap_free H9.out.bp.sg 3
              have f4 := heap_free H9.out.bp.sg 4
              have f5 := heap_free H9.out.bp.sg 5
              go_wp2_with (fail)
              go_meet
              refine Lib.hid ?_
              have HY : ∀ b : Bool, BrW w q z g r gs C R ⟨s.cols, s.rows, s.cells, (x : Int), (y : Int), b, s.mouse, s.title, s.links⟩ n c L d (some ⟨db, do_, none⟩) dc sb (((W9.setCell ⟨g, 3, none⟩ (.int .i64 ((x : Int)))).setCell ⟨g, 4, none⟩ (.int .i64 ((y : Int)))).setCell ⟨g, 5, none⟩ (.bool b)) := fun b =>
                H9.out.stay (((Stays.set (fun k => k = g) _ ⟨g, 3, none⟩ _ rfl).trans (Stays.set (fun k => k = g) _ ⟨g, 4, none⟩ _ rfl)).trans (Stays.set (fun k => k = g) _ ⟨g, 5, none⟩ _ rfl)) (heap_set (heap_set (heap_set H9.out.bp.sg 3 _) 4 _) 5 _) ⟨rfl, rfl, rfl, rfl⟩ H9.out.bp.tl
              exact BrT.no (by rw [← HET1.out, if_pos HEB.out]) HEB.out rfl (HY _).bp.hq (HY _).bp.hz (HY _).bp.bel
            have z0 : ((eb : Int) == 0) = true := by rw [beq_iff_eq]; omega
            have z1 : (eb == 0) = true := by rw [beq_iff_eq]; exact heb
            have HSB : Hid (sb.err = 0 ∧ sb.b = bs ∧ sb.at_ ≤ bs.length) := Lib.hid ⟨(HFB.out.2.2.1 heb).1, HFB.out.2.2.2.1.trans HSA.out.2.1, by rw [← HSA.out.2.1]; exact HFB.out.2.2.2.2⟩
            have HOB := Lib.hid ((H9.out.up HSB.out.2.1 HSB.out.2.2 HSB.out.1).rs HDR.out HRS.out.1 HRS.out.2.1 HRS.out.2.2)
            obtain ⟨hh, sd, ed, eN⟩ : ∃ x t e, refNum sb 1 = (x, t, e) := ⟨_, _, _, rfl⟩
            have HND := Lib.hid eN
            have HFD := Lib.hid (num_facts HSB.out.1 HOB.out.2.2.2.1 eN)
            clear eN
            have HET2 : Hid ((if ed ≠ 0 then (ed, s, st1.rest) else (0, ⟨s.cols, s.rows, s.cells, (x : Int), (y : Int), hh == 1, s.mouse, s.title, s.links⟩, (num17 1 sb.rest).2.2)) = T) := Lib.hid (by
              have h := HET1.out
              rw [if_neg (by rw [heb]; decide), ← (HFB.out.2.2.1 heb).2, ← HFD.out.1, ← HFD.out.2.1] at h
              exact h)
            clear heb
            go_upto_region 24 with (first
              | (refine wpList_load_row rfl 61 (.tmp 8) rfl r rfl 61 _ (0, 0) _ H9.out.hr Tryz.underlying61 rfl (info_rdr.trans rfl) ?_)
              | (go_at_call 24; (refine (number_c (some ⟨db, do_, none⟩) dc sb 1 W9 HOB.out (by decide)).mono ?_); rintro _ wa ⟨rfl, hb6⟩; rw [HND.out]; have HA := Lib.hid (H9.out.below hb6); clear hb6)
              | (refine wpList_store_row rfl 61 (.tmp 8) (.tmp 90) rfl r (rsC (some ⟨db, do_, none⟩) dc sd) rfl rfl 61 _ HA.out.hr (info_rdr.trans rfl) rfl (rs_one _ _ _) ?_))
            have HB := Lib.hid (HA.out.setR sd)
            obtain ⟨WB, eW⟩ : ∃ W, W = wa.setRow r (rsC (some ⟨db, do_, none⟩) dc sd) := ⟨_, rfl⟩
            rw [← eW] at HB ⊢
            clear eW
            clear z0 z1
            obtain ⟨hb, ehb⟩ : ∃ b, (hh == 1) = b := ⟨_, rfl⟩
            have ehi : ((hh : Int) == 1) = hb := by rw [← ehb, Bool.eq_iff_iff, beq_iff_eq, beq_iff_eq]; omega
            have EHB := Lib.hid ehb
            have x3 := HB.out.bp.sg.nine.2.2.2.1
            have x4 := HB.out.bp.sg.nine.2.2.2.2.1
            have x5 := HB.out.bp.sg.nine.2.2.2.2.2.1
            have f3 := heap_free HB.out.bp.sg 3
            have f4 := heap_free HB.out.bp.sg 4
            have f5 := heap_free HB.out.bp.sg 5
            go_wp2_with (fail)
            go_meet
            refine Lib.hid ?_
            have HY : ∀ b : Bool, BrW w q z g r gs C R ⟨s.cols, s.rows, s.cells, (x : Int), (y : Int), b, s.mouse, s.title, s.links⟩ n c L d (some ⟨db, do_, none⟩) dc sd (((WB.setCell ⟨g, 3, none⟩ (.int .i64 ((x : Int)))).setCell ⟨g, 4, none⟩ (.int .i64 ((y : Int)))).setCell ⟨g, 5, none⟩ (.bool b)) := fun b =>
              HB.out.stay (((Stays.set (fun k => k = g) _ ⟨g, 3, none⟩ _ rfl).trans (Stays.set (fun k => k = g) _ ⟨g, 4, none⟩ _ rfl)).trans (Stays.set (fun k => k = g) _ ⟨g, 5, none⟩ _ rfl)) (heap_set (heap_set (heap_set HB.out.bp.sg 3 _) 4 _) 5 _) ⟨rfl, rfl, rfl, rfl⟩ HB.out.bp.tl
            by_cases hed : ed = 0
            · subst hed
              exact BrT.yes (by rw [← HET2.out, if_neg (by decide), (HFD.out.2.2.1 rfl).2, EHB.out]) ((HY hb).up (HFD.out.2.2.2.1.trans HSB.out.2.1) (by rw [← HSB.out.2.1]; exact HFD.out.2.2.2.2) (HFD.out.2.2.1 rfl).1)
            · exact BrT.no (by rw [← HET2.out, if_pos hed]) hed rfl (HY hb).bp.hq (HY hb).bp.hz (HY hb).bp.bel
          · obtain ⟨t1, t2, _⟩ := text_thing s st1 HST1.out.2.2.2
            obtain ⟨tx, s6, eR⟩ : ∃ tx s2, textR st1 64 = (tx, s2) := ⟨_, _, rfl⟩
            have HTB := Lib.hid (textR_b st1 64 HOK5.out.2.2.2.1)
            rw [eR] at t1 t2
            have HER := Lib.hid eR
            have T1 := Lib.hid t1
            have T2 := Lib.hid t2
            clear t1 t2 eR
            go_upto_region 30 with (first
              | (refine wpList_load_row rfl 61 (.tmp 8) rfl r rfl 61 _ (0, 0) _ (H5.out.hr.below (by go_grown)) Tryz.underlying61 rfl (info_rdr.trans rfl) ?_)
              | (go_at_call 25; (refine (rtext_c (some ⟨db, do_, none⟩) dc st1 64 _ (HOK5.out.below (by go_grown)) (by decide)).mono ?_); rintro _ w6 ⟨v6, rfl, ho6, hb6⟩; rw [HER.out] at ho6 ⊢; obtain ⟨A6, k6, rfl, _, _, r6, f6⟩ := OwnB.form ho6; have HR6 := Lib.hid r6; have HF6 := Lib.hid f6; have H6 := Lib.hid (H5.out.wk.below (Below.trans (by go_grown) (hb6.mono (by simp)))); clear ho6 hb6 r6 f6)
              | (refine wpList_store_row rfl 61 (.tmp 8) (.tmp 106) rfl r (rsC (some ⟨db, do_, none⟩) dc s6) rfl rfl 61 _ H6.out.hr (info_rdr.trans rfl) rfl (rs_one _ _ _) ?_))
            have H7 := Lib.hid (H6.out.setR s6)
            obtain ⟨W7, eW7⟩ : ∃ W, W = w6.setRow r (rsC (some ⟨db, do_, none⟩) dc s6) := ⟨_, rfl⟩
            rw [← eW7] at H7 ⊢
            have HR7 : Hid (Rd W7 A6 (tx.map bv)) := Lib.hid (by rw [eW7]; exact (Stays.setRow (fun k => k = r) w6 r _ rfl).rd HR6.out (fun ad ha x => by have h1 := (HF6.out ad ha).1; have h2 := heap_lt H5.out.hr; simp only [World.size_alloc] at h1; omega))
            clear eW7
            have hcv := conv_text W7 A6 k6 tx.length tx rfl HR7.out (fun ad ha => (HF6.out ad ha).2.2)
            have x7 := H7.out.bp.sg.nine.2.2.2.2.2.2.2.1
            have f7 := heap_free H7.out.bp.sg 7
            have e2 := H7.out.hr.three.2.2
            go_wp2_with (fail)
            go_meet
            refine Lib.hid ?_
            have hb := HTB.out
            rw [HER.out] at hb
            have hbp7 := H7.out.bp
            by_cases he : s6.err = 0
            · obtain ⟨u1, u2⟩ := T2.out he
              have H8 : BrW w q z g r gs C R ⟨s.cols, s.rows, s.cells, s.x, s.y, s.hid, s.mouse, ⟨tx.toArray⟩, s.links⟩ n c L d (some ⟨db, do_, none⟩) dc s6 (W7.setCell ⟨g, 7, none⟩ (.string ⟨tx.toArray⟩)) := H7.out.stay (Stays.set _ _ ⟨g, 7, none⟩ _ rfl) (heap_set H7.out.bp.sg 7 _) ⟨rfl, rfl, rfl, rfl⟩ (by show tx.toArray.size ≤ 1000000; rw [List.size_toArray]; omega)
              rw [show ((s6.err : Nat) : Int) = 0 by rw [he]; rfl]
              exact BrT.yes (ET.out.symm.trans u1) (H8.up (hb.1.trans (HST1.out.2.1.trans H2.out.bb)) (by rw [← H2.out.bb, ← HST1.out.2.1]; exact hb.2) he)
            · have k : Stays (fun k => k = g) W7 (W7.setCell ⟨g, 7, none⟩ (.string ⟨tx.toArray⟩)) := Stays.set _ _ ⟨g, 7, none⟩ _ rfl
              have ho := hbp7.ord
              exact BrT.no (E := s6.err) (by rw [← ET.out]; exact T1.out.symm) he rfl (k.scB hbp7.hq (by omega)) (k.scB hbp7.hz (by omega)) (hbp7.bel.trans (k.below hbp7.bel.size (fun j hj x => by omega)))
          · obtain ⟨x, s6, e, eN⟩ : ∃ x t e, refNum st1 2 = (x, t, e) := ⟨_, _, _, rfl⟩
            have HN := Lib.hid eN
            have HF6 := Lib.hid (num_facts HST1.out.2.2.2 HOK5.out.2.2.2.1 eN)
            have hx : (x : Int) ≤ 2 := by rw [HF6.out.2.1]; exact num17_small (by decide)
            have hwx : IntKind.u8.wrap (x : Int) = (x : Int) := IntWalk.u8_in _ ⟨by omega, by omega⟩
            clear eN
            go_upto_region 35 with (first
              | (refine wpList_load_row rfl 61 (.tmp 8) rfl r rfl 61 _ (0, 0) _ H5.out.hr Tryz.underlying61 rfl (info_rdr.trans rfl) ?_)
              | (go_at_call 24; (refine (number_c (some ⟨db, do_, none⟩) dc st1 2 wc HOK5.out (by decide)).mono ?_); rintro _ w6 ⟨rfl, hb6⟩; rw [HN.out]; have H6 := Lib.hid (H5.out.wk.below hb6); clear hb6)
              | (refine wpList_store_row rfl 61 (.tmp 8) (.tmp 118) rfl r (rsC (some ⟨db, do_, none⟩) dc s6) rfl rfl 61 _ H6.out.hr (info_rdr.trans rfl) rfl (rs_one _ _ _) ?_))
            have H7 := Lib.hid (H6.out.setR s6)
            obtain ⟨W7, eW7⟩ : ∃ W, W = w6.setRow r (rsC (some ⟨db, do_, none⟩) dc s6) := ⟨_, rfl⟩
            rw [← eW7] at H7 ⊢
            clear eW7
            have x6 := H7.out.bp.sg.nine.2.2.2.2.2.2.1
            have f6 := heap_free H7.out.bp.sg 6
            go_wp2_with (fail)
            go_meet
            refine Lib.hid ?_
            have H8 : BrW w q z g r gs C R ⟨s.cols, s.rows, s.cells, s.x, s.y, s.hid, (x : Int), s.title, s.links⟩ n c L d (some ⟨db, do_, none⟩) dc s6 (W7.setCell ⟨g, 6, none⟩ (.int .u8 (x : Int))) := H7.out.stay (Stays.set _ _ ⟨g, 6, none⟩ _ rfl) (heap_set H7.out.bp.sg 6 _) ⟨rfl, rfl, rfl, rfl⟩ H7.out.bp.tl
            obtain ⟨y1, y2, y3, y4, y5⟩ := HF6.out
            have et := ET.out
            rw [thing4, ← y1, ← y2] at et
            by_cases he : e = 0
            · rw [if_neg (by rw [he]; decide), ← (y3 he).2] at et
              subst he
              exact BrT.yes et.symm (H8.up (y4.trans (HST1.out.2.1.trans H2.out.bb)) (by rw [← H2.out.bb, ← HST1.out.2.1]; exact y5) (y3 rfl).1)
            · rw [if_pos he] at et
              exact BrT.no (by rw [← et]) he rfl H8.bp.hq H8.bp.hz H8.bp.bel
          · have HN : Hid (n ≤ 1920) := Lib.hid (by rw [H5.out.bp.ln]; exact Nat.mul_le_mul H5.out.bp.fit.2.1 H5.out.bp.fit.2.2.2)
            have HT5 : Hid (T.2.1 = s.withC T.2.1.cells) := Lib.hid (by
              rw [← ET.out, thing5]
              cases varGo st1.rest 0 with
              | bad e => rfl
              | ok n0 k0 => simp only []; split <;> rfl)
            go_wp2_with (first
              | (refine wpList_load_row rfl 25 (.tmp 7) rfl g rfl 25 _ (0, 0) _ H5.out.bp.sg Tryz.underlying25 rfl (info_sc.trans rfl) ?_)
              | (refine wpList_load_row rfl 61 (.tmp 8) rfl r rfl 61 _ (0, 0) _ H5.out.hr Tryz.underlying61 rfl (info_rdr.trans rfl) ?_)
              | (go_at_call 26; (refine (refRuns17_c w.heap.size gs (some ⟨db, do_, none⟩) dc s n c L d st1 wc HOK5.out HST1.out.2.2.2 H5.out.bp.own (fun ad ha => by { injection ha with ha; subst ha; have h1 := H5.out.bp.own.lt gs rfl; have h2 := HDB.out; have h3 := H5.out.bp.bel.size; exact ⟨fun x => by { have x2 : db = gs := x; omega }, by { show db < _; omega }⟩ }) HN.out H5.out.bp.ok).mono ?_); rw [ET.out]; rintro _ w6 ⟨st6, rfl, hy6, hk6⟩; have HY6 := Lib.hid hy6; have HK6 := Lib.hid hk6; have HG6 := Lib.hid (hk6.scB H5.out.bp.sg (fun x => H5.out.bp.gne x.symm)); clear hy6 hk6)
              | (refine wpList_store_row rfl 25 (.tmp 7) (.tmp 129) rfl g (scC s (some ⟨gs, 0, none⟩) n c L 0 d) rfl rfl 25 _ HG6.out (info_sc.trans rfl) rfl (sc_one _ _ _ _ _ _ _) ?_)
              | (refine wpList_store_row rfl 61 (.tmp 8) (.tmp 130) rfl r (rsC (some ⟨db, do_, none⟩) dc st6) rfl rfl 61 _ ((setRow_other w6 g r _ H5.out.ne.1).trans (H5.out.hr.stay HK6.out (fun x => H5.out.ne.2.1 x))) (info_rdr.trans rfl) rfl (rs_one _ _ _) ?_))
            have HR6 : Hid (RdB (w6.setRow g (scC s (some ⟨gs, 0, none⟩) n c L 0 d)) r (some ⟨db, do_, none⟩) dc st1) := Lib.hid ((setRow_other w6 g r _ H5.out.ne.1).trans (H5.out.hr.stay HK6.out (fun x => H5.out.ne.2.1 x)))
            go_meet
            refine Lib.hid ?_
            have hk6 := HK6.out
            have ho := H5.out.bp.ord
            have kg : Stays (fun k => k = g) w6 (w6.setRow g (scC s (some ⟨gs, 0, none⟩) n c L 0 d)) := Stays.setRow _ _ _ _ rfl
            have kr : Stays (fun k => k = r) (w6.setRow g (scC s (some ⟨gs, 0, none⟩) n c L 0 d)) ((w6.setRow g (scC s (some ⟨gs, 0, none⟩) n c L 0 d)).setRow r (rsC (some ⟨db, do_, none⟩) dc st6)) := Stays.setRow _ _ _ _ rfl
            have hn := H5.out.ne
            have hgn := H5.out.bp.gne
            have hbel : Below w.heap.size w ((w6.setRow g (scC s (some ⟨gs, 0, none⟩) n c L 0 d)).setRow r (rsC (some ⟨db, do_, none⟩) dc st6)) := ((H5.out.bp.bel.trans (hk6.below H5.out.bp.bel.size (fun j hj e => by omega))).trans (kg.below (Nat.le_trans H5.out.bp.bel.size hk6.size) (fun j hj e => by omega))).trans (kr.below (Nat.le_trans (Nat.le_trans H5.out.bp.bel.size hk6.size) kg.size) (fun j hj e => by omega))
            have hqq := kr.scB (kg.scB (hk6.scB H5.out.bp.hq (by omega)) (by omega)) (by omega)
            have hzz := kr.scB (kg.scB (hk6.scB H5.out.bp.hz (by omega)) (by omega)) (by omega)
            refine ⟨rfl, hqq, hzz, hbel, fun h0 => ?_⟩
            obtain ⟨y1, y2, y3, y4, y5, y6⟩ := HY6.out h0
            rw [HT5.out]
            refine ⟨gs, C, R, n, c, L, d, st6, ⟨⟨hbel, hqq, hzz, kr.scB (setRow_heap w6 g _ _ _ _ HG6.out) (by omega), kr.keepC (kg.keepC y5 (fun j ej x => by injection ej with ej; have : gs = j := ej; omega)) (fun j ej x => by injection ej with ej; have : gs = j := ej; omega), H5.out.bp.ln, H5.out.bp.gne, H5.out.bp.ord, H5.out.bp.fit, H5.out.bp.cc, H5.out.bp.rr, H5.out.bp.lk, y6, H5.out.bp.tl⟩, setRow_heap _ r _ _ _ _ HR6.out, H5.out.ne, y1.trans (HST1.out.2.1.trans H2.out.bb), ?_, y2⟩, y3⟩
            have h1 := y4.2.2.2.1
            rw [y1, HST1.out.2.1, H2.out.bb] at h1
            exact h1
        case rest =>
        obtain ⟨rfl, hq9, hz9, hb9, hy9⟩ := hcut.out
        have HQ9 := Lib.hid hq9
        have HZ9 := Lib.hid hz9
        have HB9 := Lib.hid hb9
        have HY9 := Lib.hid hy9
        clear hcut hq9 hz9 hb9 hy9
        by_cases hT : T.1 = 0
        · have z0 : ((T.1 : Int) != 0) = false := by rw [hT]; rfl
          obtain ⟨gs6, C6, R6, n6, c6, L6, d6, s6, h6, hr6⟩ := HY9.out hT
          have H6 := Lib.hid h6
          have HR6 : Hid (things17 F K T.2.1 s6.rest = TT) := Lib.hid (by rw [hr6]; have h := HST.out; rw [if_pos hT] at h; exact h)
          clear h6 hr6
          go_wp2_with (fail)
          go_roundw
          case rel => exact ⟨K, F, gs6, C6, R6, T.2.1, n6, c6, L6, d6, s6, rfl, by omega, Lib.hid (by have := HF6.out; omega), HR6, H6⟩
          case measure => simp [intOf]; omega
        · have z0 : ((T.1 : Int) != 0) = true := by rw [bne_iff_ne]; omega
          have HZ : Hid ((scZ, T.1) = Z) := Lib.hid (HZE.out T.1 (by rw [← HST.out, if_neg hT]) hT)
          clear hT
          go_wp2_with (first
            | (refine wpList_load_row rfl 25 (.tmp 6) rfl z rfl 25 _ (0, 0) _ HZ9.out Tryz.underlying25 rfl (info_sc.trans rfl) ?_)
            | ((refine wpList_store_row rfl 25 (.tmp 4) (.tmp 134) rfl q (scC scZ none 0 0 none 0 0) rfl rfl 25 _ HQ9.out (info_sc.trans rfl) rfl (sc_one _ _ _ _ _ _ _) ?_); (repeat go_step); (refine bodyPost_ret (v := .tuple #[.agg (scC scZ none 0 0 none 0 0), .int .i64 (T.1 : Int)]) (results_row_tmp (p := 4) (u := 5) (ty := 25) rfl _ _ q 25 _ (0, 0) _ _ rfl rfl (setRow_heap wc q _ _ _ _ HQ9.out) Tryz.underlying25 rfl (info_sc.trans rfl)) rfl ?_); (exact PostA.none_ HZ.out rfl (below_setRow HB9.out HWQ.out.1 _))))
end Go.Proofs.YtndjggabdajbfaaGreatDoor


