/- Parts one behind the other: What a reading's thing does: one thing of the diff is read and put into the screen. Conditions: as told at each. -/
import Derived.Test.YtndjggabdajbfaaGreatDoorPG23
import Derived.Test.YtndjggabdajbfaaGreatDoorPG24
import Derived.Laws.CopyRow

set_option linter.unusedVariables false
set_option linter.unusedSimpArgs false
/- What a reading's thing does: one thing of the diff is read and put into the screen. Conditions: the reading, its reader and the cells lie in blocks of their own; the tables lie where they were laid. -/
namespace Go.Proofs.YtndjggabdajbfaaGreatDoor
open Go Go.RowKit Go.Lib

/-- The state of Apply: the reading's block p, the reader r, the cells' block gs; blocks below B stay. -/
structure RgS (B p r gs : Nat) (gA : Option Addr) (C R : Nat) (s : ScD) (n c : Nat) (L : Option Addr) (d : Nat) (st : RS) (w0 wx : World) : Prop where
  bel : Below B w0 wx
  hp : wx.heap[p]? = some (.cells (rgC r s (some ⟨gs, 0, none⟩) n c L 0 d) 55 (0, 0))
  rd : Rdr wx r st
  er : st.err = 0
  ga : st.gA = gA
  own : OwnC wx B (.slice (some ⟨gs, 0, none⟩) n c) s.cells
  ap : p ≠ r ∧ p ≠ gs ∧ r ≠ gs ∧ (∀ a, gA = some a → a.block ≠ gs ∧ a.block ≠ p ∧ a.block < wx.heap.size)
  lo : 1 < B ∧ B ≤ r ∧ B ≤ p
  ok : okLn s.cells
  ln : n = C * R
  fit : 1 ≤ C ∧ C ≤ 80 ∧ 1 ≤ R ∧ R ≤ 24
  cc : s.cols = (C : Int)
  rr : s.rows = (R : Int)
  lk : s.links = []
  tl : s.title.size ≤ 1000000
section
variable {B p r gs : Nat} {gA : Option Addr} {C R : Nat} {s s' : ScD} {n c : Nat} {L : Option Addr} {d : Nat} {st st' : RS} {w0 wx wy : World}
theorem RgS.nl (h : RgS B p r gs gA C R s n c L d st w0 wx) : n ≤ 1920 := by rw [h.ln]; exact Nat.mul_le_mul h.fit.2.1 h.fit.2.2.2
theorem RgS.rn (h : RgS B p r gs gA C R s n c L d st w0 wx) : RnS B p r gs gA s n c L d st s.cells wx wx :=
  ⟨h.hp, h.rd, h.er, h.ga, h.own, Stays.refl _ _, ⟨h.ap.1, h.ap.2.1, h.ap.2.2.1, fun a ha => ⟨(h.ap.2.2.2 a ha).1, (h.ap.2.2.2 a ha).2.2⟩⟩, ⟨h.lo.1, h.lo.2.1, by have h1 := h.own.len.2.2.2.1; have h2 := h.own.len.2.2.2.2; omega⟩, h.nl, h.ok⟩
theorem RgS.pt (h : RgS B p r gs gA C R s n c L d st w0 wx) : PtB wx p r := ⟨_, _, h.hp, rfl⟩
theorem RgS.tab (h : RgS B p r gs gA C R s n c L d st w0 wx) (hU : TabU w0) : TabU wx := hU.below h.bel h.lo.1
theorem RgS.bsz (h : RgS B p r gs gA C R s n c L d st w0 wx) : B ≤ wx.heap.size := by have h1 := h.own.len.2.2.2.1; have h2 := h.own.len.2.2.2.2; omega
theorem RgS.below (h : RgS B p r gs gA C R s n c L d st w0 wx) (hb : Below wx.heap.size wx wy) : RgS B p r gs gA C R s n c L d st w0 wy :=
  ⟨h.bel.trans (hb.mono h.bsz), (hb.block p (heap_lt h.hp)).trans h.hp, h.rd.below hb, h.er, h.ga, OwnC.below h.own hb, ⟨h.ap.1, h.ap.2.1, h.ap.2.2.1, fun a ha => ⟨(h.ap.2.2.2 a ha).1, (h.ap.2.2.2 a ha).2.1, Nat.lt_of_lt_of_le (h.ap.2.2.2 a ha).2.2 hb.size⟩⟩, h.lo, h.ok, h.ln, h.fit, h.cc, h.rr, h.lk, h.tl⟩
theorem RgS.grownB (h : RgS B p r gs gA C R s n c L d st w0 wx) (hg : wx.grownBy wy (some r)) : Below B w0 wy :=
  h.bel.trans ((Stays.of_grown hg (fun k => k = r) rfl).below h.bsz (fun k hk e => by have := h.lo.2.1; omega))
theorem RgS.read (h : RgS B p r gs gA C R s n c L d st w0 wx) (hr : Rdr wy r st') (h0 : st'.err = 0) (h1 : st'.gA = st.gA) (hg : wx.grownBy wy (some r)) : RgS B p r gs gA C R s n c L d st' w0 wy :=
  ⟨h.grownB hg, (hg.block p (heap_lt h.hp) (fun e => h.ap.1 (by injection e))).trans h.hp, hr, h0, h1.trans h.ga, OwnC.grown h.own hg h.ap.2.2.1, ⟨h.ap.1, h.ap.2.1, h.ap.2.2.1, fun a ha => ⟨(h.ap.2.2.2 a ha).1, (h.ap.2.2.2 a ha).2.1, Nat.lt_of_lt_of_le (h.ap.2.2.2 a ha).2.2 hg.size⟩⟩, h.lo, h.ok, h.ln, h.fit, h.cc, h.rr, h.lk, h.tl⟩
/-- The screen turned, its cells and size apart. -/
theorem RgS.turn (h : RgS B p r gs gA C R s n c L d st w0 wx) (k : Stays (fun k => k = p) wx wy) (hp : wy.heap[p]? = some (.cells (rgC r s' (some ⟨gs, 0, none⟩) n c L 0 d) 55 (0, 0))) (e : s'.cells = s.cells ∧ s'.cols = s.cols ∧ s'.rows = s.rows ∧ s'.links = s.links) (ht : s'.title.size ≤ 1000000) :
    RgS B p r gs gA C R s' n c L d st w0 wy :=
  ⟨h.bel.trans (k.below h.bsz (fun j hj x => by have := h.lo.2.2; omega)), hp, k.rdr h.rd (fun x => h.ap.1 x.symm) (fun a ha x => (h.ap.2.2.2 a (h.ga ▸ ha)).2.1 x), h.er, h.ga, by rw [e.1]; exact k.keepC h.own (fun j ej x => h.ap.2.1 (by injection ej with ej; exact (show gs = j from ej) ▸ x.symm)),
    ⟨h.ap.1, h.ap.2.1, h.ap.2.2.1, fun a ha => ⟨(h.ap.2.2.2 a ha).1, (h.ap.2.2.2 a ha).2.1, Nat.lt_of_lt_of_le (h.ap.2.2.2 a ha).2.2 k.size⟩⟩, h.lo, by rw [e.1]; exact h.ok, h.ln, h.fit, by rw [e.2.1]; exact h.cc, by rw [e.2.2.1]; exact h.rr, by rw [e.2.2.2]; exact h.lk, ht⟩
/-- The ten cells. -/
theorem RgS.ten (h : RgS B p r gs gA C R s n c L d st w0 wx) : wx.cell? ⟨p, 1, none⟩ = some (.int .i64 (C : Int)) ∧ wx.cell? ⟨p, 2, none⟩ = some (.int .i64 (R : Int)) ∧ wx.cell? ⟨p, 3, none⟩ = some (.slice (some ⟨gs, 0, none⟩) n c) ∧ wx.cell? ⟨p, 4, none⟩ = some (.int .i64 s.x) ∧ wx.cell? ⟨p, 5, none⟩ = some (.int .i64 s.y) ∧ wx.cell? ⟨p, 6, none⟩ = some (.bool s.hid) ∧ wx.cell? ⟨p, 7, none⟩ = some (.int .u8 s.mouse) ∧ wx.cell? ⟨p, 8, none⟩ = some (.string s.title) ∧ wx.cell? ⟨p, 9, none⟩ = some (.slice L 0 d) := by
  rw [← h.cc, ← h.rr]
  refine ⟨?_, ?_, ?_, ?_, ?_, ?_, ?_, ?_, ?_⟩ <;> (rw [heap_cell h.hp]; rfl)
end
/-- What a thing read ends with. -/
def ThP (B p r : Nat) (gA : Option Addr) (w0 : World) (T : Nat × ScD × List UInt8) (e : Ending) (w' : World) : Prop :=
  (T.1 = 0 → e = .returned (.tuple #[]) ∧ ∃ gs C R n c L d st, RgS B p r gs gA C R T.2.1 n c L d st w0 w' ∧ st.rest = T.2.2) ∧ (T.1 ≠ 0 → e = thrownE T.1) ∧ Below B w0 w'
theorem ThP.no {B p r : Nat} {gA : Option Addr} {w0 w' : World} {T : Nat × ScD × List UInt8} {e : Nat} (h : T.1 = e) (h0 : e ≠ 0) (hs : Below B w0 w') : ThP B p r gA w0 T (thrownE e) w' :=
  ⟨fun h2 => absurd (h.symm.trans h2) h0, fun _ => by rw [h], hs⟩
theorem ThP.yes {B p r gs : Nat} {gA : Option Addr} {C R : Nat} {s : ScD} {n c : Nat} {L : Option Addr} {d : Nat} {st : RS} {w0 w' : World} {T : Nat × ScD × List UInt8} (h : T = (0, s, st.rest)) (hs : RgS B p r gs gA C R s n c L d st w0 w') : ThP B p r gA w0 T (.returned (.tuple #[])) w' := by
  subst h
  exact ⟨fun _ => ⟨rfl, gs, C, R, n, c, L, d, st, hs, rfl⟩, fun h => absurd rfl h, hs.bel⟩
set_option maxRecDepth 100000 in
set_option maxHeartbeats 16000000 in
theorem thing17_5 (B p r gs : Nat) (gA : Option Addr) (C R : Nat) (s : ScD) (n c : Nat) (L : Option Addr) (d : Nat) (st : RS) (w0 w : World) (h : RgS B p r gs gA C R s n c L d st w0 w) (hU : TabU w0) :
    Calls Tryz.prog 20 #[.pointer (some ⟨p, 0, none⟩), .int .i64 5] w fun e w' => ThP B p r gA w0 (thing17 5 s st.rest) e w' := by
  have H0 := Lib.hid h
  have HU := Lib.hid hU
  have HR := Lib.hid (runs17_c B p r gs gA s n c L d st w h.rn (h.tab hU))
  obtain ⟨T, eT⟩ : ∃ T, thing17 5 s st.rest = T := ⟨_, rfl⟩
  rw [eT] at HR ⊢
  have HT5 : Hid (T.2.1 = s.withC T.2.1.cells) := Lib.hid (by
    rw [← eT, thing5]
    cases varGo st.rest 0 with
    | bad e => rfl
    | ok n0 k0 => simp only []; split <;> rfl)
  have hb : ∀ w', Stays (fun k => k = r ∨ k = gs) w w' → Below B w0 w' := fun w' k => h.bel.trans (k.below h.bsz (fun j hj x => by have h1 := h.lo.2.1; have h2 := h.own.len.2.2.2.1; omega))
  have HBB := Lib.hid hb
  clear h hU eT hb
  by_cases ht : T.1 = 0
  · have HT := Lib.hid ht
    clear ht
    go_enter Tryz.func20, Tryz.ntmps20
    go_wp2_with (first
      | (go_at_call 40; (refine HR.out.mono ?_); rintro _ w1 ⟨k1, _, k3⟩; obtain ⟨rfl, hk⟩ := k1 HT.out; have HK := Lib.hid hk; have HS := Lib.hid k3; clear k1 k3 hk))
    go_end0
    obtain ⟨st', h1, h2⟩ := HK.out
    refine ThP.yes (gs := gs) (C := C) (R := R) (s := s.withC T.2.1.cells) (n := n) (c := c) (L := L) (d := d) (st := st') ?_ ?_
    · rw [h2, ← HT5.out, ← HT.out]
    · have q := H0.out
      exact ⟨HBB.out _ HS.out, h1.hp, h1.rd, h1.er, h1.ga, h1.own, ⟨q.ap.1, q.ap.2.1, q.ap.2.2.1, fun a ha => ⟨(q.ap.2.2.2 a ha).1, (q.ap.2.2.2 a ha).2.1, Nat.lt_of_lt_of_le (q.ap.2.2.2 a ha).2.2 HS.out.size⟩⟩, q.lo, h1.ok, q.ln, q.fit, q.cc, q.rr, q.lk, q.tl⟩
  · have HT := Lib.hid ht
    clear ht
    go_enter Tryz.func20, Tryz.ntmps20
    go_wp2_with (fail)
    refine HR.out.mono ?_
    rintro _ wx ⟨_, k2, k3⟩
    obtain rfl := k2 HT.out
    have HG := Lib.hid (HBB.out _ k3)
    clear k2 k3
    unfold thrownE
    go_wp2_with (fail)
    exact ⟨rfl, ThP.no rfl HT.out HG.out⟩
set_option maxRecDepth 100000 in
set_option maxHeartbeats 16000000 in
theorem thing17_4 (B p r gs : Nat) (gA : Option Addr) (C R : Nat) (s : ScD) (n c : Nat) (L : Option Addr) (d : Nat) (st : RS) (w0 w : World) (h : RgS B p r gs gA C R s n c L d st w0 w) (hU : TabU w0) :
    Calls Tryz.prog 20 #[.pointer (some ⟨p, 0, none⟩), .int .i64 4] w fun e w' => ThP B p r gA w0 (thing17 4 s st.rest) e w' := by
  have H0 := Lib.hid h
  have HU := Lib.hid hU
  have HU1 := Lib.hid (upTo_c p r st 2 w h.pt h.rd h.ap.1 h.er ⟨by decide, by decide⟩)
  obtain ⟨T, eT⟩ : ∃ T, thing17 4 s st.rest = T := ⟨_, rfl⟩
  rw [eT]
  obtain ⟨Q1, eQ1⟩ : ∃ Q, num17 2 st.rest = Q := ⟨_, rfl⟩
  rw [eQ1] at HU1
  have HTT : Hid (T = if Q1.1 ≠ 0 then (Q1.1, s, st.rest) else (0, ⟨s.cols, s.rows, s.cells, s.x, s.y, s.hid, (Q1.2.1 : Int), s.title, s.links⟩, Q1.2.2)) := Lib.hid (by rw [← eT, ← eQ1]; rfl)
  obtain ⟨x, ex⟩ : ∃ x, x = Q1.2.1 := ⟨_, rfl⟩
  have EX := Lib.hid ex
  by_cases hq1 : Q1.1 = 0
  rotate_left
  · have HQ1 := Lib.hid hq1
    have HZ : Hid (T.1 = Q1.1) := Lib.hid (by rw [HTT.out, if_pos hq1])
    clear hq1 eQ1 ex eT h hU
    go_enter Tryz.func20, Tryz.ntmps20
    go_wp2_with (fail)
    refine HU1.out.mono ?_
    rintro _ wx ⟨_, k2, k3⟩
    obtain rfl := k2 HQ1.out
    have HG := Lib.hid (H0.out.grownB k3)
    clear k2 k3
    unfold thrownE
    go_wp2_with (fail)
    exact ⟨rfl, ThP.no HZ.out HQ1.out HG.out⟩
  · have HQ1 := Lib.hid hq1
    have hx : x ≤ 2 := by
      have h := num17_le (most := 2) (l := st.rest) (by rw [eQ1]; exact hq1)
      rw [eQ1, ← ex] at h
      omega
    have HZ : Hid (T = (0, ⟨s.cols, s.rows, s.cells, s.x, s.y, s.hid, (x : Int), s.title, s.links⟩, Q1.2.2)) := Lib.hid (by rw [HTT.out, if_neg (by rw [hq1]; decide), ex])
    have hwx : IntKind.u8.wrap (x : Int) = (x : Int) := IntWalk.u8_in _ ⟨by omega, by omega⟩
    clear hq1 eQ1 ex eT h hU
    go_enter Tryz.func20, Tryz.ntmps20
    go_wp2_with (first
      | (go_at_call 38; (with_reducible refine HU1.out.mono ?_); rintro _ w2 ⟨k1, _, k3⟩; obtain ⟨rfl, s2, g1, g2, g3, g4⟩ := k1 HQ1.out; rw [← EX.out]; have Hs2 := Lib.hid (H0.out.read g1 g2 g4 k3); have Ts2 := Lib.hid g3; obtain ⟨-, -, -, -, -, -, y7, -, -⟩ := Hs2.out.ten; have f7 := heap_free Hs2.out.hp 7; clear k1 k3 g1 g2 g3 g4))
    go_end0
    exact ThP.yes (s := ⟨s.cols, s.rows, s.cells, s.x, s.y, s.hid, (x : Int), s.title, s.links⟩) (by rw [HZ.out, Ts2.out]) (Hs2.out.turn (Stays.set _ _ ⟨p, 7, none⟩ _ rfl) (heap_set Hs2.out.hp 7 _) ⟨rfl, rfl, rfl, rfl⟩ Hs2.out.tl)
set_option maxRecDepth 100000 in
set_option maxHeartbeats 16000000 in
theorem thing17_2 (B p r gs : Nat) (gA : Option Addr) (C R : Nat) (s : ScD) (n c : Nat) (L : Option Addr) (d : Nat) (st : RS) (w0 w : World) (h : RgS B p r gs gA C R s n c L d st w0 w) (hU : TabU w0) :
    Calls Tryz.prog 20 #[.pointer (some ⟨p, 0, none⟩), .int .i64 2] w fun e w' => ThP B p r gA w0 (thing17 2 s st.rest) e w' := by
  have H0 := Lib.hid h
  have HU := Lib.hid hU
  have hc1 := h.cc
  have hr1 := h.rr
  obtain ⟨hf1, hf2, hf3, hf4⟩ := h.fit
  have HU1 := Lib.hid (upTo_c p r st ((C : Int) - 1) w h.pt h.rd h.ap.1 h.er ⟨by omega, by omega⟩)
  obtain ⟨T, eT⟩ : ∃ T, thing17 2 s st.rest = T := ⟨_, rfl⟩
  rw [eT]
  have eT2 : thing17 2 s st.rest = (if (num17 (s.cols - 1) st.rest).1 ≠ 0 then ((num17 (s.cols - 1) st.rest).1, s, st.rest) else
    if (num17 (s.rows - 1) (num17 (s.cols - 1) st.rest).2.2).1 ≠ 0 then ((num17 (s.rows - 1) (num17 (s.cols - 1) st.rest).2.2).1, s, st.rest) else
    if (num17 1 (num17 (s.rows - 1) (num17 (s.cols - 1) st.rest).2.2).2.2).1 ≠ 0 then ((num17 1 (num17 (s.rows - 1) (num17 (s.cols - 1) st.rest).2.2).2.2).1, s, st.rest) else
      (0, ⟨s.cols, s.rows, s.cells, ((num17 (s.cols - 1) st.rest).2.1 : Int), ((num17 (s.rows - 1) (num17 (s.cols - 1) st.rest).2.2).2.1 : Int), (num17 1 (num17 (s.rows - 1) (num17 (s.cols - 1) st.rest).2.2).2.2).2.1 == 1, s.mouse, s.title, s.links⟩, (num17 1 (num17 (s.rows - 1) (num17 (s.cols - 1) st.rest).2.2).2.2).2.2)) := rfl
  rw [eT2] at eT
  rw [hc1, hr1] at eT
  obtain ⟨Q1, eQ1⟩ : ∃ Q, num17 ((C : Int) - 1) st.rest = Q := ⟨_, rfl⟩
  rw [eQ1] at HU1 eT
  obtain ⟨x, ex⟩ : ∃ x, x = Q1.2.1 := ⟨_, rfl⟩
  have EX := Lib.hid ex
  obtain ⟨x1, -, -, -, -, -, -, -, -⟩ := h.ten
  have ET := Lib.hid eT
  clear eT2
  by_cases hq1 : Q1.1 = 0
  rotate_left
  · have HQ1 := Lib.hid hq1
    have HZ : Hid (T.1 = Q1.1) := Lib.hid (by rw [← ET.out, if_pos hq1])
    clear hq1 eQ1 ex eT h hU hc1 hr1
    go_enter Tryz.func20, Tryz.ntmps20
    go_wp2_with (fail)
    refine HU1.out.mono ?_
    rintro _ wx ⟨_, k2, k3⟩
    obtain rfl := k2 HQ1.out
    have HG := Lib.hid (H0.out.grownB k3)
    clear k2 k3
    unfold thrownE
    go_wp2_with (fail)
    exact ⟨rfl, ThP.no HZ.out HQ1.out HG.out⟩
  · have HQ1 := Lib.hid hq1
    clear hq1 eQ1 ex eT h hU hc1 hr1
    have f4 := heap_free H0.out.hp 4
    go_enter Tryz.func20, Tryz.ntmps20
    go_upto_region 11 with (first
      | (go_at_call 38; (with_reducible refine HU1.out.mono ?_); rintro _ w2 ⟨k1, _, k3⟩; obtain ⟨rfl, s2, g1, g2, g3, g4⟩ := k1 HQ1.out; rw [← EX.out]; have Hs2 := Lib.hid (H0.out.read g1 g2 g4 k3); have Ts2 := Lib.hid g3; obtain ⟨-, y2, -, y4, y5, y6, -, -, -⟩ := Hs2.out.ten; have f4 := heap_free Hs2.out.hp 4; clear k1 k3 g1 g2 g3 g4))
    obtain ⟨W1, eW⟩ : ∃ W, W = w2.setCell ⟨p, 4, none⟩ (.int .i64 (x : Int)) := ⟨_, rfl⟩
    rw [← eW]
    have H1 : Hid (RgS B p r gs gA C R ⟨s.cols, s.rows, s.cells, (x : Int), s.y, s.hid, s.mouse, s.title, s.links⟩ n c L d s2 w0 W1) := Lib.hid (by
      rw [eW]
      exact Hs2.out.turn (Stays.set _ _ ⟨p, 4, none⟩ _ rfl) (heap_set Hs2.out.hp 4 _) ⟨rfl, rfl, rfl, rfl⟩ Hs2.out.tl)
    clear eW y2 y4 y5 y6 f4
    obtain ⟨-, x2, -, -, -, -, -, -, -⟩ := H1.out.ten
    have HU2 := Lib.hid (upTo_c p r s2 ((R : Int) - 1) W1 H1.out.pt H1.out.rd H1.out.ap.1 H1.out.er ⟨by omega, by omega⟩)
    have ET2 := ET.out
    rw [if_neg (by rw [HQ1.out]; decide), ← Ts2.out, ← EX.out] at ET2
    obtain ⟨Q2, eQ2⟩ : ∃ Q, num17 ((R : Int) - 1) s2.rest = Q := ⟨_, rfl⟩
    rw [eQ2] at HU2 ET2
    obtain ⟨y, ey⟩ : ∃ y, y = Q2.2.1 := ⟨_, rfl⟩
    have EY := Lib.hid ey
    have ETB := Lib.hid ET2
    by_cases hq2 : Q2.1 = 0
    rotate_left
    · have HQ2 := Lib.hid hq2
      have HZ : Hid (T.1 = Q2.1) := Lib.hid (by rw [← ETB.out, if_pos hq2])
      clear hq2 eQ2 ey ET2
      go_wp2_with (fail)
      refine HU2.out.mono ?_
      rintro _ wx ⟨_, k2, k3⟩
      obtain rfl := k2 HQ2.out
      have HG := Lib.hid (H1.out.grownB k3)
      clear k2 k3
      unfold thrownE
      go_wp2_with (fail)
      exact ⟨rfl, ThP.no HZ.out HQ2.out HG.out⟩
    have HQ2 := Lib.hid hq2
    clear hq2 eQ2 ey ET2 x1
    go_upto_region 12 with (first
      | (go_at_call 38; (with_reducible refine HU2.out.mono ?_); rintro _ w3 ⟨k1, _, k3⟩; obtain ⟨rfl, s3, g1, g2, g3, g4⟩ := k1 HQ2.out; rw [← EY.out]; have Hs3 := Lib.hid (H1.out.read g1 g2 g4 k3); have Ts3 := Lib.hid g3; obtain ⟨-, y2, -, y4, y5, y6, -, -, -⟩ := Hs3.out.ten; have f5 := heap_free Hs3.out.hp 5; clear k1 k3 g1 g2 g3 g4))
    clear x2
    obtain ⟨W2, eW⟩ : ∃ W, W = w3.setCell ⟨p, 5, none⟩ (.int .i64 (y : Int)) := ⟨_, rfl⟩
    rw [← eW]
    have H2 : Hid (RgS B p r gs gA C R ⟨s.cols, s.rows, s.cells, (x : Int), (y : Int), s.hid, s.mouse, s.title, s.links⟩ n c L d s3 w0 W2) := Lib.hid (by
      rw [eW]
      exact Hs3.out.turn (Stays.set _ _ ⟨p, 5, none⟩ _ rfl) (heap_set Hs3.out.hp 5 _) ⟨rfl, rfl, rfl, rfl⟩ Hs3.out.tl)
    clear eW y2 y4 y5 y6 f5
    have HU3 := Lib.hid (upTo_c p r s3 1 W2 H2.out.pt H2.out.rd H2.out.ap.1 H2.out.er ⟨by decide, by decide⟩)
    have ET3 := ETB.out
    rw [if_neg (by rw [HQ2.out]; decide), ← Ts3.out, ← EY.out] at ET3
    obtain ⟨Q3, eQ3⟩ : ∃ Q, num17 1 s3.rest = Q := ⟨_, rfl⟩
    rw [eQ3] at HU3 ET3
    obtain ⟨z, ez⟩ : ∃ z, z = Q3.2.1 := ⟨_, rfl⟩
    have EZ := Lib.hid ez
    have ETC := Lib.hid ET3
    by_cases hq3 : Q3.1 = 0
    rotate_left
    · have HQ3 := Lib.hid hq3
      have HZ : Hid (T.1 = Q3.1) := Lib.hid (by rw [← ETC.out, if_pos hq3])
      clear hq3 eQ3 ez ET3
      go_wp2_with (fail)
      refine HU3.out.mono ?_
      rintro _ wx ⟨_, k2, k3⟩
      obtain rfl := k2 HQ3.out
      have HG := Lib.hid (H2.out.grownB k3)
      clear k2 k3
      unfold thrownE
      go_wp2_with (fail)
      exact ⟨rfl, ThP.no HZ.out HQ3.out HG.out⟩
    have HQ3 := Lib.hid hq3
    obtain ⟨hb, ehb⟩ : ∃ hb, (z == 1) = hb := ⟨_, rfl⟩
    have ehb2 : ((z : Int) == 1) = hb := by rw [← ehb]; cases h : (z == 1) <;> simp_all <;> omega
    have HZ : Hid (T = (0, ⟨s.cols, s.rows, s.cells, (x : Int), (y : Int), hb, s.mouse, s.title, s.links⟩, Q3.2.2)) := Lib.hid (by rw [← ETC.out, if_neg (by rw [HQ3.out]; decide), ← EZ.out, ehb, H0.out.cc, H0.out.rr])
    clear hq3 eQ3 ez ET3
    go_wp2_with (first
      | (go_at_call 38; (with_reducible refine HU3.out.mono ?_); rintro _ w4 ⟨k1, _, k3⟩; obtain ⟨rfl, s4, g1, g2, g3, g4⟩ := k1 HQ3.out; rw [← EZ.out]; have Hs4 := Lib.hid (H2.out.read g1 g2 g4 k3); have Ts4 := Lib.hid g3; obtain ⟨-, y2, -, y4, y5, y6, -, -, -⟩ := Hs4.out.ten; have f6 := heap_free Hs4.out.hp 6; clear k1 k3 g1 g2 g3 g4))
    go_end0
    exact ThP.yes (s := ⟨s.cols, s.rows, s.cells, (x : Int), (y : Int), hb, s.mouse, s.title, s.links⟩) (by rw [HZ.out, Ts4.out]) (Hs4.out.turn (Stays.set _ _ ⟨p, 6, none⟩ _ rfl) (heap_set Hs4.out.hp 6 _) ⟨rfl, rfl, rfl, rfl⟩ Hs4.out.tl)
theorem text_thing (s : ScD) (st : RS) (h0 : st.err = 0) :
    (textR st 64).2.err = (thing17 3 s st.rest).1 ∧ ((textR st 64).2.err = 0 → thing17 3 s st.rest = (0, ⟨s.cols, s.rows, s.cells, s.x, s.y, s.hid, s.mouse, ⟨(textR st 64).1.toArray⟩, s.links⟩, (textR st 64).2.rest) ∧ (textR st 64).1.length ≤ 64) ∧ (textR st 64).2.gA = st.gA := by
  have e3 : thing17 3 s st.rest = (match varGo st.rest 0 with
    | .bad e => (e, s, st.rest)
    | .ok n kn => if 64 < n then (4, s, st.rest) else if (st.rest.drop kn).length < n then (2, s, st.rest) else (0, ⟨s.cols, s.rows, s.cells, s.x, s.y, s.hid, s.mouse, ⟨((st.rest.drop kn).take n).toArray⟩, s.links⟩, (st.rest.drop kn).drop n)) := rfl
  rw [e3]
  unfold textR
  rw [if_neg (by omega), show st.b.drop st.at_ = st.rest from rfl]
  cases hv : varGo st.rest 0 with
  | bad e =>
    have := varGo_err hv
    exact ⟨rfl, fun h => by simp only at h; omega, rfl⟩
  | ok n k =>
    obtain ⟨_, hk, _⟩ := varGo_u64 hv
    have hl := rest_len st
    simp only
    by_cases h1 : 64 < n
    · rw [if_pos (by omega), if_pos h1]
      exact ⟨rfl, fun h => (by cases h), rfl⟩
    · rw [if_neg (by omega), if_neg h1]
      by_cases h2 : (st.rest.drop k).length < n
      · have h3 : st.b.length < st.at_ + k + n := by rw [List.length_drop] at h2; omega
        rw [if_pos h3, if_pos h2]
        exact ⟨rfl, fun h => (by cases h), rfl⟩
      · have h3 : ¬ st.b.length < st.at_ + k + n := by rw [List.length_drop] at h2; omega
        rw [if_neg h3, if_neg h2]
        have e1 : (st.rest.drop k).take n = (st.b.drop (st.at_ + k)).take n := by unfold RS.rest; rw [List.drop_drop]
        have e2 : (st.rest.drop k).drop n = RS.rest { st with at_ := st.at_ + k + n } := by unfold RS.rest; rw [List.drop_drop, List.drop_drop, Nat.add_assoc]
        refine ⟨h0, fun _ => ⟨?_, ?_⟩, rfl⟩
        · rw [e1, e2]
        · simp only [List.length_take]; omega
set_option maxRecDepth 100000 in
set_option maxHeartbeats 16000000 in
theorem thing17_3 (B p r gs : Nat) (gA : Option Addr) (C R : Nat) (s : ScD) (n c : Nat) (L : Option Addr) (d : Nat) (st : RS) (w0 w : World) (h : RgS B p r gs gA C R s n c L d st w0 w) (hU : TabU w0) :
    Calls Tryz.prog 20 #[.pointer (some ⟨p, 0, none⟩), .int .i64 3] w fun e w' => ThP B p r gA w0 (thing17 3 s st.rest) e w' := by
  have H0 := Lib.hid h
  have HU := Lib.hid hU
  obtain ⟨t1, t2, t3⟩ := text_thing s st h.er
  obtain ⟨T, eT⟩ : ∃ T, thing17 3 s st.rest = T := ⟨_, rfl⟩
  rw [eT] at t1 t2 ⊢
  obtain ⟨tx, s2, eR⟩ : ∃ tx s2, textR st 64 = (tx, s2) := ⟨_, _, rfl⟩
  rw [eR] at t1 t2 t3
  simp only at t1 t2 t3
  have HRT := Lib.hid (Rtext_c r st 64 w h.rd (by decide))
  rw [eR] at HRT
  have T1 := Lib.hid t1
  have T2 := Lib.hid t2
  have T3 := Lib.hid t3
  have c0 := h.pt.cell
  clear h hU eT eR t2 t3
  by_cases he : s2.err = 0
  rotate_left
  · have HE := Lib.hid he
    clear t1 he
    go_enter Tryz.func20, Tryz.ntmps20
    go_wp2_with (first
      | (go_at_call 39; (refine HRT.out.mono ?_); rintro _ w1 ⟨v1, rfl, ho, hr1, hg⟩; have HR1 := Lib.hid hr1; have HG := Lib.hid hg; have HP1 := Lib.hid (H0.out.pt.grown hg H0.out.ap.1); clear ho hr1 hg))
    refine (must17_t p r s2 w1 HP1.out.cell HR1.out HE.out).mono ?_
    rintro _ wx ⟨rfl, hx⟩
    rw [← hx]
    clear hx wx
    unfold thrownE
    go_wp2_with (fail)
    exact ⟨rfl, ThP.no T1.out.symm HE.out (H0.out.grownB HG.out)⟩
  · have HE := Lib.hid he
    have HZ := Lib.hid (T2.out he)
    clear t1 he
    go_enter Tryz.func20, Tryz.ntmps20
    go_wp2_with (first
      | (go_at_call 39; (refine HRT.out.mono ?_); rintro _ w1 ⟨v1, rfl, ho, hr1, hg⟩; obtain ⟨A1, k1, rfl, _, _, r1, f1⟩ := OwnB.form ho; have hcv := conv_text w1 A1 k1 tx.length tx rfl r1 (fun a ha => (f1 a ha).2.2); have H1 := Lib.hid (H0.out.read hr1 HE.out T3.out hg); obtain ⟨-, -, -, -, -, -, -, y8, -⟩ := H1.out.ten; have f8 := heap_free H1.out.hp 8; clear ho hr1 hg r1 f1)
      | (go_at_call 36; (refine (must17_c p r s2 w1 H1.out.pt.cell H1.out.rd HE.out).mono ?_); rintro _ _ ⟨rfl, rfl⟩))
    go_end0
    exact ThP.yes (s := ⟨s.cols, s.rows, s.cells, s.x, s.y, s.hid, s.mouse, ⟨tx.toArray⟩, s.links⟩) HZ.out.1 (H1.out.turn (Stays.set _ _ ⟨p, 8, none⟩ _ rfl) (heap_set H1.out.hp 8 _) ⟨rfl, rfl, rfl, rfl⟩ (by have := HZ.out.2; show tx.toArray.size ≤ 1000000; rw [List.size_toArray]; omega))
theorem scC_ones (s : ScD) (A : Option Addr) (n c : Nat) (L : Option Addr) (m cm : Nat) : ∀ v ∈ (scC s A n c L m cm).toList, v.oneCell' = true := by
  unfold scC
  simp [Value.oneCell']
/-- A new screen of blanks in the reading. -/
theorem blank_rg {B p r gs : Nat} {gA : Option Addr} {C R : Nat} {s : ScD} {n c : Nat} {L : Option Addr} {d : Nat} {st : RS} {w0 w2 w3 : World} {c' q m k : Nat} {A : Option Addr} (h : RgS B p r gs gA C R s n c L d st w0 w2) (hb : Below w2.heap.size w2 w3) (ho : OwnC w3 w2.heap.size (.slice A m k) (List.replicate m blankD)) (em : m = c' * q) (hf : 1 ≤ c' ∧ c' ≤ 80 ∧ 1 ≤ q ∧ q ≤ 24) :
    RgS B p r (A.map (·.block)).get! gA c' q (blankS (c' : Int) (q : Int)) m k none 0 st w0 (w3.setRow p (rgC r (blankS (c' : Int) (q : Int)) A m k none 0 0)) := by
  have hm : 0 < m := by rw [em]; exact Nat.mul_pos hf.1 hf.2.2.1
  obtain ⟨b, rfl⟩ := own_at2 ho (by rw [List.length_replicate]; exact hm)
  show RgS B p r b gA c' q (blankS (c' : Int) (q : Int)) m k none 0 st w0 _
  have h3 := h.below hb
  have hbg := (ho.lt b rfl).1
  have hpl := heap_lt h.hp
  have hrl := h.rd.lt
  have e : ((c' : Int) * (q : Int)).toNat = m := by rw [← Int.natCast_mul, em]; rfl
  have ec : (blankS (c' : Int) (q : Int)).cells = List.replicate m blankD := by
    show List.replicate ((c' : Int) * (q : Int)).toNat blankD = _
    rw [e]
  have k1 := Stays.setRow (fun k => k = p) w3 p (rgC r (blankS (c' : Int) (q : Int)) (some ⟨b, 0, none⟩) m k none 0 0) rfl
  refine ⟨h3.bel.trans (k1.below h3.bsz (fun j hj x => by have := h.lo.2.2; omega)), setRow_heap _ _ _ _ _ _ h3.hp, k1.rdr h3.rd (fun x => h.ap.1 x.symm) (fun a ha x => (h.ap.2.2.2 a (h.ga ▸ ha)).2.1 x), h.er, h.ga, ?_, ⟨h.ap.1, by omega, by omega, fun a ha => ?_⟩, h.lo, ?_, em, hf, rfl, rfl, rfl, Nat.zero_le _⟩
  · rw [ec]
    exact (k1.keepC ho (fun j ej x => by injection ej with ej; have : b = j := ej; omega)).low h.bsz
  · have h1 := h.ap.2.2.2 a ha
    exact ⟨by omega, h1.2.1, Nat.lt_of_lt_of_le h1.2.2 (Nat.le_trans hb.size k1.size)⟩
  · rw [ec]
    intro x hx
    rw [List.eq_of_mem_replicate hx]
    decide
set_option maxRecDepth 100000 in
set_option maxHeartbeats 16000000 in
theorem thing17_1 (B p r gs : Nat) (gA : Option Addr) (C R : Nat) (s : ScD) (n c : Nat) (L : Option Addr) (d : Nat) (st : RS) (w0 w : World) (h : RgS B p r gs gA C R s n c L d st w0 w) (hU : TabU w0) :
    Calls Tryz.prog 20 #[.pointer (some ⟨p, 0, none⟩), .int .i64 1] w fun e w' => ThP B p r gA w0 (thing17 1 s st.rest) e w' := by
  have H0 := Lib.hid h
  have HU := Lib.hid hU
  obtain ⟨T, eT⟩ : ∃ T, thing17 1 s st.rest = T := ⟨_, rfl⟩
  rw [eT]
  have e1 : thing17 1 s st.rest = (match varGo st.rest 0 with
    | .bad e => (e, s, st.rest)
    | .ok c kc => match varGo (st.rest.drop kc) 0 with
      | .bad e => (e, s, st.rest)
      | .ok r kr => if c < 1 ∨ 80 < c ∨ r < 1 ∨ 24 < r then (3, s, st.rest) else (0, blankS (c : Int) (r : Int), (st.rest.drop kc).drop kr)) := rfl
  rw [e1] at eT
  have c0 := h.pt.cell
  cases hv : varGo st.rest 0 with
  | bad e =>
    rw [hv] at eT
    have HV := Lib.hid (varR_bad h.er hv)
    have HE : Hid (e ≠ 0) := Lib.hid (by have := varGo_err hv; omega)
    have HT : Hid (T.1 = e) := Lib.hid (by rw [← eT])
    clear hv eT h hU e1
    go_enter Tryz.func20, Tryz.ntmps20
    go_wp2_with (first
      | (go_at_call 35; (with_reducible refine (Rvar_c r st w H0.out.rd).mono ?_); rintro _ w1 ⟨rfl, hr1, hg⟩; rw [HV.out] at hr1 ⊢; have HR1 := Lib.hid hr1; have HG1 := Lib.hid hg; have HP1 := Lib.hid (H0.out.pt.grown hg H0.out.ap.1); clear hr1 hg))
    refine (must17_t p r { st with err := e } w1 HP1.out.cell HR1.out HE.out).mono ?_
    rintro _ wx ⟨rfl, hx⟩
    rw [← hx]
    clear hx wx
    unfold thrownE
    go_wp2_with (fail)
    exact ⟨rfl, ThP.no HT.out HE.out (H0.out.grownB HG1.out)⟩
  | ok c kc =>
    rw [hv] at eT
    simp only at eT
    have HV := Lib.hid (varR_ok h.er hv)
    have hu0 : U64 c := (varGo_u64 hv).1
    obtain ⟨s1, es1⟩ : ∃ s1 : RS, s1 = { st with at_ := st.at_ + kc } := ⟨_, rfl⟩
    rw [← es1] at HV
    have HS1 : Hid (s1.err = 0 ∧ s1.rest = st.rest.drop kc ∧ s1.gA = st.gA) := Lib.hid (by rw [es1]; exact ⟨h.er, rest_at st kc, rfl⟩)
    rw [← HS1.out.2.1] at eT
    clear hv es1 e1
    cases hv2 : varGo s1.rest 0 with
    | bad e =>
      rw [hv2] at eT
      have HV2 := Lib.hid (varR_bad HS1.out.1 hv2)
      have HE : Hid (e ≠ 0) := Lib.hid (by have := varGo_err hv2; omega)
      have HT : Hid (T.1 = e) := Lib.hid (by rw [← eT])
      clear hv2 eT h hU hu0
      go_enter Tryz.func20, Tryz.ntmps20
      go_wp2_with (first
        | (go_at_call 35; (with_reducible refine (Rvar_c r st w H0.out.rd).mono ?_); rintro _ w1 ⟨rfl, hr1, hg⟩; rw [HV.out] at hr1 ⊢; have H1 := Lib.hid (H0.out.read hr1 HS1.out.1 HS1.out.2.2 hg); have c1 := H1.out.pt.cell; clear hr1 hg)
        | (go_at_call 36; (with_reducible refine (must17_c p r s1 w1 H1.out.pt.cell H1.out.rd HS1.out.1).mono ?_); rintro _ _ ⟨rfl, rfl⟩)
        | (go_at_call 35; (with_reducible refine (Rvar_c r s1 w1 H1.out.rd).mono ?_); rintro _ w2 ⟨rfl, hr1, hg⟩; rw [HV2.out] at hr1 ⊢; have HR2 := Lib.hid hr1; have HG2 := Lib.hid hg; have HP2 := Lib.hid (H1.out.pt.grown hg H1.out.ap.1); clear hr1 hg))
      refine (must17_t p r { s1 with err := e } w2 HP2.out.cell HR2.out HE.out).mono ?_
      rintro _ wx ⟨rfl, hx⟩
      rw [← hx]
      clear hx wx
      unfold thrownE
      go_wp2_with (fail)
      exact ⟨rfl, ThP.no HT.out HE.out (H1.out.grownB HG2.out)⟩
    | ok q kq =>
      rw [hv2] at eT
      simp only at eT
      have HV2 := Lib.hid (varR_ok HS1.out.1 hv2)
      obtain ⟨s2, es2⟩ : ∃ s2 : RS, s2 = { s1 with at_ := s1.at_ + kq } := ⟨_, rfl⟩
      rw [← es2] at HV2
      have HS2 : Hid (s2.err = 0 ∧ s2.rest = s1.rest.drop kq ∧ s2.gA = s1.gA) := Lib.hid (by rw [es2]; exact ⟨HS1.out.1, rest_at s1 kq, rfl⟩)
      rw [← HS2.out.2.1] at eT
      clear hv2 es2 h hU hu0
      have ET := Lib.hid eT
      obtain ⟨b1, d1⟩ : ∃ b, decide (80 < c) = b := ⟨_, rfl⟩
      obtain ⟨b2, d2⟩ : ∃ b, decide (24 < q) = b := ⟨_, rfl⟩
      have d1i : decide ((80 : Int) < (c : Int)) = b1 := by rw [← d1]; exact decide_eq_decide.2 (by omega)
      have d2i : decide ((24 : Int) < (q : Int)) = b2 := by rw [← d2]; exact decide_eq_decide.2 (by omega)
      have D1 := Lib.hid d1
      have D2 := Lib.hid d2
      clear eT
      cases b1
      rotate_left
      · have HT : Hid (T.1 = 3) := Lib.hid (by rw [← ET.out, if_pos (.inr (.inl (of_decide_eq_true D1.out)))])
        go_enter Tryz.func20, Tryz.ntmps20
        go_wp2_with (first
          | (go_at_call 35; (with_reducible refine (Rvar_c r st w H0.out.rd).mono ?_); rintro _ w1 ⟨rfl, hr1, hg⟩; rw [HV.out] at hr1 ⊢; have H1 := Lib.hid (H0.out.read hr1 HS1.out.1 HS1.out.2.2 hg); have c1 := H1.out.pt.cell; clear hr1 hg)
          | (go_at_call 36; (with_reducible refine (must17_c p r s1 w1 H1.out.pt.cell H1.out.rd HS1.out.1).mono ?_); rintro _ _ ⟨rfl, rfl⟩)
          | (go_at_call 35; (with_reducible refine (Rvar_c r s1 w1 H1.out.rd).mono ?_); rintro _ w2 ⟨rfl, hr1, hg⟩; rw [HV2.out] at hr1 ⊢; have H2 := Lib.hid (H1.out.read hr1 HS2.out.1 HS2.out.2.2 hg); have c2 := H2.out.pt.cell; clear hr1 hg)
          | (go_at_call 36; (with_reducible refine (must17_c p r s2 w2 H2.out.pt.cell H2.out.rd HS2.out.1).mono ?_); rintro _ _ ⟨rfl, rfl⟩))
        exact ⟨rfl, ThP.no HT.out (by decide) H2.out.bel⟩
      cases b2
      rotate_left
      · have HT : Hid (T.1 = 3) := Lib.hid (by rw [← ET.out, if_pos (.inr (.inr (.inr (of_decide_eq_true D2.out))))])
        go_enter Tryz.func20, Tryz.ntmps20
        go_wp2_with (first
          | (go_at_call 35; (with_reducible refine (Rvar_c r st w H0.out.rd).mono ?_); rintro _ w1 ⟨rfl, hr1, hg⟩; rw [HV.out] at hr1 ⊢; have H1 := Lib.hid (H0.out.read hr1 HS1.out.1 HS1.out.2.2 hg); have c1 := H1.out.pt.cell; clear hr1 hg)
          | (go_at_call 36; (with_reducible refine (must17_c p r s1 w1 H1.out.pt.cell H1.out.rd HS1.out.1).mono ?_); rintro _ _ ⟨rfl, rfl⟩)
          | (go_at_call 35; (with_reducible refine (Rvar_c r s1 w1 H1.out.rd).mono ?_); rintro _ w2 ⟨rfl, hr1, hg⟩; rw [HV2.out] at hr1 ⊢; have H2 := Lib.hid (H1.out.read hr1 HS2.out.1 HS2.out.2.2 hg); have c2 := H2.out.pt.cell; clear hr1 hg)
          | (go_at_call 36; (with_reducible refine (must17_c p r s2 w2 H2.out.pt.cell H2.out.rd HS2.out.1).mono ?_); rintro _ _ ⟨rfl, rfl⟩))
        exact ⟨rfl, ThP.no HT.out (by decide) H2.out.bel⟩
      have hc80 : c ≤ 80 := by have := of_decide_eq_false D1.out; omega
      have hq24 : q ≤ 24 := by have := of_decide_eq_false D2.out; omega
      obtain ⟨m, em⟩ : ∃ m, m = c * q := ⟨_, rfl⟩
      have hm : m ≤ 1920 := by rw [em]; exact Nat.mul_le_mul hc80 hq24
      have emi : (c : Int) * (q : Int) = (m : Int) := by rw [em]; exact (Int.natCast_mul c q).symm
      have hwm : IntKind.u64.wrap (m : Int) = (m : Int) := IntWalk.u64_in _ ⟨by omega, by omega⟩
      have EM := Lib.hid em
      by_cases hm0 : m = 0
      · have z0 : ((m : Int) == 0) = true := by rw [beq_iff_eq]; omega
        have z1 : (m == 0) = true := by rw [beq_iff_eq]; exact hm0
        have HT : Hid (T.1 = 3) := Lib.hid (by
          have h1 : c = 0 ∨ q = 0 := Nat.mul_eq_zero.1 (EM.out ▸ hm0)
          rw [← ET.out, if_pos (by omega)])
        clear hm0 em
        go_enter Tryz.func20, Tryz.ntmps20
        go_wp2_with (first
          | (go_at_call 35; (with_reducible refine (Rvar_c r st w H0.out.rd).mono ?_); rintro _ w1 ⟨rfl, hr1, hg⟩; rw [HV.out] at hr1 ⊢; have H1 := Lib.hid (H0.out.read hr1 HS1.out.1 HS1.out.2.2 hg); have c1 := H1.out.pt.cell; clear hr1 hg)
          | (go_at_call 36; (with_reducible refine (must17_c p r s1 w1 H1.out.pt.cell H1.out.rd HS1.out.1).mono ?_); rintro _ _ ⟨rfl, rfl⟩)
          | (go_at_call 35; (with_reducible refine (Rvar_c r s1 w1 H1.out.rd).mono ?_); rintro _ w2 ⟨rfl, hr1, hg⟩; rw [HV2.out] at hr1 ⊢; have H2 := Lib.hid (H1.out.read hr1 HS2.out.1 HS2.out.2.2 hg); have c2 := H2.out.pt.cell; clear hr1 hg)
          | (go_at_call 36; (with_reducible refine (must17_c p r s2 w2 H2.out.pt.cell H2.out.rd HS2.out.1).mono ?_); rintro _ _ ⟨rfl, rfl⟩))
        exact ⟨rfl, ThP.no HT.out (by decide) H2.out.bel⟩
      · have z0 : ((m : Int) == 0) = false := by rw [beq_eq_false_iff_ne]; omega
        have z1 : (m == 0) = false := by rw [beq_eq_false_iff_ne]; exact hm0
        have hcq : 1 ≤ c ∧ 1 ≤ q := by
          refine ⟨Nat.pos_of_ne_zero (fun e => hm0 (by rw [em, e, Nat.zero_mul])), Nat.pos_of_ne_zero (fun e => hm0 (by rw [em, e, Nat.mul_zero]))⟩
        have HT : Hid (T = (0, blankS (c : Int) (q : Int), s2.rest)) := Lib.hid (by rw [← ET.out, if_neg (by omega)])
        have HFI : Hid (fitsI (c : Int) (q : Int) = true) := Lib.hid (by simp only [fitsI, Bool.and_eq_true, decide_eq_true_eq]; omega)
        have HCQ := Lib.hid hcq
        have hwc : IntKind.i64.wrap (c : Int) = (c : Int) := IntWalk.i64_in _ ⟨by omega, by omega⟩
        have hwq : IntKind.i64.wrap (q : Int) = (q : Int) := IntWalk.i64_in _ ⟨by omega, by omega⟩
        clear hm0 em hcq
        go_enter Tryz.func20, Tryz.ntmps20
        go_wp2_with (first
          | (go_at_call 35; (with_reducible refine (Rvar_c r st w H0.out.rd).mono ?_); rintro _ w1 ⟨rfl, hr1, hg⟩; rw [HV.out] at hr1 ⊢; have H1 := Lib.hid (H0.out.read hr1 HS1.out.1 HS1.out.2.2 hg); have c1 := H1.out.pt.cell; clear hr1 hg)
          | (go_at_call 36; (with_reducible refine (must17_c p r s1 w1 H1.out.pt.cell H1.out.rd HS1.out.1).mono ?_); rintro _ _ ⟨rfl, rfl⟩)
          | (go_at_call 35; (with_reducible refine (Rvar_c r s1 w1 H1.out.rd).mono ?_); rintro _ w2 ⟨rfl, hr1, hg⟩; rw [HV2.out] at hr1 ⊢; have H2 := Lib.hid (H1.out.read hr1 HS2.out.1 HS2.out.2.2 hg); have c2 := H2.out.pt.cell; clear hr1 hg)
          | (go_at_call 36; (with_reducible refine (must17_c p r s2 w2 H2.out.pt.cell H2.out.rd HS2.out.1).mono ?_); rintro _ _ ⟨rfl, rfl⟩)
          | (go_at_call 37; (refine (projBlank_c c q m w2 HFI.out EM.out).mono ?_); rintro _ w3 ⟨A3, k3, rfl, ho3, hb3⟩; have HO3 := Lib.hid ho3; have HB3 := Lib.hid hb3; have H3 := Lib.hid (H2.out.below hb3); have hst := run_storeCells_at Tryz.prog p 1 55 (scC (blankS (c : Int) (q : Int)) A3 m k3 none 0 0).toList 0 _ w3 H3.out.hp (Nat.le_refl 10) (scC_ones _ _ _ _ _ _ _); clear ho3 hb3))
        go_end0
        refine ThP.yes (s := blankS (c : Int) (q : Int)) (st := s2) HT.out (blank_rg H2.out HB3.out HO3.out EM.out ⟨HCQ.out.1, hc80, HCQ.out.2, hq24⟩)
end Go.Proofs.YtndjggabdajbfaaGreatDoor


