/- Parts one behind the other: What rows.Apply answers: the screen to which the bytes lead, or the error's number. Conditions: as told at each. -/
import Derived.Test.YtipofokinjkclaaDoorPE19
import Derived.Deep.CutBlock

set_option linter.unusedVariables false
set_option linter.unusedSimpArgs false
/- What rows.Apply answers: the screen to which the bytes lead, or the error's number. Conditions: the screen's parts and the bytes can be read; the tables lie where they were laid. -/
namespace Go.Proofs.YtipofokinjkclaaDoor
open Go Go.RowKit Go.Lib

set_option maxRecDepth 100000 in
theorem numCl_c (b r : Nat) (st : RS) (w : World) (hr : Rdr w r st) (hc : w.cell? ⟨b, 0, none⟩ = some (.pointer (some ⟨r, 0, none⟩))) :
    Calls Tryd.prog 77 #[.pointer (some ⟨b, 0, none⟩)] w fun e w' => e = .returned (.int .i64 ((numR st 1).1 : Int)) ∧ Rdr w' r (numR st 1).2 ∧ w.grownBy w' (some r) := by
  have hv : (numR st 1).1 < 256 := Nat.lt_of_lt_of_le (num_lt st 1) (by decide)
  obtain ⟨v, s1, e1⟩ : ∃ v s1, numR st 1 = (v, s1) := ⟨_, _, rfl⟩
  rw [e1] at hv ⊢
  have E1 := Lib.hid e1
  have HR := Lib.hid hr
  simp only [] at hv
  clear e1 hr
  go_enter Tryd.func77, Tryd.ntmps77
  go_wp2_with (first
    | (go_at_call 78; (refine (Rnum_c r st 1 w HR.out (by decide)).mono ?_); rintro _ w1 ⟨rfl, hr1, hg⟩; rw [E1.out] at hr1 ⊢; have HR1 := Lib.hid hr1; have HG := Lib.hid hg; clear hr1 hg))
  go_ret
  exact ⟨rfl, HR1.out, HG.out⟩
/-- The five first numbers. -/
theorem five_cases (a : ScD) (gA : Option Addr) (bs : List UInt8) (hf : fit16 a = true) : ∃ v1 v2 v3 v4 v5 s1 s2 s3 s4 s5, numR ⟨bs, 0, 0, gA⟩ 1 = (v1, s1) ∧ numR s1 1 = (v2, s2) ∧ numR s2 1 = (v3, s3) ∧ numR s3 1 = (v4, s4) ∧ numR s4 1 = (v5, s5) ∧
    v1 < 256 ∧ v2 < 256 ∧ v3 < 256 ∧ v4 < 256 ∧ v5 < 256 ∧ s5.gA = gA ∧
    ((s5.err = 2 ∧ app16 a bs = (scZ, 2)) ∨ (∃ c r x y f l, bs = c :: r :: x :: y :: f :: l ∧ v1 = c.toNat ∧ v2 = r.toNat ∧ v3 = x.toNat ∧ v4 = y.toNat ∧ v5 = f.toNat ∧ s5.err = 0 ∧ s5.rest = l)) := by
  obtain ⟨v1, s1, e1⟩ : ∃ v s', numR ⟨bs, 0, 0, gA⟩ 1 = (v, s') := ⟨_, _, rfl⟩
  obtain ⟨v2, s2, e2⟩ : ∃ v s', numR s1 1 = (v, s') := ⟨_, _, rfl⟩
  obtain ⟨v3, s3, e3⟩ : ∃ v s', numR s2 1 = (v, s') := ⟨_, _, rfl⟩
  obtain ⟨v4, s4, e4⟩ : ∃ v s', numR s3 1 = (v, s') := ⟨_, _, rfl⟩
  obtain ⟨v5, s5, e5⟩ : ∃ v s', numR s4 1 = (v, s') := ⟨_, _, rfl⟩
  have lt : ∀ {s s' : RS} {v : Nat}, numR s 1 = (v, s') → v < 256 := fun {s s' v} h => by
    have h2 := num_lt s 1
    rw [h] at h2
    exact Nat.lt_of_lt_of_le h2 (by decide)
  have ga : ∀ {s s' : RS} {v : Nat}, numR s 1 = (v, s') → s'.gA = s.gA := fun {s s' v} h => by
    have h2 := (num_gA s 1).1
    rw [h] at h2
    exact h2
  have err : ∀ {s s' : RS} {v : Nat}, numR s 1 = (v, s') → s.err = 2 → s'.err = 2 := fun {s s' v} h h0 => by
    rw [num_err (by rw [h0]; decide)] at h
    rw [← (Prod.mk.inj h).2]; exact h0
  have nil : ∀ {s s' : RS} {v : Nat}, numR s 1 = (v, s') → s.err = 0 → s.rest = [] → s'.err = 2 := fun {s s' v} h h0 h1 => by
    rw [num1_nil h0 h1] at h
    rw [← (Prod.mk.inj h).2]
  have cons : ∀ {s s' : RS} {v : Nat} {y : UInt8} {l : List UInt8}, numR s 1 = (v, s') → s.err = 0 → s.rest = y :: l → v = y.toNat ∧ s'.err = 0 ∧ s'.rest = l := fun {s s' v y l} h h0 h1 => by
    obtain ⟨t, f1, a1, b1, _, _⟩ := num1_cons h0 h1
    rw [f1] at h
    obtain ⟨g1, g2⟩ := Prod.mk.inj h
    subst g2
    exact ⟨g1.symm, a1, b1⟩
  refine ⟨v1, v2, v3, v4, v5, s1, s2, s3, s4, s5, e1, e2, e3, e4, e5, lt e1, lt e2, lt e3, lt e4, lt e5, ?_, ?_⟩
  · rw [ga e5, ga e4, ga e3, ga e2, ga e1]
  · rcases bs with _ | ⟨c, _ | ⟨r, _ | ⟨x, _ | ⟨y, _ | ⟨f, l⟩⟩⟩⟩⟩
    · left
      exact ⟨err e5 (err e4 (err e3 (err e2 (nil e1 rfl rfl)))), by unfold app16; rw [if_pos hf]⟩
    · left
      obtain ⟨g1, a1, b1⟩ := cons e1 rfl rfl
      exact ⟨err e5 (err e4 (err e3 (nil e2 a1 b1))), by unfold app16; rw [if_pos hf]⟩
    · left
      obtain ⟨g1, a1, b1⟩ := cons e1 rfl rfl
      obtain ⟨g2, a2, b2⟩ := cons e2 a1 b1
      exact ⟨err e5 (err e4 (nil e3 a2 b2)), by unfold app16; rw [if_pos hf]⟩
    · left
      obtain ⟨g1, a1, b1⟩ := cons e1 rfl rfl
      obtain ⟨g2, a2, b2⟩ := cons e2 a1 b1
      obtain ⟨g3, a3, b3⟩ := cons e3 a2 b2
      exact ⟨err e5 (nil e4 a3 b3), by unfold app16; rw [if_pos hf]⟩
    · left
      obtain ⟨g1, a1, b1⟩ := cons e1 rfl rfl
      obtain ⟨g2, a2, b2⟩ := cons e2 a1 b1
      obtain ⟨g3, a3, b3⟩ := cons e3 a2 b2
      obtain ⟨g4, a4, b4⟩ := cons e4 a3 b3
      exact ⟨nil e5 a4 b4, by unfold app16; rw [if_pos hf]⟩
    · right
      obtain ⟨g1, a1, b1⟩ := cons e1 rfl rfl
      obtain ⟨g2, a2, b2⟩ := cons e2 a1 b1
      obtain ⟨g3, a3, b3⟩ := cons e3 a2 b2
      obtain ⟨g4, a4, b4⟩ := cons e4 a3 b3
      obtain ⟨g5, a5, b5⟩ := cons e5 a4 b4
      exact ⟨c, r, x, y, f, l, rfl, g1, g2, g3, g4, g5, a5, b5⟩
/-- The answer's form: a screen in memory of its own, and a number. -/
def PostA (w : World) (Z : ScD × Nat) (e : Ending) (w' : World) : Prop := ∃ A' n' c' L' d', e = .returned (.tuple #[.agg (scC Z.1 A' n' c' L' 0 d'), .int .i64 (Z.2 : Int)]) ∧ OwnC w' w.heap.size (.slice A' n' c') Z.1.cells ∧ Z.1.links = [] ∧ Below w.heap.size w w'
theorem PostA.none_ {w w' : World} {Z : ScD × Nat} {E : Nat} {x : Int} (h : (scZ, E) = Z) (hx : x = (E : Int)) (hb : Below w.heap.size w w') : PostA w Z (.returned (.tuple #[.agg (scC scZ none 0 0 none 0 0), .int .i64 x])) w' := by
  subst hx
  rw [← h]
  exact ⟨none, 0, 0, none, 0, rfl, OwnC.nil_ _ _, rfl, hb⟩
theorem PostA.some_ {w w' : World} {Z : ScD × Nat} {s : ScD} {A : Option Addr} {n c : Nat} {L : Option Addr} {d : Nat} (h : (s, 0) = Z) (ho : OwnC w' w.heap.size (.slice A n c) s.cells) (hl : s.links = []) (hb : Below w.heap.size w w') : PostA w Z (.returned (.tuple #[.agg (scC s A n c L 0 d), .int .i64 0])) w' := by
  rw [← h]
  exact ⟨A, n, c, L, d, rfl, ho, hl, hb⟩
theorem cellAt_ln (l : List UInt8) : (fun d : CeD => 0 ≤ d.ln ∧ d.ln < 65536) (cellAt l) := ⟨Int.le_refl _, (by decide : (0 : Int) < 65536)⟩
theorem read_okLn (C R : Nat) (s : RS) (cs : List CeD) (h : okLn cs) : okLn (readF C R s cs).2 := by
  unfold readF
  split
  · exact readP_all (P := fun d => 0 ≤ d.ln ∧ d.ln < 65536) cellAt_ln C R _ _ h
  · exact h
set_option maxRecDepth 100000 in
set_option maxHeartbeats 16000000 in
theorem apply16_c (a : ScD) (A : Option Addr) (n c : Nat) (L : Option Addr) (m cm : Nat) (D : Option Addr) (dn dc : Nat) (bs : List UInt8) (w : World) (hs : ScR w a A n c L m cm) (hdn : bs.length = dn) (hdr : Rd w D (bs.map bv)) (hdl : dn ≤ 140737488355328) (hU : TabU w) :
    Calls Tryd.prog 45 #[.agg (scC a A n c L m cm), .slice D dn dc] w fun e w' => PostA w (app16 a bs) e w' := by
  obtain ⟨X, eX⟩ : ∃ X, X = scC a A n c L m cm := ⟨_, rfl⟩
  rw [← eX]
  obtain ⟨W0, eW0⟩ : ∃ W0, W0 = (w.alloc (.cells X 25)).alloc (.cells (scC scZ none 0 0 none 0 0) 25) := ⟨_, rfl⟩
  obtain ⟨p, ep⟩ : ∃ p, p = w.heap.size := ⟨_, rfl⟩
  obtain ⟨q, eq⟩ : ∃ q, q = w.heap.size + 1 := ⟨_, rfl⟩
  have hb0 : Below w.heap.size w W0 := by rw [eW0]; exact ((Below.refl _ _).alloc (Nat.le_refl _) _).alloc (by simp) _
  have HP0 : Hid (ScB W0 p a A n c L m cm) := Lib.hid (by rw [eW0, ep, eX]; exact (Below.heap_alloc _ _ _ (by simp)).trans (heap_alloc_new _ _))
  have HQ0 : Hid (ScB W0 q scZ none 0 0 none 0 0) := Lib.hid (by rw [eW0, eq]; exact heap_alloc2_new _ _ _)
  have eW0' : (w.alloc (.cells X 25)).alloc (.cells #[.int .i64 0, .int .i64 0, .slice none 0 0, .int .i64 0, .int .i64 0, .bool false, .int .u8 0, .string { data := #[] }, .slice none 0 0] 25) = W0 := by rw [eW0]; rfl
  have EW0 := Lib.hid eW0'
  have EP := Lib.hid ep
  have EQ := Lib.hid eq
  have HB0 := Lib.hid hb0
  have HR0 := Lib.hid (hs.below hb0)
  have HSW := Lib.hid hs
  have HD0 := Lib.hid (hdr.below hb0)
  have HU := Lib.hid hU
  have HDN := Lib.hid hdn
  have HDL := Lib.hid hdl
  have HWQ : Hid (w.heap.size ≤ q ∧ p < q) := Lib.hid ⟨by omega, by omega⟩
  obtain ⟨Z, eZ⟩ : ∃ Z, app16 a bs = Z := ⟨_, rfl⟩
  rw [eZ]
  have EZ := Lib.hid eZ
  obtain ⟨b1, e1⟩ : ∃ t, fit16 a = t := ⟨_, rfl⟩
  have E1 := Lib.hid e1
  clear eX eW0 eW0' ep eq hb0 hs hdr hU eZ e1 hdn hdl
  go_enter Tryd.func45, Tryd.ntmps45
  go_upto_region 1 with (fail)
  rw [EW0.out, ← EQ.out, ← EP.out]
  cases b1
  · have HZ : Hid ((scZ, 1) = Z) := Lib.hid (by rw [← EZ.out]; unfold app16; rw [if_neg (by rw [E1.out]; decide)])
    go_wp2_with (first
      | (refine wpList_load_row rfl 25 (.tmp 2) rfl p rfl 25 _ (0, 0) _ HP0.out Tryd.underlying25 rfl (info_sc.trans rfl) ?_)
      | (go_at_call 25; (refine (fits16_c a A n c L m cm W0 HR0.out (HU.out.next HB0.out)).mono ?_); rintro _ w1 ⟨rfl, hb1⟩; rw [E1.out]; have HB1 := Lib.hid (HB0.out.trans (hb1.mono HB0.out.size)); have HP1 := Lib.hid (HP0.out.below hb1); have HQ1 := Lib.hid (HQ0.out.below hb1); have HR1 := Lib.hid (HR0.out.below hb1); have HD1 := Lib.hid (HD0.out.below hb1); clear hb1)
      | (refine wpList_store_row rfl 25 (.tmp 4) (.tmp 19) rfl q (scC scZ none 0 0 none 0 0) rfl rfl 25 _ HQ1.out (info_sc.trans rfl) rfl (sc_one _ _ _ _ _ _ _) ?_))
    refine bodyPost_ret (v := .tuple #[.agg (scC scZ none 0 0 none 0 0), .int .i64 1]) (results_row_tmp (p := 4) (u := 5) (ty := 25) rfl _ _ q 25 _ (0, 0) _ _ rfl rfl (setRow_heap w1 q _ _ _ _ HQ1.out) Tryd.underlying25 rfl (info_sc.trans rfl)) rfl ?_
    exact PostA.none_ HZ.out rfl (below_setRow HB1.out HWQ.out.1 _)
  · go_upto_region 4 with (first
      | (refine wpList_load_row rfl 25 (.tmp 2) rfl p rfl 25 _ (0, 0) _ HP0.out Tryd.underlying25 rfl (info_sc.trans rfl) ?_)
      | (go_at_call 25; (refine (fits16_c a A n c L m cm W0 HR0.out (HU.out.next HB0.out)).mono ?_); rintro _ w1 ⟨rfl, hb1⟩; rw [E1.out]; have HB1 := Lib.hid (HB0.out.trans (hb1.mono HB0.out.size)); have HP1 := Lib.hid (HP0.out.below hb1); have HQ1 := Lib.hid (HQ0.out.below hb1); have HR1 := Lib.hid (HR0.out.below hb1); have HD1 := Lib.hid (HD0.out.below hb1); clear hb1)
      | (go_at_call 76; (refine (Rnew_c D dn dc bs w1 HDN.out HD1.out HDL.out).mono ?_); rintro _ w2 ⟨r, gA, rfl, hr2, hrd2, hb2, hga2⟩; have HB2 := Lib.hid (HB1.out.trans (hb2.mono HB1.out.size)); have HP2 := Lib.hid (HP1.out.below hb2); have HQ2 := Lib.hid (HQ1.out.below hb2); have HR2 := Lib.hid (HR1.out.below hb2); have HRD2 := Lib.hid hrd2; have HGA2 := Lib.hid hga2; have HRL : Hid (q < r ∧ w1.heap.size ≤ r) := Lib.hid ⟨by { have h := heap_lt HQ1.out; omega }, hr2⟩; clear hr2 hrd2 hb2 hga2))
    obtain ⟨b6, eb6⟩ : ∃ x, x = w2.heap.size := ⟨_, rfl⟩
    rw [← eb6]
    obtain ⟨W3, eW3⟩ : ∃ W, W = w2.alloc (.cells #[.pointer (some ⟨r, 0, none⟩)] 92) := ⟨_, rfl⟩
    rw [← eW3]
    have hb3 : Below w2.heap.size w2 W3 := by rw [eW3]; exact (Below.refl _ _).alloc (Nat.le_refl _) _
    have HC3 : Hid (W3.heap[b6]? = some (.cells #[.pointer (some ⟨r, 0, none⟩)] 92 (0, 0))) := Lib.hid (by rw [eW3, eb6]; exact heap_alloc_new _ _)
    have HX3 : Hid (W3.cell? ⟨b6, 0, none⟩ = some (.pointer (some ⟨r, 0, none⟩))) := Lib.hid (heap_cell HC3.out 0)
    have HB3 := Lib.hid (HB2.out.trans (hb3.mono HB2.out.size))
    have HP3 := Lib.hid (HP2.out.below hb3)
    have HQ3 := Lib.hid (HQ2.out.below hb3)
    have HR3 := Lib.hid (HR2.out.below hb3)
    have HRD3 := Lib.hid (HRD2.out.below hb3)
    have HLT : Hid (p < q ∧ q < r ∧ r < b6 ∧ w.heap.size ≤ p ∧ (∀ a, gA = some a → a.block < b6 ∧ q < a.block)) := Lib.hid ⟨HWQ.out.2, HRL.out.1, by rw [eb6]; exact HRD2.out.lt, by rw [EP.out]; exact Nat.le_refl _, fun a ha => ⟨by rw [eb6]; exact (HGA2.out a ha).2, by have h := heap_lt HQ1.out; have h2 := (HGA2.out a ha).1; omega⟩⟩
    obtain ⟨v1, v2, v3, v4, v5, s1, s2, s3, s4, s5, e1, e2, e3, e4, e5, l1, l2, l3, l4, l5, hgA, hcs⟩ := five_cases a gA bs E1.out
    rw [EZ.out] at hcs
    have HCS := Lib.hid hcs
    have HGA := Lib.hid hgA
    have G1 := Lib.hid e1
    have G2 := Lib.hid e2
    have G3 := Lib.hid e3
    have G4 := Lib.hid e4
    have G5 := Lib.hid e5
    clear e1 e2 e3 e4 e5 hgA hcs eb6 eW3 hb3 HRD2 HP2 HQ2 HR2 HGA2 HP1 HQ1 HR1 HD1 HB1 HB2
    go_upto_region 6 with (first
      | (go_at_call 77; (with_reducible refine (numCl_c b6 r ⟨bs, 0, 0, gA⟩ W3 HRD3.out HX3.out).mono ?_); rintro _ wa ⟨rfl, hr1, hg⟩; rw [G1.out] at hr1 ⊢; have HRDa := Lib.hid hr1; have HBa := Lib.hid (HB3.out.grown hg HB3.out.size (fun k e => by { injection e with e; have := HLT.out; omega })); have HPa := Lib.hid (ScB.grown HP3.out hg (by { have := HLT.out; omega })); have HQa := Lib.hid (ScB.grown HQ3.out hg (by { have := HLT.out; omega })); have HCa := Lib.hid ((hg.block b6 (heap_lt HC3.out) (fun e => by { injection e with e; have := HLT.out; omega })).trans HC3.out); have HXa : Hid (wa.cell? ⟨b6, 0, none⟩ = some (.pointer (some ⟨r, 0, none⟩))) := Lib.hid (heap_cell HCa.out 0); clear hr1 hg)
      | (go_at_call 77; (with_reducible refine (numCl_c b6 r s1 wa HRDa.out HXa.out).mono ?_); rintro _ wb ⟨rfl, hr1, hg⟩; rw [G2.out] at hr1 ⊢; have HRDb := Lib.hid hr1; have HBb := Lib.hid (HBa.out.grown hg HBa.out.size (fun k e => by { injection e with e; have := HLT.out; omega })); have HPb := Lib.hid (ScB.grown HPa.out hg (by { have := HLT.out; omega })); have HQb := Lib.hid (ScB.grown HQa.out hg (by { have := HLT.out; omega })); have HCb := Lib.hid ((hg.block b6 (heap_lt HCa.out) (fun e => by { injection e with e; have := HLT.out; omega })).trans HCa.out); have HXb : Hid (wb.cell? ⟨b6, 0, none⟩ = some (.pointer (some ⟨r, 0, none⟩))) := Lib.hid (heap_cell HCb.out 0); clear hr1 hg)
      | (go_at_call 77; (with_reducible refine (numCl_c b6 r s2 wb HRDb.out HXb.out).mono ?_); rintro _ wc ⟨rfl, hr1, hg⟩; rw [G3.out] at hr1 ⊢; have HRDc := Lib.hid hr1; have HBc := Lib.hid (HBb.out.grown hg HBb.out.size (fun k e => by { injection e with e; have := HLT.out; omega })); have HPc := Lib.hid (ScB.grown HPb.out hg (by { have := HLT.out; omega })); have HQc := Lib.hid (ScB.grown HQb.out hg (by { have := HLT.out; omega })); have HCc := Lib.hid ((hg.block b6 (heap_lt HCb.out) (fun e => by { injection e with e; have := HLT.out; omega })).trans HCb.out); have HXc : Hid (wc.cell? ⟨b6, 0, none⟩ = some (.pointer (some ⟨r, 0, none⟩))) := Lib.hid (heap_cell HCc.out 0); clear hr1 hg)
      | (go_at_call 77; (with_reducible refine (numCl_c b6 r s3 wc HRDc.out HXc.out).mono ?_); rintro _ wd ⟨rfl, hr1, hg⟩; rw [G4.out] at hr1 ⊢; have HRDd := Lib.hid hr1; have HBd := Lib.hid (HBc.out.grown hg HBc.out.size (fun k e => by { injection e with e; have := HLT.out; omega })); have HPd := Lib.hid (ScB.grown HPc.out hg (by { have := HLT.out; omega })); have HQd := Lib.hid (ScB.grown HQc.out hg (by { have := HLT.out; omega })); have HCd := Lib.hid ((hg.block b6 (heap_lt HCc.out) (fun e => by { injection e with e; have := HLT.out; omega })).trans HCc.out); have HXd : Hid (wd.cell? ⟨b6, 0, none⟩ = some (.pointer (some ⟨r, 0, none⟩))) := Lib.hid (heap_cell HCd.out 0); clear hr1 hg)
      | (go_at_call 77; (with_reducible refine (numCl_c b6 r s4 wd HRDd.out HXd.out).mono ?_); rintro _ we ⟨rfl, hr1, hg⟩; rw [G5.out] at hr1 ⊢; have HRDe := Lib.hid hr1; have HBe := Lib.hid (HBd.out.grown hg HBd.out.size (fun k e => by { injection e with e; have := HLT.out; omega })); have HPe := Lib.hid (ScB.grown HPd.out hg (by { have := HLT.out; omega })); have HQe := Lib.hid (ScB.grown HQd.out hg (by { have := HLT.out; omega })); have HCe := Lib.hid ((hg.block b6 (heap_lt HCd.out) (fun e => by { injection e with e; have := HLT.out; omega })).trans HCd.out); have HXe : Hid (we.cell? ⟨b6, 0, none⟩ = some (.pointer (some ⟨r, 0, none⟩))) := Lib.hid (heap_cell HCe.out 0); clear hr1 hg))
    have x6 := HXe.out
    rcases HCS.out with ⟨q1, q2⟩ | ⟨vc, vr, vx, vy, vf, l, q0, q1, q2, q3, q4, q5, q6, q7⟩
    · have HZ : Hid ((scZ, s5.err) = Z) := Lib.hid (by rw [q2, q1])
      have z0 : (((s5.err : Nat) : Int) != 0) = true := by rw [bne_iff_ne]; omega
      clear q1 q2
      go_wp2_with (first
        | (go_at_call 79; (with_reducible refine (Rerr_c r s5 we HRDe.out).mono ?_); rintro _ _ ⟨rfl, rfl⟩)
        | (refine wpList_store_row rfl 25 (.tmp 4) (.tmp 36) rfl q (scC scZ none 0 0 none 0 0) rfl rfl 25 _ HQe.out (info_sc.trans rfl) rfl (sc_one _ _ _ _ _ _ _) ?_))
      refine bodyPost_ret (v := .tuple #[.agg (scC scZ none 0 0 none 0 0), .int .i64 (s5.err : Int)]) (results_row_tmp (p := 4) (u := 5) (ty := 25) rfl _ _ q 25 _ (0, 0) _ _ rfl rfl (setRow_heap we q _ _ _ _ HQe.out) Tryd.underlying25 rfl (info_sc.trans rfl)) rfl ?_
      exact PostA.none_ HZ.out rfl (below_setRow HBe.out HWQ.out.1 _)
    · have HZ0 : Hid ((if 7 < v5 ∨ fitsI (v1 : Int) (v2 : Int) = false then (scZ, 3)
          else if v5 < 4 ∧ ¬ ((v1 : Int) = a.cols ∧ (v2 : Int) = a.rows) then (scZ, 15)
          else (match titP v5 (base16 a v1 v2 v3 v4 v5).title s5.rest with
            | none => (scZ, 2)
            | some (t, l2) => end16 { base16 a v1 v2 v3 v4 v5 with title := t } (readP v1 v2 l2 (base16 a v1 v2 v3 v4 v5).cells))) = Z) := Lib.hid (by rw [← EZ.out, q0, q1, q2, q3, q4, q5, q7]; unfold app16; rw [if_pos E1.out]; rfl)
      have HS5 : Hid (s5.err = 0) := Lib.hid q6
      have z0 : (((s5.err : Nat) : Int) != 0) = false := by rw [bne_eq_false_iff_eq]; omega
      clear q0 q1 q2 q3 q4 q5 q6 q7
      obtain ⟨FB, eFB⟩ : ∃ b, fitsI (v1 : Int) (v2 : Int) = b := ⟨_, rfl⟩
      have HFB := Lib.hid eFB
      cases FB
      · have HZ : Hid ((scZ, 3) = Z) := Lib.hid (by rw [← HZ0.out, if_pos (Or.inr eFB)])
        clear eFB
        obtain ⟨b7, e7⟩ : ∃ b, decide ((7 : Int) < (v5 : Int)) = b := ⟨_, rfl⟩
        have e7n : decide (7 < v5) = b7 := by rw [← e7]; exact decide_eq_decide.2 (by omega)
        go_upto_block 0 with (first
          | (go_at_call 79; (with_reducible refine (Rerr_c r s5 we HRDe.out).mono ?_); rintro _ _ ⟨rfl, rfl⟩)
          | (go_at_call 34; (refine (projBlank_bad (v1 : Int) (v2 : Int) we HFB.out).mono ?_); rintro _ w8 ⟨rfl, hb8⟩; have HB8 := Lib.hid (HBe.out.trans (hb8.mono HBe.out.size)); have HQ8 := Lib.hid (HQe.out.below hb8); clear hb8)
          | (refine wpList_store_rowTo rfl 25 (.tmp 13) (.tmp 43) rfl rfl w8.heap.size (scC scZ none 0 0 none 0 0) rfl rfl 25 _ (heap_alloc_new w8 _) (info_sc.trans rfl) rfl (sc_one _ _ _ _ _ _ _) ?_))
        generalize eXX : World.alloc w8 _ = XX
        have hx : Below w8.heap.size w8 XX := by rw [← eXX]; exact (Below.refl _ _).alloc (Nat.le_refl _) _
        obtain ⟨old, hq2⟩ : ∃ old, XX.heap[w8.heap.size]? = some (.cells old 25 (0, 0)) := ⟨_, by rw [← eXX]; exact heap_alloc_new _ _⟩
        obtain ⟨g, eg⟩ : ∃ g, g = w8.heap.size := ⟨_, rfl⟩
        obtain ⟨W9, eWW⟩ : ∃ W, W = XX.setRow w8.heap.size (scC scZ none 0 0 none 0 0) := ⟨_, rfl⟩
        rw [← eWW, ← eg]
        have HG9 : Hid (ScB W9 g scZ none 0 0 none 0 0) := Lib.hid (by rw [eWW, eg]; exact setRow_heap _ _ _ _ _ _ hq2)
        have hbs : Below w8.heap.size w8 W9 := by rw [eWW]; exact below_setRow hx (Nat.le_refl _) _
        have EGg := Lib.hid eg
        clear eXX hx hq2 eg eWW
        have HB9 := Lib.hid (HB8.out.trans (hbs.mono HB8.out.size))
        have HQ9 := Lib.hid (HQ8.out.below hbs)
        clear hbs x6
        cases b7 <;>
        · go_wp2_with (first
            | (refine wpList_store_row rfl 25 (.tmp 4) (.tmp 52) rfl q (scC scZ none 0 0 none 0 0) rfl rfl 25 _ HQ9.out (info_sc.trans rfl) rfl (sc_one _ _ _ _ _ _ _) ?_))
          refine bodyPost_ret (v := .tuple #[.agg (scC scZ none 0 0 none 0 0), .int .i64 3]) (results_row_tmp (p := 4) (u := 5) (ty := 25) rfl _ _ q 25 _ (0, 0) _ _ rfl rfl (setRow_heap W9 q _ _ _ _ HQ9.out) Tryd.underlying25 rfl (info_sc.trans rfl)) rfl ?_
          exact PostA.none_ HZ.out rfl (below_setRow HB9.out HWQ.out.1 _)
      · clear eFB
        obtain ⟨N, eN⟩ : ∃ N, N = v1 * v2 := ⟨_, rfl⟩
        have HN := Lib.hid eN
        clear eN
        go_upto_block 0 with (first
          | (go_at_call 79; (with_reducible refine (Rerr_c r s5 we HRDe.out).mono ?_); rintro _ _ ⟨rfl, rfl⟩)
          | (go_at_call 34; (refine (projBlank_c v1 v2 N we HFB.out HN.out).mono ?_); rintro _ w8 ⟨A8, c8, rfl, ho8, hb8⟩; have HO8 := Lib.hid ho8; have HK8 := Lib.hid hb8; clear ho8 hb8)
          | (refine wpList_store_rowTo rfl 25 (.tmp 13) (.tmp 43) rfl rfl w8.heap.size (scC (blankS v1 v2) A8 N c8 none 0 0) rfl rfl 25 _ (heap_alloc_new w8 _) (info_sc.trans rfl) rfl (sc_one _ _ _ _ _ _ _) ?_))
        generalize eXX : World.alloc w8 _ = XX
        have hx : Below w8.heap.size w8 XX := by rw [← eXX]; exact (Below.refl _ _).alloc (Nat.le_refl _) _
        obtain ⟨old, hq2⟩ : ∃ old, XX.heap[w8.heap.size]? = some (.cells old 25 (0, 0)) := ⟨_, by rw [← eXX]; exact heap_alloc_new _ _⟩
        obtain ⟨g, eg⟩ : ∃ g, g = w8.heap.size := ⟨_, rfl⟩
        obtain ⟨W9, eWW⟩ : ∃ W, W = XX.setRow w8.heap.size (scC (blankS v1 v2) A8 N c8 none 0 0) := ⟨_, rfl⟩
        rw [← eWW, ← eg]
        have HG9 : Hid (ScB W9 g (blankS v1 v2) A8 N c8 none 0 0) := Lib.hid (by rw [eWW, eg]; exact setRow_heap _ _ _ _ _ _ hq2)
        have hbs : Below w8.heap.size w8 W9 := by rw [eWW]; exact below_setRow hx (Nat.le_refl _) _
        have EGg := Lib.hid eg
        clear eXX hx hq2 eg eWW
        have HK9 : Hid (Below we.heap.size we W9) := Lib.hid (HK8.out.trans (hbs.mono HK8.out.size))
        have HO9 := Lib.hid (OwnC.below HO8.out hbs)
        have HB9 := Lib.hid (HBe.out.trans (HK9.out.mono HBe.out.size))
        have HQ9 := Lib.hid (HQe.out.below HK9.out)
        have HP9 := Lib.hid (HPe.out.below HK9.out)
        have HC9 : Hid (W9.heap[b6]? = some (.cells #[.pointer (some ⟨r, 0, none⟩)] 92 (0, 0))) := Lib.hid ((HK9.out.block b6 (heap_lt HCe.out)).trans HCe.out)
        have HRD9 := Lib.hid (HRDe.out.below HK9.out)
        have HR9 := Lib.hid (HSW.out.below HB9.out)
        have HLB : Hid (b6 < we.heap.size ∧ we.heap.size ≤ g) := Lib.hid ⟨heap_lt HCe.out, by rw [EGg.out]; exact HK8.out.size⟩
        have HDIM : Hid (1 ≤ v1 ∧ v1 ≤ 80 ∧ 1 ≤ v2 ∧ v2 ≤ 24) := Lib.hid (by have h := HFB.out; simp only [fitsI, Bool.and_eq_true, decide_eq_true_eq] at h; omega)
        clear hbs x6
        by_cases h7 : 7 < v5
        · have HZ : Hid ((scZ, 3) = Z) := Lib.hid (by rw [← HZ0.out, if_pos (Or.inl h7)])
          have e7n : decide (7 < v5) = true := decide_eq_true h7
          have e7 : decide ((7 : Int) < (v5 : Int)) = true := decide_eq_true (by omega)
          clear h7
          go_wp2_with (first
            | (refine wpList_store_row rfl 25 (.tmp 4) (.tmp 52) rfl q (scC scZ none 0 0 none 0 0) rfl rfl 25 _ HQ9.out (info_sc.trans rfl) rfl (sc_one _ _ _ _ _ _ _) ?_))
          refine bodyPost_ret (v := .tuple #[.agg (scC scZ none 0 0 none 0 0), .int .i64 3]) (results_row_tmp (p := 4) (u := 5) (ty := 25) rfl _ _ q 25 _ (0, 0) _ _ rfl rfl (setRow_heap W9 q _ _ _ _ HQ9.out) Tryd.underlying25 rfl (info_sc.trans rfl)) rfl ?_
          exact PostA.none_ HZ.out rfl (below_setRow HB9.out HWQ.out.1 _)
        · have HZ1 : Hid ((if v5 < 4 ∧ ¬ ((v1 : Int) = a.cols ∧ (v2 : Int) = a.rows) then (scZ, 15)
            else (match titP v5 (base16 a v1 v2 v3 v4 v5).title s5.rest with
            | none => (scZ, 2)
            | some (t, l2) => end16 { base16 a v1 v2 v3 v4 v5 with title := t } (readP v1 v2 l2 (base16 a v1 v2 v3 v4 v5).cells))) = Z) := Lib.hid (by have h := HZ0.out; rw [if_neg (by rw [HFB.out]; simp; omega)] at h; exact h)
          have e7n : decide (7 < v5) = false := decide_eq_false h7
          have e7 : decide ((7 : Int) < (v5 : Int)) = false := decide_eq_false (by omega)
          obtain ⟨k4, k1, k2⟩ := and_bits (f := v5) (by omega)
          have HK1 := Lib.hid k1
          have HK2 := Lib.hid k2
          clear h7 k1 k2
          obtain ⟨gs8, rfl⟩ := own_at2 HO9.out (by rw [List.length_replicate, HN.out]; exact Nat.mul_pos (by have := HDIM.out; omega) (by have := HDIM.out; omega))
          go_cut [] (fun wx => Hid (∃ gs n0 c0 L0 d0, ApS w q b6 r g gs gA v1 v2 (if v5 < 4 then a else blankS v1 v2) n0 c0 L0 d0 s5 wx ∧ ¬ (v5 < 4 ∧ ¬ ((v1 : Int) = a.cols ∧ (v2 : Int) = a.rows))))
          case first =>
            by_cases h4 : v5 < 4
            · have k4' : (bits BinOp.and .i64 (v5 : Int) 4 == 0) = true := by rw [k4]; exact decide_eq_true h4
              have x0 : W9.cell? ⟨p, 0, none⟩ = some (.int .i64 a.cols) := HP9.out.nine.1
              have x1 : W9.cell? ⟨p, 1, none⟩ = some (.int .i64 a.rows) := HP9.out.nine.2.1
              have H4 := Lib.hid h4
              clear h4 k4
              by_cases hd : (v1 : Int) = a.cols ∧ (v2 : Int) = a.rows
              · obtain ⟨C, R, hf⟩ := fit16_of E1.out
                have hvc : v1 = C := by have := hf.c; omega
                have hvr : v2 = R := by have := hf.r; omega
                subst hvc hvr
                have HFA := Lib.hid hf
                have HD := Lib.hid hd
                have z1 : ((v1 : Int) != a.cols) = false := by rw [bne_eq_false_iff_eq]; exact hd.1
                have z2 : ((v2 : Int) != a.rows) = false := by rw [bne_eq_false_iff_eq]; exact hd.2
                clear hd hf
                go_upto_region 15 with (first
                  | (refine wpList_load_row rfl 25 (.tmp 2) rfl p rfl 25 _ (0, 0) _ HP9.out Tryd.underlying25 rfl (info_sc.trans rfl) ?_)
                  | (refine wpList_store_row rfl 25 (.tmp 13) (.tmp 74) rfl g (scC a A n c L m cm) rfl rfl 25 _ HG9.out (info_sc.trans rfl) rfl (sc_one _ _ _ _ _ _ _) ?_))
                clear x0 x1 z1 z2 k4'
                obtain ⟨W10, eW10⟩ : ∃ W, W = W9.setRow g (scC a A n c L m cm) := ⟨_, rfl⟩
                rw [← eW10]
                have HG10 : Hid (ScB W10 g a A n c L m cm) := Lib.hid (by rw [eW10]; exact setRow_heap _ _ _ _ _ _ HG9.out)
                have HS10 : Hid (Stays (fun k => k = g) W9 W10) := Lib.hid (by rw [eW10]; exact Stays.setRow _ _ _ _ rfl)
                have HB10 : Hid (Below w.heap.size w W10) := Lib.hid (HB9.out.trans (HS10.out.below HB9.out.size (fun j hj e => by have h1 := HLB.out.2; have h2 := HBe.out.size; omega)))
                have HPG : Hid (p ≠ g ∧ q ≠ g ∧ b6 ≠ g ∧ r ≠ g ∧ b6 < g) := Lib.hid (by have h1 := HLB.out; have h2 := HLT.out; omega)
                have HP10 := Lib.hid (HS10.out.scB HP9.out HPG.out.1)
                have HQ10 := Lib.hid (HS10.out.scB HQ9.out HPG.out.2.1)
                have HC10 : Hid (W10.heap[b6]? = some (.cells #[.pointer (some ⟨r, 0, none⟩)] 92 (0, 0))) := Lib.hid ((HS10.out.block b6 (heap_lt HC9.out) HPG.out.2.2.1).trans HC9.out)
                have HRD10 := Lib.hid (HS10.out.rdr HRD9.out HPG.out.2.2.2.1 (fun a' ha e => by have h1 := HLT.out.2.2.2.2 a' (HGA.out ▸ ha); have h2 := HLB.out; omega))
                have HR10 := Lib.hid (HSW.out.below HB10.out)
                have x2 : W10.cell? ⟨p, 2, none⟩ = some (.slice A n c) := HP10.out.nine.2.2.1
                clear eW10
                go_wp2_with (first
                  | (go_at_call 54; (refine (CloneC_c A n c a.cells W10 HR10.out.hn HR10.out.rd (by { have := HR10.out.nl; omega })).mono ?_); rintro _ w11 ⟨v, rfl, ho11, hb11⟩; obtain ⟨A11, c11, rfl, -⟩ := ho11.form; obtain ⟨gs, rfl⟩ := own_at2 ho11 (by { rw [HFA.out.len]; exact Nat.mul_pos (by { have := HDIM.out; omega }) (by { have := HDIM.out; omega }) }); have HO11 := Lib.hid ho11; have HK11 := Lib.hid hb11; have f2 := heap_free (HG10.out.below hb11) 2; have y2 := (HG10.out.below hb11).nine.2.2.1; clear ho11 hb11))
                go_meet
                refine Lib.hid ⟨gs, a.cells.length, c11, L, cm, ?_, fun h => h.2 HD.out⟩
                rw [if_pos H4.out]
                have hm : m = 0 := by rw [← HSW.out.hm, HFA.out.lk]; rfl
                have hg11 := HG10.out.below HK11.out
                rw [hm] at hg11
                have hgs : gs ≠ g := by have h1 := (HO11.out.lt gs rfl).1; have h2 := heap_lt HG10.out; omega
                have hk : Stays (fun k => k = g) w11 (w11.setCell ⟨g, 2, none⟩ (.slice (some ⟨gs, 0, none⟩) a.cells.length c11)) := Stays.set _ w11 ⟨g, 2, none⟩ _ rfl
                have h1 := heap_set (i := 2) (u := .slice (some ⟨gs, 0, none⟩) a.cells.length c11) hg11
                have hb := HB10.out.trans (HK11.out.mono HB10.out.size)
                have hlt := HLT.out
                have hlb := HLB.out
                have hwe := HBe.out.size
                have h10 := (HO11.out.lt gs rfl).1
                have h12 := heap_lt HC10.out
                exact ⟨hb.trans (hk.below hb.size (fun j hj e => by omega)), hk.scB (HQ10.out.below HK11.out) HPG.out.2.1, (hk.block b6 (Nat.lt_of_lt_of_le h12 HK11.out.size) HPG.out.2.2.1).trans ((HK11.out.block b6 h12).trans HC10.out), hk.rdr (HRD10.out.below HK11.out) HPG.out.2.2.2.1 (fun a' ha e => by have h1 := HLT.out.2.2.2.2 a' (HGA.out ▸ ha); omega), HGA.out, h1, hk.keepC (HO11.out.low HB10.out.size) (fun j ej => by injection ej with ej; have : gs = j := ej; omega), HFA.out.len, hgs, ⟨HWQ.out.1, by omega, by omega, HPG.out.2.2.2.2, by omega⟩, fun a' ha => ⟨(hlt.2.2.2.2 a' ha).2, (hlt.2.2.2.2 a' ha).1⟩, HDIM.out, HD.out.1.symm, HD.out.2.symm, HFA.out.lk, HSW.out.ok, HSW.out.tl⟩
              · have HZ : Hid ((scZ, 15) = Z) := Lib.hid (by rw [← HZ1.out, if_pos ⟨H4.out, hd⟩])
                by_cases hd1 : (v1 : Int) = a.cols
                · have hd2 : ¬ (v2 : Int) = a.rows := fun e => hd ⟨hd1, e⟩
                  have z1 : ((v1 : Int) != a.cols) = false := by rw [bne_eq_false_iff_eq]; exact hd1
                  have z2 : ((v2 : Int) != a.rows) = true := by rw [bne_iff_ne]; exact hd2
                  clear hd hd1 hd2
                  go_wp2_with (first
                    | (refine wpList_store_row rfl 25 (.tmp 4) (.tmp 69) rfl q (scC scZ none 0 0 none 0 0) rfl rfl 25 _ HQ9.out (info_sc.trans rfl) rfl (sc_one _ _ _ _ _ _ _) ?_))
                  refine bodyPost_ret (v := .tuple #[.agg (scC scZ none 0 0 none 0 0), .int .i64 15]) (results_row_tmp (p := 4) (u := 5) (ty := 25) rfl _ _ q 25 _ (0, 0) _ _ rfl rfl (setRow_heap W9 q _ _ _ _ HQ9.out) Tryd.underlying25 rfl (info_sc.trans rfl)) rfl ?_
                  exact PostA.none_ HZ.out rfl (below_setRow HB9.out HWQ.out.1 _)
                · have z1 : ((v1 : Int) != a.cols) = true := by rw [bne_iff_ne]; exact hd1
                  clear hd hd1
                  go_wp2_with (first
                    | (refine wpList_store_row rfl 25 (.tmp 4) (.tmp 69) rfl q (scC scZ none 0 0 none 0 0) rfl rfl 25 _ HQ9.out (info_sc.trans rfl) rfl (sc_one _ _ _ _ _ _ _) ?_))
                  refine bodyPost_ret (v := .tuple #[.agg (scC scZ none 0 0 none 0 0), .int .i64 15]) (results_row_tmp (p := 4) (u := 5) (ty := 25) rfl _ _ q 25 _ (0, 0) _ _ rfl rfl (setRow_heap W9 q _ _ _ _ HQ9.out) Tryd.underlying25 rfl (info_sc.trans rfl)) rfl ?_
                  exact PostA.none_ HZ.out rfl (below_setRow HB9.out HWQ.out.1 _)
            · have k4' : (bits BinOp.and .i64 (v5 : Int) 4 == 0) = false := by rw [k4]; exact decide_eq_false h4
              have H4 := Lib.hid h4
              clear h4 k4
              go_wp2_with (fail)
              go_meet
              refine Lib.hid ⟨gs8, N, c8, none, 0, ?_, fun h => H4.out h.1⟩
              rw [if_neg H4.out]
              have hlt := HLT.out
              have hlb := HLB.out
              have h8 := HO8.out.lt gs8 rfl
              have hwe := HBe.out.size
              have hd := HDIM.out
              have hbc : (blankS (v1 : Int) (v2 : Int)).cells = List.replicate N blankD := by
                show List.replicate ((v1 : Int) * (v2 : Int)).toNat blankD = _
                rw [HN.out, ← Int.natCast_mul]; rfl
              exact ⟨HB9.out, HQ9.out, HC9.out, HRD9.out, HGA.out, HG9.out, (by rw [hbc]; exact HO9.out.low HBe.out.size), HN.out, by have := EGg.out; omega, ⟨HWQ.out.1, by omega, by omega, by omega, by omega⟩, fun a' ha => ⟨(hlt.2.2.2.2 a' ha).2, (hlt.2.2.2.2 a' ha).1⟩, HDIM.out, rfl, rfl, rfl, (blank_sound16 HFB.out).ok, Nat.zero_le _⟩
          case rest =>
          obtain ⟨gs, n0, c0, L0, d0, hA, hne⟩ := hcut.out
          have HA := Lib.hid hA
          obtain ⟨S0, eS0⟩ : ∃ S0 : ScD, (if v5 < 4 then a else blankS v1 v2) = S0 := ⟨_, rfl⟩
          rw [eS0] at HA
          have HZ2 : Hid ((match titP v5 S0.title s5.rest with
            | none => (scZ, 2)
            | some (t, l2) => end16 ⟨S0.cols, S0.rows, S0.cells, (v3 : Int), (v4 : Int), v5 % 2 == 1, S0.mouse, t, S0.links⟩ (readP v1 v2 l2 S0.cells)) = Z) := Lib.hid (by have h := HZ1.out; rw [if_neg hne] at h; unfold base16 at h; rw [eS0] at h; exact h)
          clear hcut hA hne eS0
          obtain ⟨hb, ehb⟩ : ∃ b, (v5 % 2 == 1) = b := ⟨_, rfl⟩
          have hk1 : (bits BinOp.and .i64 (v5 : Int) 1 != 0) = hb := HK1.out.trans ehb
          have EHB := Lib.hid ehb
          have f3 := heap_free HA.out.sg 3
          have f4 := heap_free HA.out.sg 4
          have f5 := heap_free HA.out.sg 5
          obtain ⟨-, -, -, y3, y4, y5, -, -, -⟩ := HA.out.sg.nine
          clear ehb k4 e7 e7n HZ0 HZ1
          go_upto_region 17 with (fail)
          clear hk1 f3 f4 f5 y3 y4 y5
          obtain ⟨W16, eW16⟩ : ∃ W, W = ((wc.setCell ⟨g, 3, none⟩ (.int .i64 (v3 : Int))).setCell ⟨g, 4, none⟩ (.int .i64 (v4 : Int))).setCell ⟨g, 5, none⟩ (.bool hb) := ⟨_, rfl⟩
          rw [← eW16]
          obtain ⟨S1, eS1⟩ : ∃ S1 : ScD, S1 = ⟨S0.cols, S0.rows, S0.cells, (v3 : Int), (v4 : Int), hb, S0.mouse, S0.title, S0.links⟩ := ⟨_, rfl⟩
          have HA16 : Hid (ApS w q b6 r g gs gA v1 v2 S1 n0 c0 L0 d0 s5 W16) := Lib.hid (by rw [eS1, eW16]; exact HA.out.xyh (v3 : Int) (v4 : Int) hb)
          have HZ3 : Hid ((match titP v5 S1.title s5.rest with
            | none => (scZ, 2)
            | some (t', l2) => end16 ⟨S1.cols, S1.rows, S1.cells, S1.x, S1.y, S1.hid, S1.mouse, t', S1.links⟩ (readP v1 v2 l2 S1.cells)) = Z) := Lib.hid (by have h := HZ2.out; rw [EHB.out] at h; rw [eS1]; exact h)
          clear eW16 eS1 HA HZ2
          obtain ⟨bt, ebt⟩ : ∃ b, decide (v5 / 2 % 2 = 1) = b := ⟨_, rfl⟩
          have hk2 : (bits BinOp.and .i64 (v5 : Int) 2 != 0) = bt := HK2.out.trans ebt
          have HBT := Lib.hid ebt
          clear ebt
          go_upto_if 89 with (fail)
          clear hk2
          go_cut [] (fun wx => Hid (∃ T s7, ApS w q b6 r g gs gA v1 v2 ⟨S1.cols, S1.rows, S1.cells, S1.x, S1.y, S1.hid, S1.mouse, T, S1.links⟩ n0 c0 L0 d0 s7 wx ∧ end16 ⟨S1.cols, S1.rows, S1.cells, S1.x, S1.y, S1.hid, S1.mouse, T, S1.links⟩ (readF v1 v2 s7 S1.cells) = Z))
          case first =>
            cases bt
            · go_wp2_with (fail)
              go_meet
              exact Lib.hid ⟨S1.title, s5, HA16.out, by rw [← HZ3.out]; exact (tit_none S1 v1 v2 v5 s5 HS5.out (of_decide_eq_false HBT.out)).symm⟩
            · obtain ⟨v6, s6, e6⟩ : ∃ v s', numR s5 1 = (v, s') := ⟨_, _, rfl⟩
              obtain ⟨l7, s7, e7⟩ : ∃ v s', takeR s6 (v6 : Int) = (v, s') := ⟨_, _, rfl⟩
              have hv6 : v6 < 256 := by have h2 := num_lt s5 1; rw [e6] at h2; exact Nat.lt_of_lt_of_le h2 (by decide)
              have htr := tit_read S1 v1 v2 v5 S1.title s5 HS5.out (by obtain ⟨_, _, _, _, _, _, _, h, _⟩ := HA16.out.rd; exact h) (of_decide_eq_true HBT.out)
              rw [e6] at htr
              simp only [] at htr
              rw [e7] at htr
              simp only [] at htr
              have HTZ := Lib.hid (htr.1.symm.trans HZ3.out)
              have HTL := Lib.hid htr.2
              have E6 := Lib.hid e6
              have E7 := Lib.hid e7
              have x6 : W16.cell? ⟨b6, 0, none⟩ = some (.pointer (some ⟨r, 0, none⟩)) := HA16.out.cell
              have g7 := heap_free HA16.out.sg 7
              have wf6 : (Lit.int .i64 (v6 : Int)).wf = true := by
                simp only [Lit.wf, IntKind.min, IntKind.max, IntKind.signed, IntKind.bits, Bool.and_eq_true, decide_eq_true_eq]
                simp
                omega
              have WF6 := Lib.hid wf6
              have HRD16 : Hid (Rdr W16.drew r s5) := Lib.hid HA16.out.rd
              have x6d : W16.drew.cell? ⟨b6, 0, none⟩ = some (.pointer (some ⟨r, 0, none⟩)) := x6
              have HXL : Hid (∀ w' : World, W16.drew.heap.size ≤ w'.heap.size → b6 < w'.heap.size) := Lib.hid (fun w' h => Nat.lt_of_lt_of_le (heap_lt HA16.out.hc) h)
              have HXS : Hid (∀ w' : World, Stays (fun k => k = r) W16.drew w' → ScB w' g S1 (some ⟨gs, 0, none⟩) n0 c0 L0 0 d0) := Lib.hid (fun w' h => h.scB (w := W16.drew) HA16.out.sg (fun e => by have := HA16.out.ord; omega))
              have HXC : Hid (∀ w' : World, Stays (fun k => k = r) W16.drew w' → w'.cell? ⟨g, 7, none⟩ = some (.string S1.title)) := Lib.hid (fun w' h => (HXS.out w' h).nine.2.2.2.2.2.2.2.1)
              have HXF : Hid (∀ w' : World, Stays (fun k => k = r) W16.drew w' → w'.frozen? ⟨g, 7, none⟩ = false) := Lib.hid (fun w' h => heap_free (HXS.out w' h) 7)
              clear e6 e7 htr wf6
              go_upto_region 18 with (fail)
              go_region_law (first
                | (go_simp; go_at_call 77; (with_reducible refine (numCl_c b6 r s5 W16.drew HRD16.out x6d).mono ?_); rintro _ wm ⟨rfl, hr1, hg⟩; rw [E6.out] at hr1 ⊢; have HRM := Lib.hid hr1; have HSM := Lib.hid (Stays.of_grown hg (fun k => k = r) rfl); have xm : wm.cell? ⟨b6, 0, none⟩ = some (.pointer (some ⟨r, 0, none⟩)) := (World.cell?_of_block (w := W16.drew) (hg.block b6 (heap_lt HA16.out.hc) (fun e => by { injection e with e; have := HA16.out.ord; omega }))).trans x6d; clear hr1 hg)
                | (go_simp; go_at_call 80; (with_reducible refine (Rtake_c r s6 (v6 : Int) wm HRM.out WF6.out).mono ?_); rintro _ wt ⟨vt, rfl, hot, hr1, hg⟩; rw [E7.out] at hot hr1; obtain ⟨At, ct, rfl, _, _, hrt, hat⟩ := OwnB.form hot; have hcv := conv_text wt At ct l7.length l7 rfl hrt (fun a ha => (hat a ha).2.2); have HRT := Lib.hid hr1; have HST := Lib.hid (HSM.out.trans (Stays.of_grown hg (fun k => k = r) rfl)); have y7 := HXC.out wt HST.out; have gg7 := HXF.out wt HST.out; clear hr1 hg hot hrt hat))
              all_goals
                go_wp2_with (fail)
                go_meet
                refine Lib.hid ⟨⟨l7.toArray⟩, s7, HA16.out.title ?_ HRT.out (HTL.out.2.trans HA16.out.ga) _ ?_, HTZ.out⟩
                · have h := HST.out
                  exact ⟨h.os, h.tape, h.output, h.size, h.block⟩
                · have h := HTL.out.1
                  show l7.toArray.size ≤ 1000000
                  rw [List.size_toArray]
                  omega
          case rest =>
          obtain ⟨T, s7, hA7, hz7⟩ := hcut.out
          obtain ⟨S2, eS2⟩ : ∃ S2 : ScD, S2 = ⟨S1.cols, S1.rows, S1.cells, S1.x, S1.y, S1.hid, S1.mouse, T, S1.links⟩ := ⟨_, rfl⟩
          have HA7 : Hid (ApS w q b6 r g gs gA v1 v2 S2 n0 c0 L0 d0 s7 wc) := Lib.hid (by rw [eS2]; exact hA7)
          have HZ7 : Hid (end16 S2 (readF v1 v2 s7 S2.cells) = Z) := Lib.hid (by rw [eS2]; exact hz7)
          clear hcut hA7 hz7 eS2 HA16 HZ3
          have x6 : wc.cell? ⟨b6, 0, none⟩ = some (.pointer (some ⟨r, 0, none⟩)) := HA7.out.cell
          obtain ⟨E, cs, eE⟩ : ∃ E cs, readF v1 v2 s7 S2.cells = (E, cs) := ⟨_, _, rfl⟩
          have EE := Lib.hid eE
          have HZ8 : Hid (end16 S2 (E, cs) = Z) := Lib.hid (by rw [← eE]; exact HZ7.out)
          clear eE
          go_upto_region 20 with (first
            | (refine wpList_load_row rfl 25 (.tmp 13) rfl g rfl 25 _ (0, 0) _ HA7.out.sg Tryd.underlying25 rfl (info_sc.trans rfl) ?_)
            | (go_at_call 81; (refine (read_c r s7 S2 gs n0 c0 L0 0 d0 v1 v2 w.heap.size wc HA7.out.rd HA7.out.own (by { have := HA7.out.ord; omega }) (fun a' ha => by { have h1 := HA7.out.gaf a' (HA7.out.ga ▸ ha); have h2 := HA7.out.ord; omega }) ⟨HU.out.size, HA7.out.bel.size, by { have := HA7.out.ord; omega }⟩ HA7.out.ln HA7.out.fit HA7.out.cc HA7.out.rr (HU.out.next HA7.out.bel)).mono ?_); rintro _ w19 ⟨rfl, ho19, hs19⟩; rw [EE.out] at ho19 ⊢; have HO19 := Lib.hid ho19; have HS19 := Lib.hid hs19; clear ho19 hs19))
          have HB19 : Hid (Below w.heap.size w w19) := Lib.hid (HA7.out.bel.trans (HS19.out.below HA7.out.bel.size (fun k hk h => by have h2 := HA7.out.ord; omega)))
          have HQ19 := Lib.hid (HS19.out.scB HA7.out.hq (fun h => by have h2 := HA7.out.ord; omega))
          have HG19 := Lib.hid (HS19.out.scB HA7.out.sg (fun h => by have h2 := HA7.out.ord; have h3 := HA7.out.gne; omega))
          clear x6
          by_cases hE : E = 0
          · subst hE
            obtain ⟨S3, eS3⟩ : ∃ S3 : ScD, S3 = ⟨S2.cols, S2.rows, cs, S2.x, S2.y, S2.hid, S2.mouse, S2.title, S2.links⟩ := ⟨_, rfl⟩
            have hcs : cs.length = n0 := by
              have h := HO19.out.len
              exact h.1.symm
            have hokc : okLn cs := by
              have h := read_okLn v1 v2 s7 S2.cells HA7.out.ok
              rw [EE.out] at h
              exact h
            have HG3 : Hid (ScB w19 g S3 (some ⟨gs, 0, none⟩) n0 c0 L0 0 d0) := Lib.hid (by rw [eS3]; exact HG19.out)
            have HO3 : Hid (OwnC w19 w.heap.size (.slice (some ⟨gs, 0, none⟩) n0 c0) S3.cells) := Lib.hid (by rw [eS3]; exact HO19.out)
            have HL3 : Hid (S3.links = []) := Lib.hid (by rw [eS3]; exact HA7.out.lk)
            have HR3 : Hid (ScR w19 S3 (some ⟨gs, 0, none⟩) n0 c0 L0 0 d0) := Lib.hid (by
              obtain ⟨p1, p2, p3, _⟩ := HO19.out.parts
              have hn0 : n0 ≤ 1920 := by rw [HA7.out.ln]; exact Nat.mul_le_mul HA7.out.fit.2.1 HA7.out.fit.2.2.2
              rw [eS3]
              exact ⟨hcs, p2, p3, by omega, by show S2.links.length = 0; rw [HA7.out.lk]; rfl, by show RdT w19 L0 S2.links; rw [HA7.out.lk]; exact .inl rfl, Nat.zero_le _, Nat.zero_le _, (fun u hu => by have hu : u ∈ S2.links := hu; rw [HA7.out.lk] at hu; cases hu), hokc, HA7.out.tl⟩)
            obtain ⟨b3, e3⟩ : ∃ b, fit16 S3 = b := ⟨_, rfl⟩
            have HF3 := Lib.hid e3
            have HZ9 : Hid ((if b3 then (S3, 0) else (scZ, 3)) = Z) := Lib.hid (by rw [← HZ8.out, ← e3, eS3]; rfl)
            have HU19 := Lib.hid (HU.out.next HB19.out)
            clear e3 eS3 hcs hokc
            cases b3
            · have HZ : Hid ((scZ, 3) = Z) := Lib.hid HZ9.out
              go_wp2_with (first
                | (refine wpList_load_row rfl 25 (.tmp 13) rfl g rfl 25 _ (0, 0) _ HG3.out Tryd.underlying25 rfl (info_sc.trans rfl) ?_)
                | (go_at_call 25; (refine (fits16_c S3 (some ⟨gs, 0, none⟩) n0 c0 L0 0 d0 w19 HR3.out HU19.out).mono ?_); rintro _ w22 ⟨rfl, hb22⟩; rw [HF3.out]; have HB22 := Lib.hid (HB19.out.trans (hb22.mono HB19.out.size)); have HQ22 := Lib.hid (HQ19.out.below hb22); clear hb22)
                | ((refine wpList_store_row rfl 25 (.tmp 4) (.tmp 106) rfl q (scC scZ none 0 0 none 0 0) rfl rfl 25 _ HQ22.out (info_sc.trans rfl) rfl (sc_one _ _ _ _ _ _ _) ?_); (repeat go_step); (refine bodyPost_ret (v := .tuple #[.agg (scC scZ none 0 0 none 0 0), .int .i64 3]) (results_row_tmp (p := 4) (u := 5) (ty := 25) rfl _ _ q 25 _ (0, 0) _ _ rfl rfl (setRow_heap w22 q _ _ _ _ HQ22.out) Tryd.underlying25 rfl (info_sc.trans rfl)) rfl ?_); (exact PostA.none_ HZ.out rfl (below_setRow HB22.out HWQ.out.1 _))))
            · have HZ : Hid ((S3, 0) = Z) := Lib.hid HZ9.out
              go_wp2_with (first
                | (refine wpList_load_row rfl 25 (.tmp 13) rfl g rfl 25 _ (0, 0) _ HG3.out Tryd.underlying25 rfl (info_sc.trans rfl) ?_)
                | (go_at_call 25; (refine (fits16_c S3 (some ⟨gs, 0, none⟩) n0 c0 L0 0 d0 w19 HR3.out HU19.out).mono ?_); rintro _ w22 ⟨rfl, hb22⟩; rw [HF3.out]; have HB22 := Lib.hid (HB19.out.trans (hb22.mono HB19.out.size)); have HQ22 := Lib.hid (HQ19.out.below hb22); have HG22 := Lib.hid (HG3.out.below hb22); have HO22 := Lib.hid (OwnC.below HO3.out hb22); clear hb22)
                | (refine wpList_load_row rfl 25 (.tmp 13) rfl g rfl 25 _ (0, 0) _ HG22.out Tryd.underlying25 rfl (info_sc.trans rfl) ?_)
                | ((refine wpList_store_row rfl 25 (.tmp 4) (.tmp 107) rfl q (scC S3 (some ⟨gs, 0, none⟩) n0 c0 L0 0 d0) rfl rfl 25 _ HQ22.out (info_sc.trans rfl) rfl (sc_one _ _ _ _ _ _ _) ?_); (repeat go_step); (refine bodyPost_ret (v := .tuple #[.agg (scC S3 (some ⟨gs, 0, none⟩) n0 c0 L0 0 d0), .int .i64 0]) (results_row_tmp (p := 4) (u := 5) (ty := 25) rfl _ _ q 25 _ (0, 0) _ _ rfl rfl (setRow_heap w22 q _ _ _ _ HQ22.out) Tryd.underlying25 rfl (info_sc.trans rfl)) rfl ?_); (refine PostA.some_ HZ.out (OwnC.keep HO22.out (fun j ej => ?_)) HL3.out (below_setRow HB22.out HWQ.out.1 _)); (injection ej with ej); (exact setRow_other _ _ _ _ (by have h1 : gs = j := ej; have h2 := HA7.out.ord; omega))))
          · have HZ : Hid ((scZ, E) = Z) := Lib.hid (by rw [← HZ8.out, end16, if_neg hE])
            have z0 : ((E : Int) != 0) = true := by rw [bne_iff_ne]; omega
            clear hE
            go_wp2_with (first
              | ((refine wpList_store_row rfl 25 (.tmp 4) (.tmp 101) rfl q (scC scZ none 0 0 none 0 0) rfl rfl 25 _ HQ19.out (info_sc.trans rfl) rfl (sc_one _ _ _ _ _ _ _) ?_); (repeat go_step); (refine bodyPost_ret (v := .tuple #[.agg (scC scZ none 0 0 none 0 0), .int .i64 (E : Int)]) (results_row_tmp (p := 4) (u := 5) (ty := 25) rfl _ _ q 25 _ (0, 0) _ _ rfl rfl (setRow_heap w19 q _ _ _ _ HQ19.out) Tryd.underlying25 rfl (info_sc.trans rfl)) rfl ?_); (exact PostA.none_ HZ.out rfl (below_setRow HB19.out HWQ.out.1 _))))
end Go.Proofs.YtipofokinjkclaaDoor

