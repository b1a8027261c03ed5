/- Parts one behind the other: What the reference's runs (17) answers: thing17 5. Conditions: as told at each. -/
import Derived.Test.YtndjggabdajbfaaGreatDoorPG28
import Derived.Test.YtndjggabdajbfaaGreatDoorPG27
import Derived.Test.YtndjggabdajbfaaGreatDoorPG15
import Derived.Deep.CutBlock
import Derived.Deep.CutRange

set_option linter.unusedVariables false
set_option linter.unusedSimpArgs false
/- What the reference's runs (17) answers: thing17 5. Conditions: the screen's cells lie in a block of their own, the reader's bytes can be read, it has no error. -/
namespace Go.Proofs.YtndjggabdajbfaaGreatDoor
open Go Go.RowKit Go.Lib

theorem Stays.new_ {S : Nat → Prop} {w wx wy : World} {e : Nat} (h : Stays S w wx) (k : Stays (fun k => k = e) wx wy) (he : w.heap.size ≤ e) : Stays S w wy :=
  ⟨k.os.trans h.os, k.tape.trans h.tape, k.output.trans h.output, Nat.le_trans h.size k.size, fun j hj hs => (k.block j (Nat.lt_of_lt_of_le hj h.size) (fun x => by omega)).trans (h.block j hj hs)⟩
theorem alloc4 (w : World) (a b c d : Obj) : ((((w.alloc a).alloc b).alloc c).alloc d).heap[w.heap.size]? = some a ∧ ((((w.alloc a).alloc b).alloc c).alloc d).heap[w.heap.size + 1]? = some b ∧ ((((w.alloc a).alloc b).alloc c).alloc d).heap[w.heap.size + 1 + 1]? = some c ∧ ((((w.alloc a).alloc b).alloc c).alloc d).heap[w.heap.size + 1 + 1 + 1]? = some d := by
  have e2 : ((w.alloc a).alloc b).heap.size = w.heap.size + 1 + 1 := by simp
  have e3 : (((w.alloc a).alloc b).alloc c).heap.size = w.heap.size + 1 + 1 + 1 := by simp
  refine ⟨?_, ?_, ?_, ?_⟩
  · exact (Below.heap_alloc _ _ _ (by simp only [World.size_alloc]; omega)).trans ((Below.heap_alloc _ _ _ (by simp only [World.size_alloc]; omega)).trans ((Below.heap_alloc _ _ _ (by simp only [World.size_alloc]; omega)).trans (heap_alloc_new _ _)))
  · exact (Below.heap_alloc _ _ _ (by simp only [World.size_alloc]; omega)).trans ((Below.heap_alloc _ _ _ (by simp only [World.size_alloc]; omega)).trans (heap_alloc2_new _ _ _))
  · rw [← e2]; exact (Below.heap_alloc _ _ _ (by simp only [World.size_alloc]; omega)).trans (heap_alloc_new _ _)
  · rw [← e3]; exact heap_alloc_new _ _
/-- The state: the boxes p (the screen), r (the reader), q, v (the results), the cells' block gs. -/
structure RqS (B p r q v gs : Nat) (D : Option Addr) (dc : Nat) (b0 : List UInt8) (s : ScD) (n c : Nat) (L : Option Addr) (d : Nat) (st : RS) (cs : List CeD) (w wx : World) : Prop where
  hp : ScB wx p s (some ⟨gs, 0, none⟩) n c L 0 d
  hr : RdB wx r D dc st
  hq : ScB wx q scZ none 0 0 none 0 0
  hv : RdB wx v none 0 rsZ
  ok : RsOk wx D dc st
  own : OwnC wx B (.slice (some ⟨gs, 0, none⟩) n c) cs
  stay : Stays (fun k => k = gs) w wx
  ap : p ≠ r ∧ q ≠ p ∧ q ≠ r ∧ v ≠ p ∧ v ≠ r ∧ v ≠ q
  lo : w.heap.size ≤ p ∧ w.heap.size ≤ r ∧ w.heap.size ≤ q ∧ w.heap.size ≤ v ∧ gs < w.heap.size
  fa : ∀ a, D = some a → a.block ≠ gs ∧ a.block < w.heap.size
  nl : n ≤ 1920
  lk : okLn cs
  bb : st.b = b0
section
variable {B p r q v gs : Nat} {D : Option Addr} {dc : Nat} {b0 : List UInt8} {s : ScD} {n c : Nat} {L : Option Addr} {d : Nat} {st st' : RS} {cs : List CeD} {w wx wy : World}
theorem RqS.below (h : RqS B p r q v gs D dc b0 s n c L d st cs w wx) (hb : Below wx.heap.size wx wy) : RqS B p r q v gs D dc b0 s n c L d st cs w wy :=
  ⟨h.hp.below hb, h.hr.below hb, h.hq.below hb, h.hv.below hb, h.ok.below hb, OwnC.below h.own hb, h.stay.trans (Stays.of_below hb _), h.ap, h.lo, h.fa, h.nl, h.lk, h.bb⟩
theorem RqS.far (h : RqS B p r q v gs D dc b0 s n c L d st cs w wx) {e : Nat} (k : Stays (fun k => k = e) wx wy) (he : w.heap.size ≤ e ∧ e ≠ p ∧ e ≠ r ∧ e ≠ q ∧ e ≠ v) : RqS B p r q v gs D dc b0 s n c L d st cs w wy := by
  obtain ⟨h1, h2, h3, h4, h5⟩ := he
  have hl := h.lo
  refine ⟨k.scB h.hp (fun x => h2 x.symm), h.hr.stay k (fun x => h3 x.symm), k.scB h.hq (fun x => h4 x.symm), h.hv.stay k (fun x => h5 x.symm), ?_, k.keepC h.own (fun j ej x => ?_), h.stay.new_ k h1, h.ap, h.lo, h.fa, h.nl, h.lk, h.bb⟩
  · obtain ⟨q1, q2⟩ := h.ok
    exact ⟨k.rd q1 (fun a ha x => by have := (h.fa a ha).2; omega), q2⟩
  · injection ej with ej
    have ej2 : gs = j := ej
    omega
/-- The reader's new state. -/
theorem RqS.setR (h : RqS B p r q v gs D dc b0 s n c L d st cs w wx) (ho : RsOk wx D dc st') (hb : st'.b = st.b) : RqS B p r q v gs D dc b0 s n c L d st' cs w (wx.setRow r (rsC D dc st')) := by
  have k : Stays (fun k => k = r) wx (wx.setRow r (rsC D dc st')) := Stays.setRow _ _ _ _ rfl
  have hl := h.lo
  obtain ⟨a1, a2, a3, a4, a5, a6⟩ := h.ap
  refine ⟨k.scB h.hp a1, setRow_heap wx r _ _ _ _ h.hr, k.scB h.hq a3, h.hv.stay k a5, ?_, k.keepC h.own (fun j ej x => ?_), h.stay.new_ k hl.2.1, h.ap, h.lo, h.fa, h.nl, h.lk, hb.trans h.bb⟩
  · obtain ⟨q1, q2⟩ := ho
    exact ⟨k.rd q1 (fun a ha x => by have := (h.fa a ha).2; omega), q2⟩
  · injection ej with ej
    have ej2 : gs = j := ej
    omega
theorem RqS.len (h : RqS B p r q v gs D dc b0 s n c L d st cs w wx) : cs.length = n := h.own.len.1.symm
/-- A cell put at place i. -/
theorem RqS.put (h : RqS B p r q v gs D dc b0 s n c L d st cs w wx) (i : Nat) (hi : i < cs.length) (E : CeD) (hE : E.ln = 0) :
    RqS B p r q v gs D dc b0 s n c L d st (cs.set i E) w ((((((wx.setCell ⟨gs, i * 6, none⟩ (.int .i32 E.r)).setCell ⟨gs, i * 6 + 1, none⟩ (.int .u8 E.w)).setCell ⟨gs, i * 6 + 2, none⟩ (.int .u32 E.fg)).setCell ⟨gs, i * 6 + 3, none⟩ (.int .u32 E.bg)).setCell ⟨gs, i * 6 + 4, none⟩ (.int .u8 E.at_)).setCell ⟨gs, i * 6 + 5, none⟩ (.int .u16 E.ln)) := by
  have k := six_stays (fun k => k = gs) wx gs (i * 6) (i * 6 + 1) (i * 6 + 2) (i * 6 + 3) (i * 6 + 4) (i * 6 + 5) (.int .i32 E.r) (.int .u8 E.w) (.int .u32 E.fg) (.int .u32 E.bg) (.int .u8 E.at_) (.int .u16 E.ln) rfl
  have hl := h.lo
  refine ⟨k.scB h.hp (fun x => by omega), h.hr.stay k (fun x => by omega), k.scB h.hq (fun x => by omega), h.hv.stay k (fun x => by omega), ?_, h.own.setAll i hi E, h.stay.trans k, h.ap, h.lo, h.fa, h.nl, okLn_set h.lk i E hE, h.bb⟩
  obtain ⟨q1, q2⟩ := h.ok
  exact ⟨k.rd q1 (fun a ha x => (h.fa a ha).1 x), q2⟩
/-- The results stored. -/
theorem RqS.finz {C E : Array Value} (h : RqS B p r q v gs D dc b0 s n c L d st cs w wx) (g : Gz q v C E wx.drew wy) : Stays (fun k => k = gs) w wy ∧ OwnC wy B (.slice (some ⟨gs, 0, none⟩) n c) cs ∧ RsOk wy D dc st := by
  have k := g.st
  have hl := h.lo
  have hd : Stays (fun k => k = gs) w wx.drew := h.stay.drewN 1
  have hj : ∀ (j : Nat), (Value.slice (some ⟨gs, 0, none⟩) n c).ownBlock = some j → gs = j := fun j ej => by injection ej with ej
  refine ⟨⟨k.os.trans hd.os, k.tape.trans hd.tape, k.output.trans hd.output, Nat.le_trans hd.size k.size, fun j hj2 hs => (k.block j (Nat.lt_of_lt_of_le hj2 hd.size) (fun x => by rcases x with x | x <;> omega)).trans (hd.block j hj2 hs)⟩, k.keepC (h.own.drewN 1) (fun j ej x => by have := hj j ej; rcases x with x | x <;> omega), ?_⟩
  obtain ⟨q1, q2⟩ := h.ok
  exact ⟨k.rd q1 (fun a ha x => by have := (h.fa a ha).2; rcases x with x | x <;> omega), q2⟩
end
/-- What runs ends with. -/
def RunP (B gs : Nat) (D : Option Addr) (dc : Nat) (b0 : List UInt8) (s : ScD) (n c : Nat) (L : Option Addr) (d : Nat) (T : Nat × ScD × List UInt8) (w : World) (e : Ending) (w' : World) : Prop :=
  ∃ st', e = .returned (.tuple #[.agg (scC s (some ⟨gs, 0, none⟩) n c L 0 d), .agg (rsC D dc st'), .int .i64 (T.1 : Int)]) ∧ (T.1 = 0 → st'.b = b0 ∧ st'.err = 0 ∧ st'.rest = T.2.2 ∧ RsOk w' D dc st' ∧ OwnC w' B (.slice (some ⟨gs, 0, none⟩) n c) T.2.1.cells ∧ okLn T.2.1.cells) ∧ Stays (fun k => k = gs) w w'
section
variable {B gs : Nat} {D : Option Addr} {dc : Nat} {b0 : List UInt8} {s : ScD} {n c : Nat} {L : Option Addr} {d : Nat} {T : Nat × ScD × List UInt8} {w w' : World} {s1 : RS} {cs : List CeD}
theorem RunP.no {x : Int} {E : Nat} (h : T.1 = E) (h0 : E ≠ 0) (hx : x = (E : Int)) (hs : Stays (fun k => k = gs) w w') :
    RunP B gs D dc b0 s n c L d T w (.returned (.tuple #[.agg (scC s (some ⟨gs, 0, none⟩) n c L 0 d), .agg (rsC D dc s1), .int .i64 x])) w' := by
  subst hx
  exact ⟨s1, by rw [h], fun h2 => absurd (h.symm.trans h2) h0, hs⟩
theorem RunP.yes (hb : s1.b = b0) (h : T.1 = 0) (hc : T.2.1.cells = cs) (hr : s1.rest = T.2.2) (h0 : s1.err = 0) (hk : okLn cs) (F : Stays (fun k => k = gs) w w' ∧ OwnC w' B (.slice (some ⟨gs, 0, none⟩) n c) cs ∧ RsOk w' D dc s1) :
    RunP B gs D dc b0 s n c L d T w (.returned (.tuple #[.agg (scC s (some ⟨gs, 0, none⟩) n c L 0 d), .agg (rsC D dc s1), .int .i64 0])) w' :=
  ⟨s1, by rw [h]; rfl, fun _ => ⟨hb, h0, hr, F.2.2, by rw [hc]; exact F.2.1, by rw [hc]; exact hk⟩, F.1⟩
end
theorem info_n5 : (Tryz.prog.info? 88).map (·.size) = some 5 := by kernel_rfl
theorem thing5R (s : ScD) (l : List UInt8) : thing17 5 s l = (match varGo l 0 with | .bad e => (e, s, l) | .ok n kn => if n = 0 then (3, s, l) else ((runsP n 0 (l.drop kn) s.cells).1, ⟨s.cols, s.rows, (runsP n 0 (l.drop kn) s.cells).2.2, s.x, s.y, s.hid, s.mouse, s.title, s.links⟩, (runsP n 0 (l.drop kn) s.cells).2.1)) := rfl
def n5v (n : Nat) : Value := .int .i64 (n : Int)
/-- Five numbers in a block. -/
def FivB (w : World) (g : Nat) (vs : List Nat) : Prop := vs.length = 5 ∧ w.heap[g]? = some (.cells (vs.map n5v).toArray 88 (0, 0))
section
variable {w w' : World} {g : Nat} {vs : List Nat}
theorem FivB.below (h : FivB w g vs) (hb : Below w.heap.size w w') : FivB w' g vs := ⟨h.1, (hb.block g (heap_lt h.2)).trans h.2⟩
theorem FivB.stay {S : Nat → Prop} (h : FivB w g vs) (k : Stays S w w') (hg : ¬ S g) : FivB w' g vs := ⟨h.1, (k.block g (heap_lt h.2) hg).trans h.2⟩
theorem FivB.at_ (h : FivB w g vs) (i : Nat) (hi : i < 5) : w.cell? ⟨g, i, none⟩ = some (.int .i64 ((vs.getD i 0 : Nat) : Int)) := by
  rw [heap_cell h.2]
  have h1 := h.1
  simp [n5v, List.getD, show i < vs.length by omega]
theorem FivB.put (h : FivB w g vs) (i x : Nat) : FivB (w.setCell ⟨g, i, none⟩ (.int .i64 (x : Int))) g (vs.set i x) := by
  refine ⟨by rw [List.length_set]; exact h.1, (heap_set h.2 i _).trans ?_⟩
  congr 2
  rw [List.map_set]
  simp [n5v]
end
set_option maxRecDepth 100000 in
set_option maxHeartbeats 16000000 in
theorem refRuns17_c (B gs : Nat) (D : Option Addr) (dc : Nat) (s : ScD) (n c : Nat) (L : Option Addr) (d : Nat) (st : RS) (w : World) (h : RsOk w D dc st) (h0 : st.err = 0) (ho : OwnC w B (.slice (some ⟨gs, 0, none⟩) n c) s.cells) (hD : ∀ a, D = some a → a.block ≠ gs ∧ a.block < w.heap.size) (hn : n ≤ 1920) (hk : okLn s.cells) :
    Calls Tryz.prog 26 #[.agg (scC s (some ⟨gs, 0, none⟩) n c L 0 d), .agg (rsC D dc st)] w fun e w' => RunP B gs D dc st.b s n c L d (thing17 5 s st.rest) w e w' := by
  obtain ⟨b0, eb0⟩ : ∃ b, b = st.b := ⟨_, rfl⟩
  rw [← eb0]
  obtain ⟨T, eT⟩ : ∃ T, thing17 5 s st.rest = T := ⟨_, rfl⟩
  rw [eT]
  rw [thing5R] at eT
  have HE0 := Lib.hid h0
  obtain ⟨X, eX⟩ : ∃ X, X = scC s (some ⟨gs, 0, none⟩) n c L 0 d := ⟨_, rfl⟩
  obtain ⟨Y, eY⟩ : ∃ Y, Y = rsC D dc st := ⟨_, rfl⟩
  rw [← eY]
  have eg : Value.agg (scC s (some ⟨gs, 0, none⟩) n c L 0 d) = .agg X := by rw [eX]
  rw [eg]
  obtain ⟨W0, eW0⟩ : ∃ W0, W0 = (((w.alloc (.cells X 25)).alloc (.cells Y 61)).alloc (.cells (scC scZ none 0 0 none 0 0) 25)).alloc (.cells (rsC none 0 rsZ) 61) := ⟨_, rfl⟩
  obtain ⟨p, ep⟩ : ∃ g, g = w.heap.size := ⟨_, rfl⟩
  obtain ⟨r, er⟩ : ∃ g, g = w.heap.size + 1 := ⟨_, rfl⟩
  obtain ⟨q, eq⟩ : ∃ g, g = w.heap.size + 1 + 1 := ⟨_, rfl⟩
  obtain ⟨v, ev⟩ : ∃ g, g = w.heap.size + 1 + 1 + 1 := ⟨_, rfl⟩
  have e2 : ((w.alloc (.cells X 25)).alloc (.cells Y 61)).heap.size = w.heap.size + 1 + 1 := by simp
  have e3 : (((w.alloc (.cells X 25)).alloc (.cells Y 61)).alloc (.cells (scC scZ none 0 0 none 0 0) 25)).heap.size = w.heap.size + 1 + 1 + 1 := by simp
  have hb0 : Below w.heap.size w W0 := by rw [eW0]; exact ((((Below.refl _ _).alloc (Nat.le_refl _) _).alloc (by simp) _).alloc (by rw [e2]; omega) _).alloc (by rw [e3]; omega) _
  have H0 : Hid (RqS B p r q v gs D dc b0 s n c L d st s.cells w W0) := Lib.hid (by
    obtain ⟨k1, k2, k3, k4⟩ := alloc4 w (.cells X 25) (.cells Y 61) (.cells (scC scZ none 0 0 none 0 0) 25) (.cells (rsC none 0 rsZ) 61)
    rw [← eW0] at k1 k2 k3 k4
    rw [← ep, eX] at k1
    rw [← er, eY] at k2
    rw [← eq] at k3
    rw [← ev] at k4
    exact ⟨k1, k2, k3, k4, h.below hb0, OwnC.below ho hb0, Stays.of_below hb0 _, by omega, ⟨by omega, by omega, by omega, by omega, (ho.lt gs rfl).2⟩, hD, hn, hk, eb0.symm⟩)
  have eW0' : (((w.alloc (.cells X 25)).alloc (.cells Y 61)).alloc (.cells #[.int .i64 0, .int .i64 0, .slice none 0 0, .int .i64 0, .int .i64 0, .bool false, .int .u8 0, .string { data := #[] }, .slice none 0 0] 25)).alloc (.cells #[.slice none 0 0, .int .i64 0, .int .i64 0] 61) = W0 := by rw [eW0]; rfl
  have EW0 := Lib.hid eW0'
  have EP := Lib.hid ep
  have ER := Lib.hid er
  have EQ := Lib.hid eq
  have EV := Lib.hid ev
  obtain ⟨v1, s1, eV1⟩ : ∃ n t, varR st = (n, t) := ⟨_, _, rfl⟩
  have EV1 := Lib.hid eV1
  have ET := Lib.hid eT
  clear eX eY eg eb0 eW0 eW0' ep er eq ev e2 e3 hb0 h h0 ho hD hk eT
  go_enter Tryz.func26, Tryz.ntmps26
  go_upto_region 1 with (fail)
  rw [EW0.out, ← EV.out, ← EQ.out, ← ER.out, ← EP.out]
  go_upto_region 2 with (first
    | (refine wpList_load_row rfl 61 (.tmp 3) rfl r rfl 61 _ (0, 0) _ H0.out.hr Tryz.underlying61 rfl (info_rdr.trans rfl) ?_)
    | (go_at_call 42; (refine (rvar_c D dc st W0 H0.out.ok).mono ?_); rintro _ w1 ⟨rfl, hb1⟩; rw [EV1.out]; have H1 := Lib.hid (H0.out.below hb1); clear hb1)
    | (refine wpList_store_row rfl 61 (.tmp 3) (.tmp 26) rfl r (rsC D dc s1) rfl rfl 61 _ H1.out.hr (info_rdr.trans rfl) rfl (rs_one _ _ _) ?_))
  have H2 : Hid (RqS B p r q v gs D dc b0 s n c L d s1 s.cells w (w1.setRow r (rsC D dc s1))) := Lib.hid (H1.out.setR (by have h := H1.out.ok.var; rw [EV1.out] at h; exact h) (by have h := varR_b st; rw [EV1.out] at h; exact h))
  obtain ⟨W2, eW2⟩ : ∃ W, W = w1.setRow r (rsC D dc s1) := ⟨_, rfl⟩
  rw [← eW2] at H2 ⊢
  clear eW2
  have x2 := H2.out.hr.three.2.2
  cases hv : varGo st.rest 0 with
  | bad e =>
    have h1 := varR_bad HE0.out hv
    rw [eV1] at h1
    injection h1 with h1 h2
    have HE : Hid (e ≠ 0) := Lib.hid (by have := varGo_err hv; omega)
    have HT : Hid (T.1 = s1.err) := Lib.hid (by rw [← ET.out, hv, h2])
    have HEN : Hid (s1.err ≠ 0) := Lib.hid (by rw [h2]; exact HE.out)
    have z0 : (((s1.err : Nat) : Int) != 0) = true := by rw [bne_iff_ne]; have := HEN.out; omega
    clear hv h1 h2 eV1
    go_upto_region 3 with (fail)
    refine wp_region_rz (q) (v) (scC s (some ⟨gs, 0, none⟩) n c L 0 d) (rsC D dc s1) 150 [Rz.eq (.agg (scC s (some ⟨gs, 0, none⟩) n c L 0 d)), Rz.eq (.agg (rsC D dc s1)), Rz.eq (.pointer (some ⟨r, 2, none⟩)), Rz.eq (.int .i64 (s1.err : Int)), Rz.doneQ 25, Rz.doneV 61, Rz.eq (.int .i64 (s1.err : Int))] [30, 31, 32, 33, 6] (by kernel_rfl) rfl (by kernel_rfl) (by kernel_rfl) ?_ ?_
    · repeat (first | exact AllFrom.nil_ | (refine AllFrom.cons_ (by rfl) ?_ ?_; rotate_left))
      · intro f_ w' g_ hF hD
        have h2 : f_ 2 = .pointer (some ⟨p, 0, none⟩) := hF 2 (by kernel_rfl)
        rw [if_pos (wanted_none rfl)]
        clear hF hD
        exact gives_load_row 25 (.tmp 2) rfl p (by simp only [evF, h2]) 25 (scC s (some ⟨gs, 0, none⟩) n c L 0 d) (0, 0) _ (g_.far H2.out.hp ⟨fun x => H2.out.ap.2.1 x.symm, fun x => H2.out.ap.2.2.2.1 x.symm⟩) Tryz.underlying25 rfl (info_sc.trans rfl) ⟨Gz.refl _, rfl⟩
      · intro f_ w' g_ hF hD
        have h3 : f_ 3 = .pointer (some ⟨r, 0, none⟩) := hF 3 (by kernel_rfl)
        rw [if_pos (wanted_none rfl)]
        clear hF hD
        exact gives_load_row 61 (.tmp 3) rfl r (by simp only [evF, h3]) 61 (rsC D dc s1) (0, 0) _ (g_.far H2.out.hr ⟨fun x => H2.out.ap.2.2.1 x.symm, fun x => H2.out.ap.2.2.2.2.1 x.symm⟩) Tryz.underlying61 rfl (info_rdr.trans rfl) ⟨Gz.refl _, rfl⟩
      · intro f_ w' g_ hF hD
        have h3 : f_ 3 = .pointer (some ⟨r, 0, none⟩) := hF 3 (by kernel_rfl)
        rw [if_pos (wanted_none rfl)]
        clear hF hD
        exact gives_val (by simp only [execOp, evF, h3]; first | rfl | go_simp) ⟨Gz.refl _, rfl⟩
      · intro f_ w' g_ hF hD
        have h32 : f_ 32 = (.pointer (some ⟨r, 2, none⟩)) := hD 2 32 (by kernel_rfl) rfl
        rw [if_pos (wanted_none rfl)]
        clear hF hD
        have cl : w'.cell? ⟨r, 2, none⟩ = some (.int .i64 (s1.err : Int)) := (show RdB w' r D dc s1 from g_.far H2.out.hr ⟨fun x => H2.out.ap.2.2.1 x.symm, fun x => H2.out.ap.2.2.2.2.1 x.symm⟩).three.2.2
        exact gives_val (by simp only [execOp, evF, h32]; go_simp) ⟨Gz.refl _, rfl⟩
      · intro f_ w' g_ hF hD
        have h4 : f_ 4 = .pointer (some ⟨q, 0, none⟩) := hF 4 (by kernel_rfl)
        have h30 : f_ 30 = (.agg (scC s (some ⟨gs, 0, none⟩) n c L 0 d)) := hD 0 30 (by kernel_rfl) rfl
        rw [if_pos (wanted_none rfl)]
        clear hF hD
        obtain ⟨c0, e0, z0, -⟩ := g_.kq _ _ H2.out.hq
        exact gives_store_rowQ 25 (.tmp 4) (.tmp 30) rfl q (scC s (some ⟨gs, 0, none⟩) n c L 0 d) (by simp only [evF, h4, h30]) (by simp only [evF, h4, h30]) 25 c0 e0 (info_sc.trans rfl) (z0.trans rfl) (sc_one _ _ _ _ _ _ _) ⟨Gz.setQ e0 (z0.trans rfl) H2.out.ap.2.2.2.2.2, setRow_heap _ _ _ _ _ _ e0⟩
      · intro f_ w' g_ hF hD
        have h5 : f_ 5 = .pointer (some ⟨v, 0, none⟩) := hF 5 (by kernel_rfl)
        have h31 : f_ 31 = (.agg (rsC D dc s1)) := hD 1 31 (by kernel_rfl) rfl
        rw [if_pos (wanted_none rfl)]
        clear hF hD
        obtain ⟨c0, e0, z0, -⟩ := g_.kv _ _ H2.out.hv
        exact gives_store_rowQ 61 (.tmp 5) (.tmp 31) rfl v (rsC D dc s1) (by simp only [evF, h5, h31]) (by simp only [evF, h5, h31]) 61 c0 e0 (info_rdr.trans rfl) (z0.trans rfl) (rs_one _ _ _) ⟨Gz.setV e0 (z0.trans rfl) H2.out.ap.2.2.2.2.2, setRow_heap _ _ _ _ _ _ e0⟩
      · intro f_ w' g_ hF hD
        have h33 : f_ 33 = (.int .i64 (s1.err : Int)) := hD 3 33 (by kernel_rfl) rfl
        rw [if_pos (wanted_none rfl)]
        clear hF hD
        exact gives_val (by simp only [execOp, evF, h33]; first | rfl | go_simp) ⟨Gz.refl _, rfl⟩
    intro f_ w4 gz hD hZ0
    have h6 : f_ 6 = .int .i64 (s1.err : Int) := hD 6 6 rfl
    have hq9 : w4.heap[q]? = some (.cells (scC s (some ⟨gs, 0, none⟩) n c L 0 d) 25 (0, 0)) := (hZ0 4 (by decide) rfl).elim (fun _ x => x)
    have hv9 : w4.heap[v]? = some (.cells (rsC D dc s1) 61 (0, 0)) := (hZ0 5 (by decide) rfl).elim (fun _ x => x)
    simp only [putAll, List.setIfInBounds_toArray, List.set_cons_zero, List.set_cons_succ, h6]
    generalize f_ 30 = d30
    generalize f_ 31 = d31
    generalize f_ 32 = d32
    generalize f_ 33 = d33
    clear hD hZ0 h6
    go_wp2_with (fail)
    try simp only [Exit.inBlock, Exit.then]
    refine bodyPost_ret (v := .tuple #[.agg (scC s (some ⟨gs, 0, none⟩) n c L 0 d), .agg (rsC D dc s1), .int .i64 (s1.err : Int)]) (results_cct (p := 4) (q := 5) (u := 6) (ty := 25) (tz := 61) rfl _ _ q v 25 61 _ _ (0, 0) (0, 0) _ _ _ rfl rfl rfl hq9 hv9 Tryz.underlying25 rfl (info_sc.trans rfl) Tryz.underlying61 rfl (info_rdr.trans rfl)) rfl ?_
    exact RunP.no HT.out HEN.out rfl (H2.out.finz gz).1
  | ok N kN =>
    have h1 := varR_ok HE0.out hv
    rw [eV1] at h1
    injection h1 with h1 h2
    have HC1 : Hid (v1 = N) := Lib.hid h1
    have hu : U64 N := (varGo_u64 hv).1
    have HI1 : Hid (s1.err = 0 ∧ s1.rest = st.rest.drop kN) := Lib.hid (by rw [h2]; exact ⟨HE0.out, rest_at st kN⟩)
    have ET1 : Hid ((if N = 0 then (3, s, st.rest) else ((runsP N 0 s1.rest s.cells).1, ⟨s.cols, s.rows, (runsP N 0 s1.rest s.cells).2.2, s.x, s.y, s.hid, s.mouse, s.title, s.links⟩, (runsP N 0 s1.rest s.cells).2.1)) = T) := Lib.hid (by rw [← ET.out, hv, HI1.out.2])
    have z0 : (((s1.err : Nat) : Int) != 0) = false := by rw [HI1.out.1]; rfl
    have HUN := Lib.hid hu
    clear hv h1 h2 eV1 hu
    obtain rfl := HC1.out
    by_cases h00 : v1 = 0
    · have HT : Hid (T.1 = 3) := Lib.hid (by rw [← ET1.out, if_pos h00])
      have z1 : ((v1 : Int) == 0) = true := by rw [beq_iff_eq]; omega
      have z2 : (v1 == 0) = true := by rw [beq_iff_eq]; exact h00
      clear h00
      go_upto_region 5 with (fail)
      refine wp_region_rz (q) (v) (scC s (some ⟨gs, 0, none⟩) n c L 0 d) (rsC D dc s1) 150 [Rz.eq (.agg (scC s (some ⟨gs, 0, none⟩) n c L 0 d)), Rz.eq (.agg (rsC D dc s1)), Rz.doneQ 25, Rz.doneV 61, Rz.eq (.int .i64 3)] [36, 37, 6] (by kernel_rfl) rfl (by kernel_rfl) (by kernel_rfl) ?_ ?_
      · repeat (first | exact AllFrom.nil_ | (refine AllFrom.cons_ (by rfl) ?_ ?_; rotate_left))
        · intro f_ w' g_ hF hD
          have h2 : f_ 2 = .pointer (some ⟨p, 0, none⟩) := hF 2 (by kernel_rfl)
          rw [if_pos (wanted_none rfl)]
          clear hF hD
          exact gives_load_row 25 (.tmp 2) rfl p (by simp only [evF, h2]) 25 (scC s (some ⟨gs, 0, none⟩) n c L 0 d) (0, 0) _ (g_.far H2.out.hp ⟨fun x => H2.out.ap.2.1 x.symm, fun x => H2.out.ap.2.2.2.1 x.symm⟩) Tryz.underlying25 rfl (info_sc.trans rfl) ⟨Gz.refl _, rfl⟩
        · intro f_ w' g_ hF hD
          have h3 : f_ 3 = .pointer (some ⟨r, 0, none⟩) := hF 3 (by kernel_rfl)
          rw [if_pos (wanted_none rfl)]
          clear hF hD
          exact gives_load_row 61 (.tmp 3) rfl r (by simp only [evF, h3]) 61 (rsC D dc s1) (0, 0) _ (g_.far H2.out.hr ⟨fun x => H2.out.ap.2.2.1 x.symm, fun x => H2.out.ap.2.2.2.2.1 x.symm⟩) Tryz.underlying61 rfl (info_rdr.trans rfl) ⟨Gz.refl _, rfl⟩
        · intro f_ w' g_ hF hD
          have h4 : f_ 4 = .pointer (some ⟨q, 0, none⟩) := hF 4 (by kernel_rfl)
          have h36 : f_ 36 = (.agg (scC s (some ⟨gs, 0, none⟩) n c L 0 d)) := hD 0 36 (by kernel_rfl) rfl
          rw [if_pos (wanted_none rfl)]
          clear hF hD
          obtain ⟨c0, e0, z0, -⟩ := g_.kq _ _ H2.out.hq
          exact gives_store_rowQ 25 (.tmp 4) (.tmp 36) rfl q (scC s (some ⟨gs, 0, none⟩) n c L 0 d) (by simp only [evF, h4, h36]) (by simp only [evF, h4, h36]) 25 c0 e0 (info_sc.trans rfl) (z0.trans rfl) (sc_one _ _ _ _ _ _ _) ⟨Gz.setQ e0 (z0.trans rfl) H2.out.ap.2.2.2.2.2, setRow_heap _ _ _ _ _ _ e0⟩
        · intro f_ w' g_ hF hD
          have h5 : f_ 5 = .pointer (some ⟨v, 0, none⟩) := hF 5 (by kernel_rfl)
          have h37 : f_ 37 = (.agg (rsC D dc s1)) := hD 1 37 (by kernel_rfl) rfl
          rw [if_pos (wanted_none rfl)]
          clear hF hD
          obtain ⟨c0, e0, z0, -⟩ := g_.kv _ _ H2.out.hv
          exact gives_store_rowQ 61 (.tmp 5) (.tmp 37) rfl v (rsC D dc s1) (by simp only [evF, h5, h37]) (by simp only [evF, h5, h37]) 61 c0 e0 (info_rdr.trans rfl) (z0.trans rfl) (rs_one _ _ _) ⟨Gz.setV e0 (z0.trans rfl) H2.out.ap.2.2.2.2.2, setRow_heap _ _ _ _ _ _ e0⟩
        · intro f_ w' g_ hF hD
          rw [if_pos (wanted_none rfl)]
          clear hF hD
          exact gives_val (by simp only [execOp, evF]; first | rfl | go_simp) ⟨Gz.refl _, rfl⟩
      intro f_ w4 gz hD hZ0
      have h6 : f_ 6 = .int .i64 3 := hD 4 6 rfl
      have hq9 : w4.heap[q]? = some (.cells (scC s (some ⟨gs, 0, none⟩) n c L 0 d) 25 (0, 0)) := (hZ0 2 (by decide) rfl).elim (fun _ x => x)
      have hv9 : w4.heap[v]? = some (.cells (rsC D dc s1) 61 (0, 0)) := (hZ0 3 (by decide) rfl).elim (fun _ x => x)
      simp only [putAll, List.setIfInBounds_toArray, List.set_cons_zero, List.set_cons_succ, h6]
      generalize f_ 36 = d36
      generalize f_ 37 = d37
      clear hD hZ0 h6
      go_wp2_with (fail)
      try simp only [Exit.inBlock, Exit.then]
      refine bodyPost_ret (v := .tuple #[.agg (scC s (some ⟨gs, 0, none⟩) n c L 0 d), .agg (rsC D dc s1), .int .i64 3]) (results_cct (p := 4) (q := 5) (u := 6) (ty := 25) (tz := 61) rfl _ _ q v 25 61 _ _ (0, 0) (0, 0) _ _ _ rfl rfl rfl hq9 hv9 Tryz.underlying25 rfl (info_sc.trans rfl) Tryz.underlying61 rfl (info_rdr.trans rfl)) rfl ?_
      exact RunP.no HT.out (by decide) rfl (H2.out.finz gz).1
    obtain ⟨RR, eRR⟩ : ∃ RR, runsP v1 0 s1.rest s.cells = RR := ⟨_, rfl⟩
    have HT : Hid (T.1 = RR.1 ∧ T.2.1.cells = RR.2.2 ∧ T.2.2 = RR.2.1) := Lib.hid (by rw [← ET1.out, if_neg h00, eRR]; exact ⟨rfl, rfl, rfl⟩)
    have HRR := Lib.hid eRR
    have z1 : ((v1 : Int) == 0) = false := by rw [beq_eq_false_iff_ne]; omega
    have z2 : (v1 == 0) = false := by rw [beq_eq_false_iff_ne]; exact h00
    clear eRR h00 ET1 HC1
    go_upto_region 7 with (fail)
    go_wp2_with (fail)
    go_loopw [8, 9] (fun aa kk wr => ∃ (a k : Nat) (st2 : RS) (cs : List CeD), aa = .int .i64 (a : Int) ∧ kk = .int .u64 (k : Int) ∧ a ≤ n ∧ k ≤ v1 ∧ Hid (runsP (v1 - k) a st2.rest cs = RR) ∧ Hid (st2.err = 0) ∧ Hid (RqS B p r q v gs D dc b0 s n c L d st2 cs w wr)) (fun _ kk _ => v1 - (intOf kk).toNat)
    case atStart => exact ⟨0, 0, s1, s.cells, rfl, rfl, Nat.zero_le _, Nat.zero_le _, HRR, Lib.hid HI1.out.1, H2⟩
    case round =>
      clear H2 HRR HI1 H1 H0 x2 z0 z1 z2
      obtain ⟨a, k, st2, cs, rfl, rfl, ha, hk, HR, HE2, H2⟩ := hrel
      rcases Nat.lt_or_ge k v1 with hlt | hge
      rotate_left
      · obtain rfl : k = v1 := by omega
        have HRZ : Hid ((0, st2.rest, cs) = RR) := Lib.hid (by rw [← HR.out, Nat.sub_self]; rfl)
        go_upto_region 42 with (fail)
        refine wp_region_rz (q) (v) (scC s (some ⟨gs, 0, none⟩) n c L 0 d) (rsC D dc st2) 150 [Rz.eq (.agg (scC s (some ⟨gs, 0, none⟩) n c L 0 d)), Rz.eq (.agg (rsC D dc st2)), Rz.doneQ 25, Rz.doneV 61, Rz.eq (.int .i64 0)] [148, 149, 6] (by kernel_rfl) rfl (by kernel_rfl) (by kernel_rfl) ?_ ?_
        · repeat (first | exact AllFrom.nil_ | (refine AllFrom.cons_ (by rfl) ?_ ?_; rotate_left))
          · intro f_ w' g_ hF hD
            have h2 : f_ 2 = .pointer (some ⟨p, 0, none⟩) := hF 2 (by kernel_rfl)
            rw [if_pos (wanted_none rfl)]
            clear hF hD
            exact gives_load_row 25 (.tmp 2) rfl p (by simp only [evF, h2]) 25 (scC s (some ⟨gs, 0, none⟩) n c L 0 d) (0, 0) _ (g_.far H2.out.hp ⟨fun x => H2.out.ap.2.1 x.symm, fun x => H2.out.ap.2.2.2.1 x.symm⟩) Tryz.underlying25 rfl (info_sc.trans rfl) ⟨Gz.refl _, rfl⟩
          · intro f_ w' g_ hF hD
            have h3 : f_ 3 = .pointer (some ⟨r, 0, none⟩) := hF 3 (by kernel_rfl)
            rw [if_pos (wanted_none rfl)]
            clear hF hD
            exact gives_load_row 61 (.tmp 3) rfl r (by simp only [evF, h3]) 61 (rsC D dc st2) (0, 0) _ (g_.far H2.out.hr ⟨fun x => H2.out.ap.2.2.1 x.symm, fun x => H2.out.ap.2.2.2.2.1 x.symm⟩) Tryz.underlying61 rfl (info_rdr.trans rfl) ⟨Gz.refl _, rfl⟩
          · intro f_ w' g_ hF hD
            have h4 : f_ 4 = .pointer (some ⟨q, 0, none⟩) := hF 4 (by kernel_rfl)
            have h148 : f_ 148 = (.agg (scC s (some ⟨gs, 0, none⟩) n c L 0 d)) := hD 0 148 (by kernel_rfl) rfl
            rw [if_pos (wanted_none rfl)]
            clear hF hD
            obtain ⟨c0, e0, z0, -⟩ := g_.kq _ _ H2.out.hq
            exact gives_store_rowQ 25 (.tmp 4) (.tmp 148) rfl q (scC s (some ⟨gs, 0, none⟩) n c L 0 d) (by simp only [evF, h4, h148]) (by simp only [evF, h4, h148]) 25 c0 e0 (info_sc.trans rfl) (z0.trans rfl) (sc_one _ _ _ _ _ _ _) ⟨Gz.setQ e0 (z0.trans rfl) H2.out.ap.2.2.2.2.2, setRow_heap _ _ _ _ _ _ e0⟩
          · intro f_ w' g_ hF hD
            have h5 : f_ 5 = .pointer (some ⟨v, 0, none⟩) := hF 5 (by kernel_rfl)
            have h149 : f_ 149 = (.agg (rsC D dc st2)) := hD 1 149 (by kernel_rfl) rfl
            rw [if_pos (wanted_none rfl)]
            clear hF hD
            obtain ⟨c0, e0, z0, -⟩ := g_.kv _ _ H2.out.hv
            exact gives_store_rowQ 61 (.tmp 5) (.tmp 149) rfl v (rsC D dc st2) (by simp only [evF, h5, h149]) (by simp only [evF, h5, h149]) 61 c0 e0 (info_rdr.trans rfl) (z0.trans rfl) (rs_one _ _ _) ⟨Gz.setV e0 (z0.trans rfl) H2.out.ap.2.2.2.2.2, setRow_heap _ _ _ _ _ _ e0⟩
          · intro f_ w' g_ hF hD
            rw [if_pos (wanted_none rfl)]
            clear hF hD
            exact gives_val (by simp only [execOp, evF]; first | rfl | go_simp) ⟨Gz.refl _, rfl⟩
        intro f_ w4 gz hD hZ0
        have h6 : f_ 6 = .int .i64 0 := hD 4 6 rfl
        have hq9 : w4.heap[q]? = some (.cells (scC s (some ⟨gs, 0, none⟩) n c L 0 d) 25 (0, 0)) := (hZ0 2 (by decide) rfl).elim (fun _ x => x)
        have hv9 : w4.heap[v]? = some (.cells (rsC D dc st2) 61 (0, 0)) := (hZ0 3 (by decide) rfl).elim (fun _ x => x)
        simp only [putAll, List.setIfInBounds_toArray, List.set_cons_zero, List.set_cons_succ, h6]
        generalize f_ 148 = d148
        generalize f_ 149 = d149
        clear hD hZ0 h6
        go_wp2_with (fail)
        try simp only [Exit.inBlock, Exit.then]
        refine bodyPost_ret (v := .tuple #[.agg (scC s (some ⟨gs, 0, none⟩) n c L 0 d), .agg (rsC D dc st2), .int .i64 0]) (results_cct (p := 4) (q := 5) (u := 6) (ty := 25) (tz := 61) rfl _ _ q v 25 61 _ _ (0, 0) (0, 0) _ _ _ rfl rfl rfl hq9 hv9 Tryz.underlying25 rfl (info_sc.trans rfl) Tryz.underlying61 rfl (info_rdr.trans rfl)) rfl ?_
        exact RunP.yes H2.out.bb (by rw [HT.out.1, ← HRZ.out]) (by rw [HT.out.2.1, ← HRZ.out]) (by rw [HT.out.2.2, ← HRZ.out]) HE2.out H2.out.lk (H2.out.finz gz)
      have hwk : IntKind.u64.wrap ((k : Int) + 1) = (k : Int) + 1 := IntWalk.u64_in _ ⟨by omega, by have := HUN.out; unfold U64 at this; omega⟩
      have HWK := Lib.hid hwk
      have HCL : Hid (cs.length = n) := Lib.hid H2.out.len
      obtain ⟨hf1, hf2⟩ := runs_five HCL.out ha hlt HR.out
      obtain ⟨Q, eQ⟩ : ∃ Q, fiveP n 5 0 a [0, 0, 0, 0, 0] st2.rest = Q := ⟨_, rfl⟩
      rw [eQ] at hf1 hf2
      have HF1 : Hid (Q.1 ≠ 0 → T.1 = Q.1) := Lib.hid (fun h => by rw [HT.out.1]; exact hf1 h)
      have HF2 := Lib.hid hf2
      have HQ0 := Lib.hid eQ
      have HLT := Lib.hid hlt
      clear hf1 hf2 eQ hwk
      go_upto_region 11 with (first
        | (refine wpList_store_rowTo rfl 88 (.tmp 10) (.tmp 43) rfl rfl wr.heap.size #[.int .i64 0, .int .i64 0, .int .i64 0, .int .i64 0, .int .i64 0] rfl rfl 88 _ (heap_alloc_new wr _) (info_n5.trans rfl) rfl (by simp [Value.oneCell']) ?_))
      generalize eXX : World.alloc wr _ = XX
      have hx : Below wr.heap.size wr XX := by rw [← eXX]; exact (Below.refl _ _).alloc (Nat.le_refl _) _
      obtain ⟨old, hq2⟩ : ∃ old, XX.heap[wr.heap.size]? = some (.cells old 88 (0, 0)) := ⟨_, by rw [← eXX]; exact heap_alloc_new _ _⟩
      obtain ⟨lb, elb⟩ : ∃ g, g = wr.heap.size := ⟨_, rfl⟩
      obtain ⟨W3, eW3⟩ : ∃ W, W = XX.setRow wr.heap.size #[.int .i64 0, .int .i64 0, .int .i64 0, .int .i64 0, .int .i64 0] := ⟨_, rfl⟩
      rw [← eW3, ← elb]
      have HL3 : Hid (FivB W3 lb [0, 0, 0, 0, 0]) := Lib.hid ⟨rfl, by rw [eW3, elb]; exact setRow_heap _ _ _ _ _ _ hq2⟩
      have H3 : Hid (RqS B p r q v gs D dc b0 s n c L d st2 cs w W3) := Lib.hid (H2.out.below (by rw [eW3]; exact below_setRow hx (Nat.le_refl _) _))
      have HLB : Hid (w.heap.size ≤ lb ∧ lb ≠ p ∧ lb ≠ r ∧ lb ≠ q ∧ lb ≠ v) := Lib.hid (by
        have h1 := H2.out.stay.size
        have h2 := heap_lt H2.out.hp
        have h3 := heap_lt H2.out.hr
        have h4 := heap_lt H2.out.hq
        have h5 := heap_lt H2.out.hv
        omega)
      clear eXX hx hq2 elb eW3
      go_wp2_with (fail)
      go_loopw [8, 11] (fun aa ii wr => ∃ (a2 i : Nat) (vs : List Nat) (st3 : RS), aa = .int .i64 (a2 : Int) ∧ ii = .int .i64 (i : Int) ∧ i ≤ 5 ∧ a2 ≤ n ∧ Hid (fiveP n (5 - i) i a2 vs st3.rest = Q) ∧ Hid (st3.err = 0) ∧ Hid (RqS B p r q v gs D dc b0 s n c L d st3 cs w wr) ∧ Hid (FivB wr lb vs)) (fun _ ii _ => 5 - (intOf ii).toNat)
      case atStart => exact ⟨a, 0, [0, 0, 0, 0, 0], st2, rfl, rfl, by omega, ha, HQ0, HE2, H3, HL3⟩
      case round =>
        clear H3 HL3 HQ0 HE2
        obtain ⟨a2, i, vs, st3, rfl, rfl, hi, ha2, HQI, HE3, H3, HL3⟩ := hrel
        rcases Nat.lt_or_ge i 5 with hi5 | hi5
        · have x2 : wr.cell? ⟨p, 2, none⟩ = some (.slice (some ⟨gs, 0, none⟩) n c) := H3.out.hp.nine.2.2.1
          obtain ⟨M, eM⟩ : ∃ M, M = most5 i ((n : Int) - (a2 : Int)) := ⟨_, rfl⟩
          have HMI : Hid (-1 ≤ M ∧ M ≤ 4294967295) := Lib.hid (by rw [eM]; exact most5_in ha2 hn)
          have EM := Lib.hid eM
          clear eM
          obtain ⟨bi, di⟩ : ∃ b, decide (i < 2) = b := ⟨_, rfl⟩
          have dii : decide ((i : Int) < 2) = bi := by rw [← di]; exact decide_eq_decide.2 (by omega)
          obtain ⟨bj, dj⟩ : ∃ b, (i == 4) = b := ⟨_, rfl⟩
          have dji : ((i : Int) == 4) = bj := by rw [← dj, Bool.eq_iff_iff, beq_iff_eq, beq_iff_eq]; omega
          obtain ⟨M1, eM1⟩ : ∃ M1, M1 = if bi = true then (n : Int) - (a2 : Int) else 4294967295 := ⟨_, rfl⟩
          have EMB : Hid (M = if bj = true then 255 else M1) := Lib.hid (by
            rw [EM.out, eM1, ← di, ← dj]
            unfold most5
            simp only [decide_eq_true_eq, beq_iff_eq]
            split <;> split <;> first | rfl | omega)
          have EM1 := Lib.hid eM1
          clear eM1
          go_upto_if 49 with (fail)
          go_cut [12] from 44 to 104 (fun c12 wx => c12 = .int .i64 M1 ∧ Hid (Below wr.heap.size wr wx))
          case first =>
            cases bi <;>
            · go_wp2_with (fail)
              go_meet
              exact ⟨by rw [EM1.out] <;> simp, Lib.hid (Below.refl _ _)⟩
          case rest =>
          obtain ⟨rfl, HBV⟩ := hcut
          go_upto_if 56 with (fail)
          go_cut [12] from 44 to 104 (fun c12 wx => c12 = .int .i64 M ∧ Hid (Below wr.heap.size wr wx))
          case first =>
            cases bj <;>
            · go_wp2_with (fail)
              go_meet
              exact ⟨by rw [EMB.out] <;> simp, HBV⟩
          case rest =>
          clear di dii dj dji HBV
          obtain ⟨rfl, HBX⟩ := hcut
          have H4 := Lib.hid (H3.out.below HBX.out)
          have HL4 := Lib.hid (HL3.out.below HBX.out)
          clear x2 HBX
          obtain ⟨x, s4, e, eN⟩ : ∃ x t e, refNum st3 M = (x, t, e) := ⟨_, _, _, rfl⟩
          have HN := Lib.hid eN
          have HNI : Hid (e = (num17 M st3.rest).1 ∧ x = (num17 M st3.rest).2.1 ∧ (e = 0 → s4.err = 0 ∧ s4.rest = (num17 M st3.rest).2.2)) := Lib.hid (by
            have h := refNum_is (s := st3) (most := M) HE3.out
            rw [eN] at h
            obtain ⟨h1, h2, h3⟩ := h
            refine ⟨h1, h2, fun h0 => ?_⟩
            obtain ⟨k1, _, k3, k4⟩ := h3 (h1.symm.trans h0)
            exact ⟨k3, by show s4.b.drop s4.at_ = _; rw [show s4.b = st3.b from k1]; exact k4⟩)
          clear eN
          go_upto_region 21 with (first
            | (refine wpList_load_row rfl 61 (.tmp 3) rfl r rfl 61 _ (0, 0) _ H4.out.hr Tryz.underlying61 rfl (info_rdr.trans rfl) ?_)
            | (go_at_call 24; (refine (number_c D dc st3 M wc H4.out.ok HMI.out).mono ?_); rintro _ w5 ⟨rfl, hb5⟩; rw [HN.out]; have H5 := Lib.hid (H4.out.below hb5); have HL5 := Lib.hid (HL4.out.below hb5); clear hb5)
            | (refine wpList_store_rowTo rfl 61 (.tmp 15) (.tmp 62) rfl rfl w5.heap.size (rsC D dc s4) rfl rfl 61 _ (heap_alloc_new w5 _) (info_rdr.trans rfl) rfl (rs_one _ _ _) ?_))
          generalize eXX : World.alloc w5 _ = XX
          have hx : Below w5.heap.size w5 XX := by rw [← eXX]; exact (Below.refl _ _).alloc (Nat.le_refl _) _
          obtain ⟨old, hq2⟩ : ∃ old, XX.heap[w5.heap.size]? = some (.cells old 61 (0, 0)) := ⟨_, by rw [← eXX]; exact heap_alloc_new _ _⟩
          obtain ⟨g6, eg6⟩ : ∃ g, g = w5.heap.size := ⟨_, rfl⟩
          obtain ⟨W6, eW6⟩ : ∃ W, W = XX.setRow w5.heap.size (rsC D dc s4) := ⟨_, rfl⟩
          rw [← eW6, ← eg6]
          have hb6 : Below w5.heap.size w5 W6 := by rw [eW6]; exact below_setRow hx (Nat.le_refl _) _
          have HG6 : Hid (RdB W6 g6 D dc s4) := Lib.hid (by rw [eW6, eg6]; exact setRow_heap _ _ _ _ _ _ hq2)
          have H6 := Lib.hid (H5.out.below hb6)
          have HL6 := Lib.hid (HL5.out.below hb6)
          have HGL : Hid (g6 ≠ lb) := Lib.hid (by have h1 := heap_lt HL5.out.2; omega)
          have HO6 : Hid (RsOk W6 D dc s4) := Lib.hid (by
            have h := (H6.out.ok).var
            have h2 := refNum_rdr st3 M
            rw [HN.out] at h2
            have h3 : s4 = (varR st3).2 := h2
            rw [h3]
            exact h)
          have HB6 : Hid (s4.b = st3.b) := Lib.hid (by
            have h2 := refNum_rdr st3 M
            rw [HN.out] at h2
            have h3 : s4 = (varR st3).2 := h2
            rw [h3]
            exact varR_b st3)
          clear eXX hx hq2 eg6 eW6 hb6
          have li := HL6.out.at_ i hi5
          have fi := heap_free HL6.out.2 i
          have hi5' : (i : Int) < 5 := by omega
          go_upto_region 22 with (fail)
          obtain ⟨W7, eW7⟩ : ∃ W, W = W6.setCell ⟨lb, i, none⟩ (.int .i64 (x : Int)) := ⟨_, rfl⟩
          rw [← eW7]
          have k7 : Stays (fun k => k = lb) W6 W7 := by rw [eW7]; exact Stays.set _ _ ⟨lb, i, none⟩ _ rfl
          have H7 := Lib.hid (H6.out.far k7 HLB.out)
          have HL7 : Hid (FivB W7 lb (vs.set i x)) := Lib.hid (by rw [eW7]; exact HL6.out.put i x)
          have HG7 := Lib.hid (HG6.out.stay k7 (fun y => HGL.out y))
          have HO7 : Hid (RsOk W7 D dc s4) := Lib.hid (by obtain ⟨q1, q2⟩ := HO6.out; exact ⟨k7.rd q1 (fun ad ha y => by have h1 := (H6.out.fa ad ha).2; have h2 := HLB.out.1; omega), q2⟩)
          clear eW7 k7 li fi
          go_upto_region 23 with (first
            | (refine wpList_load_row rfl 61 (.tmp 15) rfl g6 rfl 61 _ (0, 0) _ HG7.out Tryz.underlying61 rfl (info_rdr.trans rfl) ?_)
            | (refine wpList_store_row rfl 61 (.tmp 3) (.tmp 67) rfl r (rsC D dc s4) rfl rfl 61 _ H7.out.hr (info_rdr.trans rfl) rfl (rs_one _ _ _) ?_))
          have H8 : Hid (RqS B p r q v gs D dc b0 s n c L d s4 cs w (W7.setRow r (rsC D dc s4))) := Lib.hid (H7.out.setR HO7.out HB6.out)
          obtain ⟨W8, eW8⟩ : ∃ W, W = W7.setRow r (rsC D dc s4) := ⟨_, rfl⟩
          rw [← eW8] at H8 ⊢
          have HL8 := Lib.hid (HL7.out.stay (w' := W8) (S := fun k => k = r) (by rw [eW8]; exact Stays.setRow _ _ _ _ rfl) (fun y => HLB.out.2.2.1 y))
          clear eW8
          by_cases he : e = 0
          rotate_left
          · have z0 : ((e : Int) != 0) = true := by rw [bne_iff_ne]; omega
            have HT3 : Hid (T.1 = e) := Lib.hid (by
              have h5 : 5 - i = (5 - (i + 1)) + 1 := by omega
              have h6 := HQI.out
              rw [h5] at h6
              have h7 : (num17 (most5 i ((n : Int) - (a2 : Int))) st3.rest).1 ≠ 0 := by rw [← EM.out, ← HNI.out.1]; exact he
              have h8 := fiveP_no (m := 5 - (i + 1)) (vs := vs) h7
              rw [h6, ← EM.out, ← HNI.out.1] at h8
              rw [HF1.out (by rw [h8]; exact he), h8])
            have HEN := Lib.hid he
            clear he
            go_upto_region 25 with (fail)
            refine wp_region_rz (q) (v) (scC s (some ⟨gs, 0, none⟩) n c L 0 d) (rsC D dc s4) 150 [Rz.eq (.agg (scC s (some ⟨gs, 0, none⟩) n c L 0 d)), Rz.eq (.agg (rsC D dc s4)), Rz.eq (.int .i64 (e : Int)), Rz.doneQ 25, Rz.doneV 61, Rz.eq (.int .i64 (e : Int))] [71, 72, 73, 6] (by kernel_rfl) rfl (by kernel_rfl) (by kernel_rfl) ?_ ?_
            · repeat (first | exact AllFrom.nil_ | (refine AllFrom.cons_ (by rfl) ?_ ?_; rotate_left))
              · intro f_ w' g_ hF hD
                have h2 : f_ 2 = .pointer (some ⟨p, 0, none⟩) := hF 2 (by kernel_rfl)
                rw [if_pos (wanted_none rfl)]
                clear hF hD
                exact gives_load_row 25 (.tmp 2) rfl p (by simp only [evF, h2]) 25 (scC s (some ⟨gs, 0, none⟩) n c L 0 d) (0, 0) _ (g_.far H8.out.hp ⟨fun x => H8.out.ap.2.1 x.symm, fun x => H8.out.ap.2.2.2.1 x.symm⟩) Tryz.underlying25 rfl (info_sc.trans rfl) ⟨Gz.refl _, rfl⟩
              · intro f_ w' g_ hF hD
                have h3 : f_ 3 = .pointer (some ⟨r, 0, none⟩) := hF 3 (by kernel_rfl)
                rw [if_pos (wanted_none rfl)]
                clear hF hD
                exact gives_load_row 61 (.tmp 3) rfl r (by simp only [evF, h3]) 61 (rsC D dc s4) (0, 0) _ (g_.far H8.out.hr ⟨fun x => H8.out.ap.2.2.1 x.symm, fun x => H8.out.ap.2.2.2.2.1 x.symm⟩) Tryz.underlying61 rfl (info_rdr.trans rfl) ⟨Gz.refl _, rfl⟩
              · intro f_ w' g_ hF hD
                have h13 : f_ 13 = .int .i64 (e : Int) := hF 13 (by kernel_rfl)
                rw [if_pos (wanted_none rfl)]
                clear hF hD
                exact gives_val (by simp only [execOp, evF, h13]; first | rfl | go_simp) ⟨Gz.refl _, rfl⟩
              · intro f_ w' g_ hF hD
                have h4 : f_ 4 = .pointer (some ⟨q, 0, none⟩) := hF 4 (by kernel_rfl)
                have h71 : f_ 71 = (.agg (scC s (some ⟨gs, 0, none⟩) n c L 0 d)) := hD 0 71 (by kernel_rfl) rfl
                rw [if_pos (wanted_none rfl)]
                clear hF hD
                obtain ⟨c0, e0, z0, -⟩ := g_.kq _ _ H8.out.hq
                exact gives_store_rowQ 25 (.tmp 4) (.tmp 71) rfl q (scC s (some ⟨gs, 0, none⟩) n c L 0 d) (by simp only [evF, h4, h71]) (by simp only [evF, h4, h71]) 25 c0 e0 (info_sc.trans rfl) (z0.trans rfl) (sc_one _ _ _ _ _ _ _) ⟨Gz.setQ e0 (z0.trans rfl) H8.out.ap.2.2.2.2.2, setRow_heap _ _ _ _ _ _ e0⟩
              · intro f_ w' g_ hF hD
                have h5 : f_ 5 = .pointer (some ⟨v, 0, none⟩) := hF 5 (by kernel_rfl)
                have h72 : f_ 72 = (.agg (rsC D dc s4)) := hD 1 72 (by kernel_rfl) rfl
                rw [if_pos (wanted_none rfl)]
                clear hF hD
                obtain ⟨c0, e0, z0, -⟩ := g_.kv _ _ H8.out.hv
                exact gives_store_rowQ 61 (.tmp 5) (.tmp 72) rfl v (rsC D dc s4) (by simp only [evF, h5, h72]) (by simp only [evF, h5, h72]) 61 c0 e0 (info_rdr.trans rfl) (z0.trans rfl) (rs_one _ _ _) ⟨Gz.setV e0 (z0.trans rfl) H8.out.ap.2.2.2.2.2, setRow_heap _ _ _ _ _ _ e0⟩
              · intro f_ w' g_ hF hD
                have h73 : f_ 73 = (.int .i64 (e : Int)) := hD 2 73 (by kernel_rfl) rfl
                rw [if_pos (wanted_none rfl)]
                clear hF hD
                exact gives_val (by simp only [execOp, evF, h73]; first | rfl | go_simp) ⟨Gz.refl _, rfl⟩
            intro f_ w4 gz hD hZ0
            have h6 : f_ 6 = .int .i64 (e : Int) := hD 5 6 rfl
            have hq9 : w4.heap[q]? = some (.cells (scC s (some ⟨gs, 0, none⟩) n c L 0 d) 25 (0, 0)) := (hZ0 3 (by decide) rfl).elim (fun _ x => x)
            have hv9 : w4.heap[v]? = some (.cells (rsC D dc s4) 61 (0, 0)) := (hZ0 4 (by decide) rfl).elim (fun _ x => x)
            simp only [putAll, List.setIfInBounds_toArray, List.set_cons_zero, List.set_cons_succ, h6]
            generalize f_ 71 = d71
            generalize f_ 72 = d72
            generalize f_ 73 = d73
            clear hD hZ0 h6
            go_wp2_with (fail)
            try simp only [Exit.inBlock, Exit.then]
            refine bodyPost_ret (v := .tuple #[.agg (scC s (some ⟨gs, 0, none⟩) n c L 0 d), .agg (rsC D dc s4), .int .i64 (e : Int)]) (results_cct (p := 4) (q := 5) (u := 6) (ty := 25) (tz := 61) rfl _ _ q v 25 61 _ _ (0, 0) (0, 0) _ _ _ rfl rfl rfl hq9 hv9 Tryz.underlying25 rfl (info_sc.trans rfl) Tryz.underlying61 rfl (info_rdr.trans rfl)) rfl ?_
            exact RunP.no HT3.out HEN.out rfl (H8.out.finz gz).1
          have z0 : ((e : Int) != 0) = false := by rw [bne_eq_false_iff_eq]; omega
          have HEZ := Lib.hid he
          have HNE : Hid (num17 (most5 i ((n : Int) - (a2 : Int))) st3.rest = (0, x, s4.rest)) := Lib.hid (by
            rw [← EM.out, (HNI.out.2.2 he).2, HNI.out.2.1, ← he, HNI.out.1])
          have HS4 : Hid (s4.err = 0) := Lib.hid (HNI.out.2.2 he).1
          have hxM : Hid ((x : Int) ≤ most5 i ((n : Int) - (a2 : Int))) := Lib.hid (by
            have h := num17_le (most := most5 i ((n : Int) - (a2 : Int))) (l := st3.rest) (by rw [HNE.out])
            rw [HNE.out] at h
            exact h)
          obtain ⟨a3, ea3⟩ : ∃ a3, a3 = if i = 0 then a2 + x else a2 := ⟨_, rfl⟩
          have HA3 : Hid (a3 ≤ n) := Lib.hid (by
            rw [ea3]
            split
            · rename_i h; have h2 := hxM.out; rw [h] at h2; have h3 : (x : Int) ≤ (n : Int) - (a2 : Int) := h2; omega
            · exact ha2)
          have EA3 := Lib.hid ea3
          obtain ⟨bad, ebad⟩ : ∃ b, bad5 i x = b := ⟨_, rfl⟩
          have EBAD := Lib.hid ebad
          have l0 := HL8.out.at_ 0 (by decide)
          have l1 := HL8.out.at_ 1 (by decide)
          have li := HL8.out.at_ i hi5
          rw [five_self (by rw [HL3.out.1]; exact hi5)] at li
          clear he ea3 ebad
          obtain ⟨bk, dk⟩ : ∃ b, (i == 0) = b := ⟨_, rfl⟩
          have dki : ((i : Int) == 0) = bk := by rw [← dk, Bool.eq_iff_iff, beq_iff_eq, beq_iff_eq]; omega
          have hx2 : i = 0 → (x : Int) ≤ (n : Int) - (a2 : Int) := fun h => by have h2 := hxM.out; rw [h] at h2; exact h2
          have DK := Lib.hid dk
          have HX2 := Lib.hid hx2
          clear hx2
          go_upto_if 75 with (fail)
          go_cut [8] from 44 to 104 (fun c8 wx => c8 = .int .i64 (a3 : Int) ∧ Hid (Below W8.heap.size W8 wx))
          case first =>
            cases bk
            · go_wp2_with (fail)
              go_meet
              exact ⟨by rw [EA3.out, if_neg (by have h := DK.out; simpa using h)], Lib.hid (Below.refl _ _)⟩
            · have hi0 : i = 0 := by have h := DK.out; simpa using h
              have hx2 := HX2.out hi0
              have EA4 : Hid ((a3 : Int) = (a2 : Int) + (x : Int)) := Lib.hid (by rw [EA3.out, if_pos hi0]; exact Int.natCast_add a2 x)
              rw [hi0] at li
              clear l0 hi0
              go_wp2_with (fail)
              go_meet
              exact ⟨by rw [EA4.out], Lib.hid (Below.refl _ _)⟩
          case rest =>
          obtain ⟨rfl, HBY1⟩ := hcut
          have H8b := Lib.hid (H8.out.below HBY1.out)
          have HL8b := Lib.hid (HL8.out.below HBY1.out)
          clear dk dki l0 l1 li
          have l1 := HL8b.out.at_ 1 (by decide)
          have li := HL8b.out.at_ i hi5
          rw [five_self (by rw [HL3.out.1]; exact hi5)] at li
          obtain ⟨W8b, eW8b⟩ : ∃ W, W = wc := ⟨_, rfl⟩
          rw [← eW8b] at H8b HL8b l1 li ⊢
          clear eW8b HBY1
          go_upto_region 28 with (fail)
          go_cut [102] from 44 to 104 (fun c102 wx => c102 = .bool bad ∧ Hid (Below W8b.heap.size W8b wx))
          case first =>
            have hi6 : i = 0 ∨ i = 1 ∨ i = 2 ∨ i = 3 ∨ i = 4 := by omega
            rcases hi6 with rfl | rfl | rfl | rfl | rfl
            · go_wp2_with (fail)
              go_meet
              exact ⟨by rw [← EBAD.out] <;> rfl, Lib.hid (Below.refl _ _)⟩
            · clear l1
              obtain ⟨bz, ebz⟩ : ∃ b, ((x : Int) == 0) = b := ⟨_, rfl⟩
              have ebn : (x == 0) = bz := by rw [← ebz, Bool.eq_iff_iff, beq_iff_eq, beq_iff_eq]; omega
              have EBZ : Hid (bz = bad) := Lib.hid (by rw [← EBAD.out, ← ebn]; simp [bad5])
              cases bz <;>
              · go_wp2_with (fail)
                go_meet
                exact ⟨by rw [← EBZ.out], Lib.hid (Below.refl _ _)⟩
            · have hxc : (x : Int) ≤ 4294967295 := hxM.out
              have hwc : IntKind.u32.wrap (x : Int) = (x : Int) := IntWalk.u32_in _ ⟨by omega, by omega⟩
              obtain ⟨cb, ecb⟩ : ∃ b, colMay (x : Int) = b := ⟨_, rfl⟩
              have ECB := Lib.hid ecb
              have EBC : Hid (bad = !cb) := Lib.hid (by rw [← EBAD.out, ← ecb]; simp [bad5])
              clear ecb
              cases cb <;>
              · go_wp2_with (first
                  | (go_at_call 44; (refine (refColorMay_c (x : Int) W8b).mono ?_); rintro _ _ ⟨rfl, rfl⟩; rw [ECB.out]))
                go_meet
                exact ⟨by rw [EBC.out] <;> rfl, Lib.hid (Below.refl _ _)⟩
            · have hxc : (x : Int) ≤ 4294967295 := hxM.out
              have hwc : IntKind.u32.wrap (x : Int) = (x : Int) := IntWalk.u32_in _ ⟨by omega, by omega⟩
              obtain ⟨cb, ecb⟩ : ∃ b, colMay (x : Int) = b := ⟨_, rfl⟩
              have ECB := Lib.hid ecb
              have EBC : Hid (bad = !cb) := Lib.hid (by rw [← EBAD.out, ← ecb]; simp [bad5])
              clear ecb
              cases cb <;>
              · go_wp2_with (first
                  | (go_at_call 44; (refine (refColorMay_c (x : Int) W8b).mono ?_); rintro _ _ ⟨rfl, rfl⟩; rw [ECB.out]))
                go_meet
                exact ⟨by rw [EBC.out] <;> rfl, Lib.hid (Below.refl _ _)⟩
            · go_wp2_with (fail)
              go_meet
              exact ⟨by rw [← EBAD.out]; simp [bad5], Lib.hid (Below.refl _ _)⟩
          case rest =>
          obtain ⟨rfl, HBY⟩ := hcut
          have H9 := Lib.hid (H8b.out.below HBY.out)
          have HL9 := Lib.hid (HL8b.out.below HBY.out)
          clear l1 li z0
          cases bad
          rotate_left
          · have HT3 : Hid (T.1 = 3) := Lib.hid (by
              have h5 : 5 - i = (5 - (i + 1)) + 1 := by omega
              have h6 := HQI.out
              rw [h5] at h6
              have h8 := fiveP_bad (m := 5 - (i + 1)) (vs := vs) HNE.out EBAD.out
              rw [h6] at h8
              rw [HF1.out (by rw [h8]; decide), h8])
            go_upto_region 29 with (fail)
            refine wp_region_rz (q) (v) (scC s (some ⟨gs, 0, none⟩) n c L 0 d) (rsC D dc s4) 150 [Rz.eq (.agg (scC s (some ⟨gs, 0, none⟩) n c L 0 d)), Rz.eq (.agg (rsC D dc s4)), Rz.doneQ 25, Rz.doneV 61, Rz.eq (.int .i64 3)] [103, 104, 6] (by kernel_rfl) rfl (by kernel_rfl) (by kernel_rfl) ?_ ?_
            · repeat (first | exact AllFrom.nil_ | (refine AllFrom.cons_ (by rfl) ?_ ?_; rotate_left))
              · intro f_ w' g_ hF hD
                have h2 : f_ 2 = .pointer (some ⟨p, 0, none⟩) := hF 2 (by kernel_rfl)
                rw [if_pos (wanted_none rfl)]
                clear hF hD
                exact gives_load_row 25 (.tmp 2) rfl p (by simp only [evF, h2]) 25 (scC s (some ⟨gs, 0, none⟩) n c L 0 d) (0, 0) _ (g_.far H9.out.hp ⟨fun x => H9.out.ap.2.1 x.symm, fun x => H9.out.ap.2.2.2.1 x.symm⟩) Tryz.underlying25 rfl (info_sc.trans rfl) ⟨Gz.refl _, rfl⟩
              · intro f_ w' g_ hF hD
                have h3 : f_ 3 = .pointer (some ⟨r, 0, none⟩) := hF 3 (by kernel_rfl)
                rw [if_pos (wanted_none rfl)]
                clear hF hD
                exact gives_load_row 61 (.tmp 3) rfl r (by simp only [evF, h3]) 61 (rsC D dc s4) (0, 0) _ (g_.far H9.out.hr ⟨fun x => H9.out.ap.2.2.1 x.symm, fun x => H9.out.ap.2.2.2.2.1 x.symm⟩) Tryz.underlying61 rfl (info_rdr.trans rfl) ⟨Gz.refl _, rfl⟩
              · intro f_ w' g_ hF hD
                have h4 : f_ 4 = .pointer (some ⟨q, 0, none⟩) := hF 4 (by kernel_rfl)
                have h103 : f_ 103 = (.agg (scC s (some ⟨gs, 0, none⟩) n c L 0 d)) := hD 0 103 (by kernel_rfl) rfl
                rw [if_pos (wanted_none rfl)]
                clear hF hD
                obtain ⟨c0, e0, z0, -⟩ := g_.kq _ _ H9.out.hq
                exact gives_store_rowQ 25 (.tmp 4) (.tmp 103) rfl q (scC s (some ⟨gs, 0, none⟩) n c L 0 d) (by simp only [evF, h4, h103]) (by simp only [evF, h4, h103]) 25 c0 e0 (info_sc.trans rfl) (z0.trans rfl) (sc_one _ _ _ _ _ _ _) ⟨Gz.setQ e0 (z0.trans rfl) H9.out.ap.2.2.2.2.2, setRow_heap _ _ _ _ _ _ e0⟩
              · intro f_ w' g_ hF hD
                have h5 : f_ 5 = .pointer (some ⟨v, 0, none⟩) := hF 5 (by kernel_rfl)
                have h104 : f_ 104 = (.agg (rsC D dc s4)) := hD 1 104 (by kernel_rfl) rfl
                rw [if_pos (wanted_none rfl)]
                clear hF hD
                obtain ⟨c0, e0, z0, -⟩ := g_.kv _ _ H9.out.hv
                exact gives_store_rowQ 61 (.tmp 5) (.tmp 104) rfl v (rsC D dc s4) (by simp only [evF, h5, h104]) (by simp only [evF, h5, h104]) 61 c0 e0 (info_rdr.trans rfl) (z0.trans rfl) (rs_one _ _ _) ⟨Gz.setV e0 (z0.trans rfl) H9.out.ap.2.2.2.2.2, setRow_heap _ _ _ _ _ _ e0⟩
              · intro f_ w' g_ hF hD
                rw [if_pos (wanted_none rfl)]
                clear hF hD
                exact gives_val (by simp only [execOp, evF]; first | rfl | go_simp) ⟨Gz.refl _, rfl⟩
            intro f_ w4 gz hD hZ0
            have h6 : f_ 6 = .int .i64 3 := hD 4 6 rfl
            have hq9 : w4.heap[q]? = some (.cells (scC s (some ⟨gs, 0, none⟩) n c L 0 d) 25 (0, 0)) := (hZ0 2 (by decide) rfl).elim (fun _ x => x)
            have hv9 : w4.heap[v]? = some (.cells (rsC D dc s4) 61 (0, 0)) := (hZ0 3 (by decide) rfl).elim (fun _ x => x)
            simp only [putAll, List.setIfInBounds_toArray, List.set_cons_zero, List.set_cons_succ, h6]
            generalize f_ 103 = d103
            generalize f_ 104 = d104
            clear hD hZ0 h6
            go_wp2_with (fail)
            try simp only [Exit.inBlock, Exit.then]
            refine bodyPost_ret (v := .tuple #[.agg (scC s (some ⟨gs, 0, none⟩) n c L 0 d), .agg (rsC D dc s4), .int .i64 3]) (results_cct (p := 4) (q := 5) (u := 6) (ty := 25) (tz := 61) rfl _ _ q v 25 61 _ _ (0, 0) (0, 0) _ _ _ rfl rfl rfl hq9 hv9 Tryz.underlying25 rfl (info_sc.trans rfl) Tryz.underlying61 rfl (info_rdr.trans rfl)) rfl ?_
            exact RunP.no HT3.out (by decide) rfl (H9.out.finz gz).1
          have HQ9 : Hid (fiveP n (5 - (i + 1)) (i + 1) a3 (vs.set i x) s4.rest = Q) := Lib.hid (by
            have h5 : 5 - i = (5 - (i + 1)) + 1 := by omega
            have h6 := HQI.out
            rw [h5, fiveP_go HNE.out EBAD.out, ← EA3.out] at h6
            exact h6)
          have ha3 := HA3.out
          go_wp2_with (fail)
          go_roundw
          case rel => exact ⟨a3, i + 1, vs.set i x, s4, rfl, by go_num, hi5, ha3, HQ9, HS4, H9, HL9⟩
          case measure => simp [intOf]; omega
        · obtain rfl : i = 5 := by omega
          have HQZ : Hid ((0, a2, vs, st3.rest) = Q) := Lib.hid HQI.out
          obtain ⟨x, m, f, g, t, l', eq, hm0, hm, hf, hg, ht, hr1, hr2⟩ := HF2.out (by rw [← HQZ.out])
          rw [← HQZ.out] at eq
          injection eq with _ eq
          injection eq with eA eq
          injection eq with eVS eRL
          subst eVS
          have ERL := Lib.hid eRL
          obtain ⟨R2, eR2⟩ : ∃ R2, runesP (f : Int) (g : Int) (t : Int) m a2 st3.rest cs = R2 := ⟨_, rfl⟩
          rw [← eRL, ← eA, eR2] at hr1 hr2
          have HERR : Hid (∀ E, R2.1 = E → E ≠ 0 → T.1 = E) := Lib.hid (fun E h1 h2 => by rw [HT.out.1, hr1 (by rw [h1]; exact h2), h1])
          have HGO : Hid (R2.1 = 0 → runsP (v1 - (k + 1)) (a2 + m) R2.2.1 R2.2.2 = RR) := Lib.hid (fun h => hr2 h)
          have HR2 := Lib.hid eR2
          have hm2 : a2 + m ≤ n := by rw [eA]; exact hm
          have hwf : IntKind.u32.wrap (f : Int) = (f : Int) := IntWalk.u32_in _ ⟨by omega, by omega⟩
          have hwg : IntKind.u32.wrap (g : Int) = (g : Int) := IntWalk.u32_in _ ⟨by omega, by omega⟩
          have hwt : IntKind.u8.wrap (t : Int) = (t : Int) := IntWalk.u8_in _ ⟨by omega, by omega⟩
          obtain ⟨A0, eA0⟩ : ∃ A0, A0 = a2 := ⟨_, rfl⟩
          rw [← eA0] at HGO hm2
          have EA0 := Lib.hid eA0
          clear eRL eA eR2 hr1 hr2 hm hm0 eA0 hi hi5 HQI HQZ HF1 HF2
          go_wp2_with (fail)
          go_loopw [8, 17] (fun aa jj wr => ∃ (a4 j : Nat) (st4 : RS) (cs4 : List CeD), aa = .int .i64 (a4 : Int) ∧ jj = .int .i64 (j : Int) ∧ j ≤ m ∧ a4 = A0 + j ∧ Hid (runesP (f : Int) (g : Int) (t : Int) (m - j) a4 st4.rest cs4 = R2) ∧ Hid (st4.err = 0) ∧ Hid (RqS B p r q v gs D dc b0 s n c L d st4 cs4 w wr) ∧ Hid (FivB wr lb [x, m, f, g, t])) (fun _ jj _ => m - (intOf jj).toNat)
          case atStart => exact ⟨a2, 0, st3, cs, rfl, rfl, Nat.zero_le _, EA0.out.symm, HR2, HE3, H3, HL3⟩
          case round =>
            clear H3 HL3 HR2 HE3
            obtain ⟨a4, j, st4, cs4, rfl, rfl, hj, ea4, HRJ, HE4, H4, HL4⟩ := hrel
            have l1 : wr.cell? ⟨lb, 1, none⟩ = some (.int .i64 (m : Int)) := HL4.out.at_ 1 (by decide)
            have EA4 := Lib.hid ea4
            have ha4 : a4 ≤ n := by omega
            rcases Nat.lt_or_ge j m with hjm | hjm
            · have ha5 : a4 < n := by omega
              clear ea4
              obtain ⟨u, s5, e, eN⟩ : ∃ x t e, refNum st4 1114111 = (x, t, e) := ⟨_, _, _, rfl⟩
              have HN := Lib.hid eN
              have HNI : Hid (e = (num17 1114111 st4.rest).1 ∧ u = (num17 1114111 st4.rest).2.1 ∧ (e = 0 → s5.err = 0 ∧ s5.rest = (num17 1114111 st4.rest).2.2)) := Lib.hid (by
                have h := refNum_is (s := st4) (most := 1114111) HE4.out
                rw [eN] at h
                obtain ⟨h1, h2, h3⟩ := h
                refine ⟨h1, h2, fun h0 => ?_⟩
                obtain ⟨k1, _, k3, k4⟩ := h3 (h1.symm.trans h0)
                exact ⟨k3, by show s5.b.drop s5.at_ = _; rw [show s5.b = st4.b from k1]; exact k4⟩)
              have HMJ : Hid (m - j = (m - (j + 1)) + 1) := Lib.hid (by omega)
              clear eN
              go_upto_region 34 with (first
                | (refine wpList_load_row rfl 61 (.tmp 3) rfl r rfl 61 _ (0, 0) _ H4.out.hr Tryz.underlying61 rfl (info_rdr.trans rfl) ?_)
                | (go_at_call 24; (refine (number_c D dc st4 1114111 wr H4.out.ok (by decide)).mono ?_); rintro _ w5 ⟨rfl, hb5⟩; rw [HN.out]; have H5 := Lib.hid (H4.out.below hb5); have HL5 := Lib.hid (HL4.out.below hb5); clear hb5)
                | (refine wpList_store_rowTo rfl 61 (.tmp 19) (.tmp 115) rfl rfl w5.heap.size (rsC D dc s5) rfl rfl 61 _ (heap_alloc_new w5 _) (info_rdr.trans rfl) rfl (rs_one _ _ _) ?_))
              generalize eXX : World.alloc w5 _ = XX
              have hx : Below w5.heap.size w5 XX := by rw [← eXX]; exact (Below.refl _ _).alloc (Nat.le_refl _) _
              obtain ⟨old, hq2⟩ : ∃ old, XX.heap[w5.heap.size]? = some (.cells old 61 (0, 0)) := ⟨_, by rw [← eXX]; exact heap_alloc_new _ _⟩
              obtain ⟨g6, eg6⟩ : ∃ g, g = w5.heap.size := ⟨_, rfl⟩
              obtain ⟨W6, eW6⟩ : ∃ W, W = XX.setRow w5.heap.size (rsC D dc s5) := ⟨_, rfl⟩
              rw [← eW6, ← eg6]
              have hb6 : Below w5.heap.size w5 W6 := by rw [eW6]; exact below_setRow hx (Nat.le_refl _) _
              have HG6 : Hid (RdB W6 g6 D dc s5) := Lib.hid (by rw [eW6, eg6]; exact setRow_heap _ _ _ _ _ _ hq2)
              have H6 := Lib.hid (H5.out.below hb6)
              have HL6 := Lib.hid (HL5.out.below hb6)
              have HGL : Hid (g6 ≠ lb) := Lib.hid (by have h1 := heap_lt HL5.out.2; omega)
              have HO6 : Hid (RsOk W6 D dc s5) := Lib.hid (by
                have h := (H6.out.ok).var
                have h2 := refNum_rdr st4 1114111
                rw [HN.out] at h2
                have h3 : s5 = (varR st4).2 := h2
                rw [h3]
                exact h)
              have HB6 : Hid (s5.b = st4.b) := Lib.hid (by
                have h2 := refNum_rdr st4 1114111
                rw [HN.out] at h2
                have h3 : s5 = (varR st4).2 := h2
                rw [h3]
                exact varR_b st4)
              clear eXX hx hq2 eg6 eW6 hb6
              go_upto_region 35 with (first
                | (refine wpList_load_row rfl 61 (.tmp 19) rfl g6 rfl 61 _ (0, 0) _ HG6.out Tryz.underlying61 rfl (info_rdr.trans rfl) ?_)
                | (refine wpList_store_row rfl 61 (.tmp 3) (.tmp 117) rfl r (rsC D dc s5) rfl rfl 61 _ H6.out.hr (info_rdr.trans rfl) rfl (rs_one _ _ _) ?_))
              have H8 : Hid (RqS B p r q v gs D dc b0 s n c L d s5 cs4 w (W6.setRow r (rsC D dc s5))) := Lib.hid (H6.out.setR HO6.out HB6.out)
              obtain ⟨W8, eW8⟩ : ∃ W, W = W6.setRow r (rsC D dc s5) := ⟨_, rfl⟩
              rw [← eW8] at H8 ⊢
              have HL8 := Lib.hid (HL6.out.stay (w' := W8) (S := fun k => k = r) (by rw [eW8]; exact Stays.setRow _ _ _ _ rfl) (fun y => HLB.out.2.2.1 y))
              clear eW8
              clear l1
              by_cases he : e = 0
              rotate_left
              · have z0 : ((e : Int) != 0) = true := by rw [bne_iff_ne]; omega
                have HT3 : Hid (T.1 = e) := Lib.hid (by
                  have h6 := HRJ.out
                  rw [HMJ.out] at h6
                  have h7 : (num17 1114111 st4.rest).1 ≠ 0 := by rw [← HNI.out.1]; exact he
                  have h8 := runesP_no (f := (f : Int)) (b := (g : Int)) (t := (t : Int)) (n := m - (j + 1)) (p := a4) (cs := cs4) h7
                  rw [h6, ← HNI.out.1] at h8
                  exact HERR.out e h8 he)
                have HEN := Lib.hid he
                clear he
                go_upto_region 36 with (fail)
                refine wp_region_rz (q) (v) (scC s (some ⟨gs, 0, none⟩) n c L 0 d) (rsC D dc s5) 150 [Rz.eq (.agg (scC s (some ⟨gs, 0, none⟩) n c L 0 d)), Rz.eq (.agg (rsC D dc s5)), Rz.eq (.int .i64 (e : Int)), Rz.doneQ 25, Rz.doneV 61, Rz.eq (.int .i64 (e : Int))] [120, 121, 122, 6] (by kernel_rfl) rfl (by kernel_rfl) (by kernel_rfl) ?_ ?_
                · repeat (first | exact AllFrom.nil_ | (refine AllFrom.cons_ (by rfl) ?_ ?_; rotate_left))
                  · intro f_ w' g_ hF hD
                    have h2 : f_ 2 = .pointer (some ⟨p, 0, none⟩) := hF 2 (by kernel_rfl)
                    rw [if_pos (wanted_none rfl)]
                    clear hF hD
                    exact gives_load_row 25 (.tmp 2) rfl p (by simp only [evF, h2]) 25 (scC s (some ⟨gs, 0, none⟩) n c L 0 d) (0, 0) _ (g_.far H8.out.hp ⟨fun x => H8.out.ap.2.1 x.symm, fun x => H8.out.ap.2.2.2.1 x.symm⟩) Tryz.underlying25 rfl (info_sc.trans rfl) ⟨Gz.refl _, rfl⟩
                  · intro f_ w' g_ hF hD
                    have h3 : f_ 3 = .pointer (some ⟨r, 0, none⟩) := hF 3 (by kernel_rfl)
                    rw [if_pos (wanted_none rfl)]
                    clear hF hD
                    exact gives_load_row 61 (.tmp 3) rfl r (by simp only [evF, h3]) 61 (rsC D dc s5) (0, 0) _ (g_.far H8.out.hr ⟨fun x => H8.out.ap.2.2.1 x.symm, fun x => H8.out.ap.2.2.2.2.1 x.symm⟩) Tryz.underlying61 rfl (info_rdr.trans rfl) ⟨Gz.refl _, rfl⟩
                  · intro f_ w' g_ hF hD
                    have h20 : f_ 20 = .int .i64 (e : Int) := hF 20 (by kernel_rfl)
                    rw [if_pos (wanted_none rfl)]
                    clear hF hD
                    exact gives_val (by simp only [execOp, evF, h20]; first | rfl | go_simp) ⟨Gz.refl _, rfl⟩
                  · intro f_ w' g_ hF hD
                    have h4 : f_ 4 = .pointer (some ⟨q, 0, none⟩) := hF 4 (by kernel_rfl)
                    have h120 : f_ 120 = (.agg (scC s (some ⟨gs, 0, none⟩) n c L 0 d)) := hD 0 120 (by kernel_rfl) rfl
                    rw [if_pos (wanted_none rfl)]
                    clear hF hD
                    obtain ⟨c0, e0, z0, -⟩ := g_.kq _ _ H8.out.hq
                    exact gives_store_rowQ 25 (.tmp 4) (.tmp 120) rfl q (scC s (some ⟨gs, 0, none⟩) n c L 0 d) (by simp only [evF, h4, h120]) (by simp only [evF, h4, h120]) 25 c0 e0 (info_sc.trans rfl) (z0.trans rfl) (sc_one _ _ _ _ _ _ _) ⟨Gz.setQ e0 (z0.trans rfl) H8.out.ap.2.2.2.2.2, setRow_heap _ _ _ _ _ _ e0⟩
                  · intro f_ w' g_ hF hD
                    have h5 : f_ 5 = .pointer (some ⟨v, 0, none⟩) := hF 5 (by kernel_rfl)
                    have h121 : f_ 121 = (.agg (rsC D dc s5)) := hD 1 121 (by kernel_rfl) rfl
                    rw [if_pos (wanted_none rfl)]
                    clear hF hD
                    obtain ⟨c0, e0, z0, -⟩ := g_.kv _ _ H8.out.hv
                    exact gives_store_rowQ 61 (.tmp 5) (.tmp 121) rfl v (rsC D dc s5) (by simp only [evF, h5, h121]) (by simp only [evF, h5, h121]) 61 c0 e0 (info_rdr.trans rfl) (z0.trans rfl) (rs_one _ _ _) ⟨Gz.setV e0 (z0.trans rfl) H8.out.ap.2.2.2.2.2, setRow_heap _ _ _ _ _ _ e0⟩
                  · intro f_ w' g_ hF hD
                    have h122 : f_ 122 = (.int .i64 (e : Int)) := hD 2 122 (by kernel_rfl) rfl
                    rw [if_pos (wanted_none rfl)]
                    clear hF hD
                    exact gives_val (by simp only [execOp, evF, h122]; first | rfl | go_simp) ⟨Gz.refl _, rfl⟩
                intro f_ w4 gz hD hZ0
                have h6 : f_ 6 = .int .i64 (e : Int) := hD 5 6 rfl
                have hq9 : w4.heap[q]? = some (.cells (scC s (some ⟨gs, 0, none⟩) n c L 0 d) 25 (0, 0)) := (hZ0 3 (by decide) rfl).elim (fun _ x => x)
                have hv9 : w4.heap[v]? = some (.cells (rsC D dc s5) 61 (0, 0)) := (hZ0 4 (by decide) rfl).elim (fun _ x => x)
                simp only [putAll, List.setIfInBounds_toArray, List.set_cons_zero, List.set_cons_succ, h6]
                generalize f_ 120 = d120
                generalize f_ 121 = d121
                generalize f_ 122 = d122
                clear hD hZ0 h6
                go_wp2_with (fail)
                try simp only [Exit.inBlock, Exit.then]
                refine bodyPost_ret (v := .tuple #[.agg (scC s (some ⟨gs, 0, none⟩) n c L 0 d), .agg (rsC D dc s5), .int .i64 (e : Int)]) (results_cct (p := 4) (q := 5) (u := 6) (ty := 25) (tz := 61) rfl _ _ q v 25 61 _ _ (0, 0) (0, 0) _ _ _ rfl rfl rfl hq9 hv9 Tryz.underlying25 rfl (info_sc.trans rfl) Tryz.underlying61 rfl (info_rdr.trans rfl)) rfl ?_
                exact RunP.no HT3.out HEN.out rfl (H8.out.finz gz).1
              have z0 : ((e : Int) != 0) = false := by rw [bne_eq_false_iff_eq]; omega
              have HS5 : Hid (s5.err = 0) := Lib.hid (HNI.out.2.2 he).1
              have HNE : Hid (num17 1114111 st4.rest = (0, u, s5.rest)) := Lib.hid (by rw [(HNI.out.2.2 he).2, HNI.out.2.1, ← he, HNI.out.1])
              have hu : (u : Int) ≤ 1114111 := by
                have h := num17_le (most := 1114111) (l := st4.rest) (by rw [HNE.out])
                rw [HNE.out] at h
                exact h
              have hwu : IntKind.i32.wrap (u : Int) = (u : Int) := IntWalk.i32_in _ ⟨by omega, by omega⟩
              have l2 : W8.cell? ⟨lb, 2, none⟩ = some (.int .i64 (f : Int)) := HL8.out.at_ 2 (by decide)
              have l3 : W8.cell? ⟨lb, 3, none⟩ = some (.int .i64 (g : Int)) := HL8.out.at_ 3 (by decide)
              have l4 : W8.cell? ⟨lb, 4, none⟩ = some (.int .i64 (t : Int)) := HL8.out.at_ 4 (by decide)
              clear he
              go_upto_region 38 with (first
                | (refine wpList_store_rowTo rfl 43 (.tmp 21) (.tmp 135) rfl rfl W8.heap.size #[Value.int IntKind.i32 (u : Int), Value.int IntKind.u8 0, Value.int IntKind.u32 (f : Int), Value.int IntKind.u32 (g : Int), Value.int IntKind.u8 (t : Int), Value.int IntKind.u16 0] rfl rfl 43 _ (heap_alloc_new W8 _) (info_ce6.trans rfl) rfl (by simp [Value.oneCell']) ?_))
              clear l2 l3 l4 z0
              generalize eXX : World.alloc W8 _ = XX
              have hx : Below W8.heap.size W8 XX := by rw [← eXX]; exact (Below.refl _ _).alloc (Nat.le_refl _) _
              obtain ⟨old, hq2⟩ : ∃ old, XX.heap[W8.heap.size]? = some (.cells old 43 (0, 0)) := ⟨_, by rw [← eXX]; exact heap_alloc_new _ _⟩
              obtain ⟨cb, ecb⟩ : ∃ g, g = W8.heap.size := ⟨_, rfl⟩
              obtain ⟨W9, eW9⟩ : ∃ W, W = XX.setRow W8.heap.size #[Value.int IntKind.i32 (u : Int), Value.int IntKind.u8 0, Value.int IntKind.u32 (f : Int), Value.int IntKind.u32 (g : Int), Value.int IntKind.u8 (t : Int), Value.int IntKind.u16 0] := ⟨_, rfl⟩
              rw [← eW9, ← ecb]
              have hb9 : Below W8.heap.size W8 W9 := by rw [eW9]; exact below_setRow hx (Nat.le_refl _) _
              have HCB : Hid (W9.heap[cb]? = some (.cells #[Value.int IntKind.i32 (u : Int), Value.int IntKind.u8 0, Value.int IntKind.u32 (f : Int), Value.int IntKind.u32 (g : Int), Value.int IntKind.u8 (t : Int), Value.int IntKind.u16 0] 43 (0, 0))) := Lib.hid (by rw [eW9, ecb]; exact setRow_heap _ _ _ _ _ _ hq2)
              have H9 := Lib.hid (H8.out.below hb9)
              have HL9 := Lib.hid (HL8.out.below hb9)
              clear eXX hx hq2 ecb eW9 hb9
              obtain ⟨E, eE⟩ : ∃ E : CeD, E = ⟨(u : Int), 0, (f : Int), (g : Int), (t : Int), 0⟩ := ⟨_, rfl⟩
              have HEE := Lib.hid eE
              have HM : Hid (Calls Tryz.prog 45 #[.agg #[Value.int IntKind.i32 (u : Int), Value.int IntKind.u8 0, Value.int IntKind.u32 (f : Int), Value.int IntKind.u32 (g : Int), Value.int IntKind.u8 (t : Int), Value.int IntKind.u16 0]] W9 fun e w' => e = .returned (.bool (mayC E)) ∧ Below W9.heap.size W9 w') := Lib.hid (by rw [eE]; exact refMayC_c ⟨(u : Int), 0, (f : Int), (g : Int), (t : Int), 0⟩ W9)
              obtain ⟨mb, emb⟩ : ∃ mb, mayC E = mb := ⟨_, rfl⟩
              have EMB := Lib.hid emb
              have HRE : Hid ((num17 1114111 st4.rest).1 = 0 ∧ (⟨((num17 1114111 st4.rest).2.1 : Int), 0, (f : Int), (g : Int), (t : Int), 0⟩ : CeD) = E ∧ (num17 1114111 st4.rest).2.2 = s5.rest) := Lib.hid (by rw [HNE.out, eE]; exact ⟨rfl, rfl, rfl⟩)
              clear eE emb
              cases mb
              · have HT3 : Hid (T.1 = 3) := Lib.hid (HERR.out 3 (by rw [← HRJ.out, HMJ.out, runesP_may HRE.out.1 (by rw [HRE.out.2.1]; exact EMB.out)]) (by decide))
                go_upto_region 39 with (first
                  | (refine wpList_load_row rfl 43 (.tmp 21) rfl cb rfl 43 _ (0, 0) _ HCB.out Tryz.underlying43 rfl (info_ce6.trans rfl) ?_)
                  | (go_at_call 45; (refine HM.out.mono ?_); rintro _ wf ⟨rfl, hbf⟩; rw [EMB.out]; have HA := Lib.hid (H9.out.below hbf); clear hbf))
                refine wp_region_rz (q) (v) (scC s (some ⟨gs, 0, none⟩) n c L 0 d) (rsC D dc s5) 150 [Rz.eq (.agg (scC s (some ⟨gs, 0, none⟩) n c L 0 d)), Rz.eq (.agg (rsC D dc s5)), Rz.doneQ 25, Rz.doneV 61, Rz.eq (.int .i64 3)] [139, 140, 6] (by kernel_rfl) rfl (by kernel_rfl) (by kernel_rfl) ?_ ?_
                · repeat (first | exact AllFrom.nil_ | (refine AllFrom.cons_ (by rfl) ?_ ?_; rotate_left))
                  · intro f_ w' g_ hF hD
                    have h2 : f_ 2 = .pointer (some ⟨p, 0, none⟩) := hF 2 (by kernel_rfl)
                    rw [if_pos (wanted_none rfl)]
                    clear hF hD
                    exact gives_load_row 25 (.tmp 2) rfl p (by simp only [evF, h2]) 25 (scC s (some ⟨gs, 0, none⟩) n c L 0 d) (0, 0) _ (g_.far HA.out.hp ⟨fun x => HA.out.ap.2.1 x.symm, fun x => HA.out.ap.2.2.2.1 x.symm⟩) Tryz.underlying25 rfl (info_sc.trans rfl) ⟨Gz.refl _, rfl⟩
                  · intro f_ w' g_ hF hD
                    have h3 : f_ 3 = .pointer (some ⟨r, 0, none⟩) := hF 3 (by kernel_rfl)
                    rw [if_pos (wanted_none rfl)]
                    clear hF hD
                    exact gives_load_row 61 (.tmp 3) rfl r (by simp only [evF, h3]) 61 (rsC D dc s5) (0, 0) _ (g_.far HA.out.hr ⟨fun x => HA.out.ap.2.2.1 x.symm, fun x => HA.out.ap.2.2.2.2.1 x.symm⟩) Tryz.underlying61 rfl (info_rdr.trans rfl) ⟨Gz.refl _, rfl⟩
                  · intro f_ w' g_ hF hD
                    have h4 : f_ 4 = .pointer (some ⟨q, 0, none⟩) := hF 4 (by kernel_rfl)
                    have h139 : f_ 139 = (.agg (scC s (some ⟨gs, 0, none⟩) n c L 0 d)) := hD 0 139 (by kernel_rfl) rfl
                    rw [if_pos (wanted_none rfl)]
                    clear hF hD
                    obtain ⟨c0, e0, z0, -⟩ := g_.kq _ _ HA.out.hq
                    exact gives_store_rowQ 25 (.tmp 4) (.tmp 139) rfl q (scC s (some ⟨gs, 0, none⟩) n c L 0 d) (by simp only [evF, h4, h139]) (by simp only [evF, h4, h139]) 25 c0 e0 (info_sc.trans rfl) (z0.trans rfl) (sc_one _ _ _ _ _ _ _) ⟨Gz.setQ e0 (z0.trans rfl) HA.out.ap.2.2.2.2.2, setRow_heap _ _ _ _ _ _ e0⟩
                  · intro f_ w' g_ hF hD
                    have h5 : f_ 5 = .pointer (some ⟨v, 0, none⟩) := hF 5 (by kernel_rfl)
                    have h140 : f_ 140 = (.agg (rsC D dc s5)) := hD 1 140 (by kernel_rfl) rfl
                    rw [if_pos (wanted_none rfl)]
                    clear hF hD
                    obtain ⟨c0, e0, z0, -⟩ := g_.kv _ _ HA.out.hv
                    exact gives_store_rowQ 61 (.tmp 5) (.tmp 140) rfl v (rsC D dc s5) (by simp only [evF, h5, h140]) (by simp only [evF, h5, h140]) 61 c0 e0 (info_rdr.trans rfl) (z0.trans rfl) (rs_one _ _ _) ⟨Gz.setV e0 (z0.trans rfl) HA.out.ap.2.2.2.2.2, setRow_heap _ _ _ _ _ _ e0⟩
                  · intro f_ w' g_ hF hD
                    rw [if_pos (wanted_none rfl)]
                    clear hF hD
                    exact gives_val (by simp only [execOp, evF]; first | rfl | go_simp) ⟨Gz.refl _, rfl⟩
                intro f_ w4 gz hD hZ0
                have h6 : f_ 6 = .int .i64 3 := hD 4 6 rfl
                have hq9 : w4.heap[q]? = some (.cells (scC s (some ⟨gs, 0, none⟩) n c L 0 d) 25 (0, 0)) := (hZ0 2 (by decide) rfl).elim (fun _ x => x)
                have hv9 : w4.heap[v]? = some (.cells (rsC D dc s5) 61 (0, 0)) := (hZ0 3 (by decide) rfl).elim (fun _ x => x)
                simp only [putAll, List.setIfInBounds_toArray, List.set_cons_zero, List.set_cons_succ, h6]
                generalize f_ 139 = d139
                generalize f_ 140 = d140
                clear hD hZ0 h6
                go_wp2_with (fail)
                try simp only [Exit.inBlock, Exit.then]
                refine bodyPost_ret (v := .tuple #[.agg (scC s (some ⟨gs, 0, none⟩) n c L 0 d), .agg (rsC D dc s5), .int .i64 3]) (results_cct (p := 4) (q := 5) (u := 6) (ty := 25) (tz := 61) rfl _ _ q v 25 61 _ _ (0, 0) (0, 0) _ _ _ rfl rfl rfl hq9 hv9 Tryz.underlying25 rfl (info_sc.trans rfl) Tryz.underlying61 rfl (info_rdr.trans rfl)) rfl ?_
                exact RunP.no HT3.out (by decide) rfl (HA.out.finz gz).1
              · go_upto_region 40 with (first
                  | (refine wpList_load_row rfl 43 (.tmp 21) rfl cb rfl 43 _ (0, 0) _ HCB.out Tryz.underlying43 rfl (info_ce6.trans rfl) ?_)
                  | (go_at_call 45; (refine HM.out.mono ?_); rintro _ wf ⟨rfl, hbf⟩; rw [EMB.out]; have HA := Lib.hid (H9.out.below hbf); have HLA := Lib.hid (HL9.out.below hbf); have HCA := Lib.hid ((hbf.block cb (heap_lt HCB.out)).trans HCB.out); clear hbf))
                have HP4 : Hid (a4 < cs4.length) := Lib.hid (by rw [HA.out.len]; exact ha5)
                have x2 := HA.out.hp.nine.2.2.1
                obtain ⟨yo, -, z0, z1, z2, z3, z4, z5⟩ := HA.out.own.cellsAt a4 HP4.out
                have f0 := HA.out.own.free (a4 * 6)
                have f1 := HA.out.own.free (a4 * 6 + 1)
                have f2 := HA.out.own.free (a4 * 6 + 2)
                have f3 := HA.out.own.free (a4 * 6 + 3)
                have f4 := HA.out.own.free (a4 * 6 + 4)
                have f5 := HA.out.own.free (a4 * 6 + 5)
                have ha5' : (a4 : Int) < (n : Int) := by omega
                go_upto_region 41 with (first
                  | (refine wpList_load_row rfl 43 (.tmp 21) rfl cb rfl 43 _ (0, 0) _ HCA.out Tryz.underlying43 rfl (info_ce6.trans rfl) ?_))
                obtain ⟨WB, eWB⟩ : ∃ W, W = ((((((wf.setCell ⟨gs, a4 * 6, none⟩ (.int .i32 (u : Int))).setCell ⟨gs, a4 * 6 + 1, none⟩ (.int .u8 0)).setCell ⟨gs, a4 * 6 + 2, none⟩ (.int .u32 (f : Int))).setCell ⟨gs, a4 * 6 + 3, none⟩ (.int .u32 (g : Int))).setCell ⟨gs, a4 * 6 + 4, none⟩ (.int .u8 (t : Int))).setCell ⟨gs, a4 * 6 + 5, none⟩ (.int .u16 0)) := ⟨_, rfl⟩
                rw [← eWB]
                have HB' : Hid (RqS B p r q v gs D dc b0 s n c L d s5 (cs4.set a4 E) w WB) := Lib.hid (by
                  have h := HA.out.put a4 HP4.out E (by rw [HEE.out])
                  rw [eWB]
                  rw [HEE.out] at h ⊢
                  exact h)
                have HLB' : Hid (FivB WB lb [x, m, f, g, t]) := Lib.hid (by
                  rw [eWB]
                  exact HLA.out.stay (six_stays (fun k => k = gs) wf gs (a4 * 6) (a4 * 6 + 1) (a4 * 6 + 2) (a4 * 6 + 3) (a4 * 6 + 4) (a4 * 6 + 5) _ _ _ _ _ _ rfl) (fun y => by have h1 := HLB.out.1; have h2 := HA.out.lo.2.2.2.2; omega))
                have HRB : Hid (runesP (f : Int) (g : Int) (t : Int) (m - (j + 1)) (a4 + 1) s5.rest (cs4.set a4 E) = R2) := Lib.hid (by
                  rw [← HRJ.out, HMJ.out, runesP_go HRE.out.1 (by rw [HRE.out.2.1]; exact EMB.out), HRE.out.2.1, HRE.out.2.2])
                clear eWB yo z0 z1 z2 z3 z4 z5 f0 f1 f2 f3 f4 f5 x2
                go_wp2_with (fail)
                go_roundw
                case rel => exact ⟨a4 + 1, j + 1, s5, cs4.set a4 E, by go_num, by go_num, hjm, by rw [EA4.out]; rfl, HRB, HS5, HB', HLB'⟩
                case measure => simp [intOf]; omega
            · obtain rfl : j = m := by omega
              have HRZ : Hid (R2 = (0, st4.rest, cs4)) := Lib.hid (by rw [← HRJ.out, Nat.sub_self]; rfl)
              have HRF : Hid (runsP (v1 - (k + 1)) a4 st4.rest cs4 = RR) := Lib.hid (by have h := HGO.out (by rw [HRZ.out]); rw [HRZ.out, ← EA4.out] at h; exact h)
              have hwk := HWK.out
              have hlt := HLT.out
              go_wp2_with (fail)
              go_roundw
              case rel => exact ⟨a4, k + 1, st4, cs4, rfl, by go_num, ha4, hlt, HRF, HE4, H4⟩
              case measure => simp [intOf]; omega
end Go.Proofs.YtndjggabdajbfaaGreatDoor


