/- Parts one behind the other: A list of items laid item by item, the items' texts to be read anywhere; The items of a part, and the item that holds them, as laid in memory; What body.PutData answers: data's bytes in a version, or an error; What the reference's item and PutData answer; What the reference lays of data in the first version; What next and bad of a walk over fields do. Conditions: as told at each. -/
import Derived.Test.YtcffinkkfdfcaaaPB6
import Derived.Test.YtcffinkkfdfcaaaPB8
import Derived.Test.YtcffinkkfdfcaaaPB12
import Derived.Deep.CutBlock
import Derived.Test.YtcffinkkfdfcaaaPB11
import Derived.StillTailTactics

set_option linter.unusedVariables false
set_option linter.unusedSimpArgs false
/- A list of items laid item by item, the items' texts to be read anywhere. Conditions: none. -/
namespace Go.Proofs.Ytcffinkkfdfcaaa
open Go Go.RowKit

/-- A row of items of one's own, from block B on; what the items hold lies in other blocks. -/
structure FoQ (w : World) (B : Nat) (v : Value) (ds : List ItV) (f : Fo) : Prop where
  row : OwnI w B v ds
  its : ItsR (fun j => v.ownBlock ≠ some j) w ds f
section
variable {w w' : World} {B : Nat} {v v' : Value} {ds : List ItV} {f : Fo}
theorem FoQ.frame (h : FoQ w B v ds f) (hb : Below w.heap.size w w') : FoQ w' B v ds f :=
  ⟨h.row.frame (fun g e => hb.block g (h.row.lt g e).2), ItsR.frame (fun j _ hj => hb.block j hj) hb.size _ _ h.its⟩
theorem FoQ.form (h : FoQ w B v ds f) {n : Nat} (hn : f.len = n) : ∃ A c, v = .slice A n c ∧ n ≤ c ∧ c ≤ maxLen ∧ FoR (fun _ => True) w A 0 f :=
  FoM.form (ok := fun _ => True) ⟨ds, h.row.low (Nat.zero_le _), fun _ _ => trivial, ItsR.weak (fun _ _ _ => trivial) _ _ h.its⟩ hn
theorem FoQ.more (h : FoQ w B v ds f) {d : ItV} {R : Fo} (hd : ItsR (fun j => v.ownBlock ≠ some j) w [d] R) {o : Obj} (ho : OwnI w' B v' (ds ++ [d])) (hg : (w.alloc o).grownBy w' v.ownBlock) (hv : v'.ownBlock = v.ownBlock ∨ v'.ownBlock = some (w.heap.size + 1)) :
    FoQ w' B v' (ds ++ [d]) (f.app R) := by
  refine ⟨ho, ?_⟩
  have hb := (Below.refl w.heap.size w).alloc (Nat.le_refl _) o
  have i1 := ItsR.snoc hd f ds h.its
  have i2 : ItsR (fun j => v.ownBlock ≠ some j ∧ j < w.heap.size) w (ds ++ [d]) (f.app R) := ItsR.weak (fun j hj hl => ⟨hj, hl⟩) _ _ i1
  have i3 : ItsR (fun j => v.ownBlock ≠ some j ∧ j < w.heap.size) w' (ds ++ [d]) (f.app R) :=
    ItsR.frame (fun j hj hl => (hg.block j (by simp; omega) (fun e => hj.1 e.symm)).trans (hb.block j hl)) (Nat.le_trans hb.size hg.size) _ _ i2
  refine ItsR.weak (fun j hj _ e => ?_) _ _ i3
  rcases hv with hv | hv
  · exact hj.1 (hv.symm.trans e)
  · rw [hv] at e; injection e with e; omega
end
/-- A literal of one item. -/
theorem FoQ.lit {w : World} {B : Nat} {d : ItV} {R : Fo} (hd : ItsR (fun _ => True) w [d] R) (hB : B ≤ w.heap.size) (X : Array Value) (hX : X = d.cells.toArray) : FoQ (w.alloc (.cells X 76)) B (.slice (some ⟨w.heap.size, 0, none⟩) 1 1) [d] R := by
  subst hX
  have hb := (Below.refl w.heap.size w).alloc (Nat.le_refl _) (.cells d.cells.toArray 76)
  have hc : d.cells = cellsI [d] := by simp [cellsI]
  refine ⟨?_, ?_⟩
  · exact ⟨by rw [cellsI_length], .inr ⟨w.heap.size, 1, _, rfl, hB, heap_alloc_new w _, Nat.le_refl _, by decide, rfl, by rw [← hc]; rfl⟩⟩
  · have i2 : ItsR (fun j => j < w.heap.size) w [d] R := ItsR.weak (fun j _ hl => hl) _ _ hd
    refine ItsR.weak (fun j hj _ e => ?_) _ _ (ItsR.frame (fun j hj hl => hb.block j hl) hb.size _ _ i2)
    exact absurd hj (by have e2 : w.heap.size = j := Option.some.inj e; omega)
theorem rd_item (w : World) (d : ItV) : Rd (w.alloc (.cells d.cells.toArray 76)) (some ⟨w.heap.size, 0, none⟩) (cellsI [d]) := by
  have e : cellsI [d] = d.cells := by simp [cellsI]
  refine .inr ⟨w.heap.size, 0, rfl, by simp, fun k hk => ?_⟩
  rw [Nat.zero_add, heap_cell (heap_alloc_new w _)]
  simp only [e, List.getElem?_toArray]
  simp only [e] at hk
  rw [List.getElem?_eq_getElem hk]
/-- 'append(l, item)' of one item, laid in a new block. -/
theorem wpList_item (w : World) {ops : Array Oper} {rest : List Oper} {o : Oper} {a : Act} {Q : Exit → Act → World → Prop} (hgd : o.guard = none) (s x : Operand)
    (ho : o.op = .call { callee := .builtin .append, args := #[s, x], argTypes := #[74, 74] })
    (B : Nat) (v : Value) (ds : List ItV) (f : Fo) (hs : a.eval s = v) (hq : FoQ w B v ds f) (X : Array Value) (d : ItV) (hX : X = d.cells.toArray) (hx : a.eval x = .slice (some ⟨w.heap.size, 0, none⟩) 1 1)
    (R : Fo) (hd : ItsR (fun j => v.ownBlock ≠ some j) w [d] R) (hlen : ds.length ≤ 1000) (hB : B ≤ w.heap.size)
    (h : ∀ v' w', FoQ w' B v' (ds ++ [d]) (f.app R) → Below B w w' → wpList Try.prog ops Q rest (a.put o.dst v') w') : wpList Try.prog ops Q (o :: rest) a (w.alloc (.cells X 76)) := by
  subst hX
  have hb := (Below.refl w.heap.size w).alloc (Nat.le_refl _) (.cells d.cells.toArray 76)
  refine wpList_appI _ hgd s x ho B v ds hs (hq.row.frame (fun g e => hb.block g (hq.row.lt g e).2)) _ 1 1 [d] hx rfl (rd_item w d) (by omega) (Nat.le_trans hB hb.size) ?_
  intro v' w' ho' hg hv
  refine h v' w' (hq.more hd ho' hg (by simpa using hv)) ?_
  exact ((Below.refl B w).alloc hB _).grown hg (Nat.le_trans hB hb.size) (fun q e => (hq.row.lt q e).1)
/-- An item whose text is new memory. -/
theorem item_new {w0 w : World} {v : Value} {A : Option Addr} {n c : Nat} {bs : List UInt8} (hv : ∀ k, v.ownBlock = some k → k < w0.heap.size) (h : OwnB w w0.heap.size (.slice A n c) bs) (hn : bs.length = n) (hl : n ≤ 140737488355328) (k : Int) (cr : Bool) :
    ItsR (fun j => v.ownBlock ≠ some j) w [⟨k, cr, false, A, n, c, none, 0, 0⟩] (.cons k cr false bs .nil .nil) := by
  have i := ItsO.r _ _ (ItsO.one (k := k) (cr := cr) (li := false) (TxtO.of_own (ok := fun j => w0.heap.size ≤ j) h hn hl (fun j hj _ => hj)) (FoO.nil_ _ _) (Nat.zero_le _))
  exact ItsR.weak (fun j (hj : w0.heap.size ≤ j) _ e => by have := hv j e; omega) _ _ i
end Go.Proofs.Ytcffinkkfdfcaaa

/- The items of a part, and the item that holds them, as laid in memory. Conditions: none. -/
namespace Go.Proofs.Ytcffinkkfdfcaaa
open Go Go.RowKit

theorem rows_fo {w : World} {ok : Nat → Prop} {ds : List ItV} {f : Fo} (h : ItsR ok w ds f) (hok : ok w.heap.size) (X : Array Value) (hX : X = (cellsI ds).toArray) : FoR ok (w.alloc (.cells X 76)) (some ⟨w.heap.size, 0, none⟩) 0 f := by
  subst hX
  have hb : Below w.heap.size w (w.alloc (.cells (cellsI ds).toArray 76)) := (Below.refl _ _).alloc (Nat.le_refl _) _
  refine FoR.of_row (by simp) hok f ds 0 (fun k hk => ?_) (ItsR.frame (fun j _ hj => hb.block j hj) hb.size f _ h)
  rw [Nat.zero_mul, Nat.add_zero, Nat.zero_add, heap_cell (heap_alloc_new w _), List.getElem?_toArray, List.getElem?_eq_getElem hk]
/-- The item that holds a part, as it is laid: its list in the block just made. -/
theorem part_item {w : World} {g : Option Nat} (hg : ∀ k, g = some k → k < w.heap.size) {ds : List ItV} {f : Fo} (h : ItsR (fun j => g ≠ some j) w ds f) (hf : f.len = 4) (X : Array Value) (hX : X = (cellsI ds).toArray) :
    ItsR (fun j => g ≠ some j) (w.alloc (.cells X 76)) [⟨5, true, true, none, 0, 0, some ⟨w.heap.size, 0, none⟩, 4, 4⟩] (.cons 5 true true [] f .nil) := by
  have r := rows_fo h (fun e => by have := hg _ e; omega) X hX
  exact ItsR.one (TxtO.nil_ _ _).r hf.symm r (Nat.le_refl _) (by decide) (by omega)
/-- An item whose text lies elsewhere. -/
theorem item_old {ok : Nat → Prop} {w : World} {A : Option Addr} {n c : Nat} {bs : List UInt8} (h : TxtR ok w A n c bs) (k : Int) (cr : Bool) :
    ItsR ok w [⟨k, cr, false, A, n, c, none, 0, 0⟩] (.cons k cr false bs .nil .nil) :=
  ItsR.one h rfl (by unfold FoR; trivial) (Nat.le_refl _) (by decide) (Nat.zero_le _)
theorem four_items {ok : Nat → Prop} {w : World} {d1 d2 d3 d4 : ItV} {b1 b2 b3 b4 : List UInt8} (h1 : ItsR ok w [d1] (.cons 1 true false b1 .nil .nil)) (h2 : ItsR ok w [d2] (.cons 2 true false b2 .nil .nil)) (h3 : ItsR ok w [d3] (.cons 3 true false b3 .nil .nil)) (h4 : ItsR ok w [d4] (.cons 4 true false b4 .nil .nil)) :
    ItsR ok w [d1, d2, d3, d4] (.cons 1 true false b1 .nil (.cons 2 true false b2 .nil (.cons 3 true false b3 .nil (.cons 4 true false b4 .nil .nil)))) :=
  ItsR.snoc h4 _ _ (ItsR.snoc h3 _ _ (ItsR.snoc h2 _ _ h1))
theorem u64w {n : Nat} (h : n < 256) : IntKind.u64.wrap (n : Int) = (n : Int) := by
  unfold IntKind.wrap
  simp [IntKind.bits, IntKind.signed]
  omega
end Go.Proofs.Ytcffinkkfdfcaaa

/- What body.PutData answers: data's bytes in a version, or an error. Conditions: data of its kinds; texts that can be read. -/
namespace Go.Proofs.Ytcffinkkfdfcaaa
open Go Go.RowKit

theorem keep4 {g : Nat} {u v x y : Value} {a b : World} (h : a.cell? ⟨g, 5, none⟩ = some u ∧ a.cell? ⟨g, 6, none⟩ = some v ∧ a.cell? ⟨g, 7, none⟩ = some x ∧ a.cell? ⟨g, 8, none⟩ = some y) (hb : Below (g + 1) a b) : b.cell? ⟨g, 5, none⟩ = some u ∧ b.cell? ⟨g, 6, none⟩ = some v ∧ b.cell? ⟨g, 7, none⟩ = some x ∧ b.cell? ⟨g, 8, none⟩ = some y := ⟨keep1 h.1 hb, keep1 h.2.1 hb, keep1 h.2.2.1 hb, keep1 h.2.2.2 hb⟩
theorem nine_of {w : World} {g : Nat} {a0 a1 a2 a3 a4 a5 a6 a7 a8 : Value} (h : D9 w g #[a0, a1, a2, a3, a4, a5, a6, a7, a8]) :
    w.cell? ⟨g, 0, none⟩ = some a0 ∧ w.cell? ⟨g, 1, none⟩ = some a1 ∧ w.cell? ⟨g, 2, none⟩ = some a2 ∧ w.cell? ⟨g, 3, none⟩ = some a3 ∧ w.cell? ⟨g, 4, none⟩ = some a4 ∧ w.cell? ⟨g, 5, none⟩ = some a5 ∧ w.cell? ⟨g, 6, none⟩ = some a6 ∧ w.cell? ⟨g, 7, none⟩ = some a7 ∧ w.cell? ⟨g, 8, none⟩ = some a8 :=
  ⟨h.cell 0 rfl, h.cell 1 rfl, h.cell 2 rfl, h.cell 3 rfl, h.cell 4 rfl, h.cell 5 rfl, h.cell 6 rfl, h.cell 7 rfl, h.cell 8 rfl⟩
set_option maxRecDepth 100000 in
set_option maxHeartbeats 8000000 in
theorem PutData_c (v : Int) (st ec ak th : Nat) (has : Bool) (id : Nat) (ix ct : Int) (A : Option Addr) (n c : Nat) (bs : List UInt8) (w : World) (h1 : U16 st) (h2 : U16 ec) (h3 : U64 ak) (h4 : U64 th) (h5 : id < 4294967296) (ht : TxtR (· < w.heap.size) w A n c bs) (hl : n ≤ 140737488351232) :
    Calls Try.prog 11 #[.int .i64 v, .agg #[.int .u16 (st : Int), .int .u16 (ec : Int), .int .u64 (ak : Int), .int .u64 (th : Int), .bool has, .int .u32 (id : Int), .int .i64 ix, .int .i64 ct, .slice A n c]] w fun r w' => ∃ x, r = .returned (.tuple #[x, .int .i64 (putD v ⟨st, ec, ak, th, has, ⟨id, ix, ct, bs⟩⟩).1]) ∧ OwnB w' w.heap.size x (putD v ⟨st, ec, ak, th, has, ⟨id, ix, ct, bs⟩⟩).2 ∧ Below w.heap.size w w' := by
  obtain ⟨E, L, eR⟩ : ∃ E L, putD v ⟨st, ec, ak, th, has, ⟨id, ix, ct, bs⟩⟩ = (E, L) := ⟨_, _, rfl⟩
  rw [eR]
  have ER := Lib.hid eR; clear eR
  show Calls _ _ _ _ fun r w' => ∃ x, r = .returned (.tuple #[x, .int .i64 E]) ∧ OwnB w' w.heap.size x L ∧ Below w.heap.size w w'
  have HT := Lib.hid ht
  have HL := Lib.hid hl
  have U1 := Lib.hid h1
  have U2 := Lib.hid h2
  have U3 := Lib.hid h3
  have U4 := Lib.hid h4
  have U5 := Lib.hid h5
  clear ht hl h1 h2 h3 h4 h5
  obtain ⟨W0, eW⟩ : ∃ W0, W0 = w.alloc (.cells #[.int .u16 (st : Int), .int .u16 (ec : Int), .int .u64 (ak : Int), .int .u64 (th : Int), .bool has, .int .u32 (id : Int), .int .i64 ix, .int .i64 ct, .slice A n c] 29) := ⟨_, rfl⟩
  have HD : Hid (D9 W0 w.heap.size #[.int .u16 (st : Int), .int .u16 (ec : Int), .int .u64 (ak : Int), .int .u64 (th : Int), .bool has, .int .u32 (id : Int), .int .i64 ix, .int .i64 ct, .slice A n c]) := Lib.hid (by rw [eW]; exact heap_alloc_new w _)
  have HB : Hid (Below w.heap.size w W0) := Lib.hid (by rw [eW]; exact (Below.refl _ _).alloc (Nat.le_refl _) _)
  have HS : Hid (W0.heap.size = w.heap.size + 1) := Lib.hid (by rw [eW]; simp)
  have EW := Lib.hid eW; clear eW
  rcases Int.lt_or_le v 1 with v1 | v1
  · have hR : putD v ⟨st, ec, ak, th, has, ⟨id, ix, ct, bs⟩⟩ = (1, []) := by rw [putD, if_pos (.inl v1)]
    rw [ER.out] at hR
    injection hR with r1 r2
    subst r1 r2
    have d1 : decide (v < 1) = true := decide_eq_true v1
    clear v1
    go_enter Try.func11, Try.ntmps11
    go_wp2_with (fail)
    go_ret2
    exact ⟨_, rfl, Own.nil_ _ _ _, by rw [← EW.out]; exact HB.out⟩
  rcases Int.lt_or_le 3 v with v3 | v3
  · have hR : putD v ⟨st, ec, ak, th, has, ⟨id, ix, ct, bs⟩⟩ = (1, []) := by rw [putD, if_pos (.inr (.inl v3))]
    rw [ER.out] at hR
    injection hR with r1 r2
    subst r1 r2
    have d1 : decide (v < 1) = false := decide_eq_false (by omega)
    have d2 : decide (3 < v) = true := decide_eq_true v3
    clear v1 v3
    go_enter Try.func11, Try.ntmps11
    go_wp2_with (fail)
    go_ret2
    exact ⟨_, rfl, Own.nil_ _ _ _, by rw [← EW.out]; exact HB.out⟩
  have d1 : decide (v < 1) = false := decide_eq_false (by omega)
  have d2 : decide (3 < v) = false := decide_eq_false (by omega)
  have V1 := Lib.hid v1
  have V3 := Lib.hid v3
  clear v1 v3
  obtain ⟨M, eM⟩ : ∃ M, M = dataB has id ix ct n := ⟨_, rfl⟩
  have EM := Lib.hid eM; clear eM
  cases M with
  | false =>
    have hR : putD v ⟨st, ec, ak, th, has, ⟨id, ix, ct, bs⟩⟩ = (1, []) := by rw [putD, if_pos (.inr (.inr (by show dataB has id ix ct bs.length = false; rw [HT.out.1]; exact EM.out.symm)))]
    rw [ER.out] at hR
    injection hR with r1 r2
    subst r1 r2
    go_enter Try.func11, Try.ntmps11
    go_wp2_with (fail)
    rw [← EW.out]
    refine (dataMay_c st ec ak th has id ix ct A n c W0).mono ?_
    rintro _ w1 ⟨rfl, hb⟩
    rw [← EM.out]
    have HB1 := Lib.hid (HB.out.trans (hb.mono HB.out.size))
    clear hb
    go_wp2_with (fail)
    go_ret2
    exact ⟨_, rfl, Own.nil_ _ _ _, HB1.out⟩
  | true =>
    have hR : putD v ⟨st, ec, ak, th, has, ⟨id, ix, ct, bs⟩⟩ = if v = 1 then (0, firstL ⟨st, ec, ak, th, has, ⟨id, ix, ct, bs⟩⟩) else (checkF (d5F ⟨st, ec, ak, th, has, ⟨id, ix, ct, bs⟩⟩), encF (d5F ⟨st, ec, ak, th, has, ⟨id, ix, ct, bs⟩⟩)) := by
      rw [putD, if_neg]
      rintro (h | h | h)
      · have := V1.out; omega
      · have := V3.out; omega
      · have h' : dataB has id ix ct bs.length = false := h
        rw [HT.out.1, ← EM.out] at h'; cases h'
    rw [ER.out] at hR
    have HR := Lib.hid hR
    clear hR ER
    by_cases e1 : v = 1
    · subst e1
      have hR := HR.out
      rw [if_pos rfl] at hR
      injection hR with r1 r2
      subst r1
      have R2 := Lib.hid r2
      clear r2 HR
      go_enter Try.func11, Try.ntmps11
      go_wp2_with (fail)
      rw [← EW.out]
      refine (dataMay_c st ec ak th has id ix ct A n c W0).mono ?_
      rintro _ w1 ⟨rfl, hb⟩
      rw [← EM.out]
      have HB1 := Lib.hid (HB.out.trans (hb.mono HB.out.size))
      have HD1 := Lib.hid (HD.out.below hb (by rw [HS.out]; exact Nat.lt_succ_self _))
      obtain ⟨x0, x1, x2, x3, x4, x5, x6, x7, x8⟩ := nine_of HD1.out
      clear hb
      go_wp2_with (fail)
      refine (putFirst_c st ec ak th has id ix ct A n c bs w1 U1.out U2.out U3.out U4.out U5.out HT.out.1 (HT.out.2.1.below HB1.out) HL.out EM.out.symm).mono ?_
      rintro _ w2 ⟨x, rfl, ho, hb⟩
      have HB2 := Lib.hid (HB1.out.trans (hb.mono HB1.out.size))
      have HO := Lib.hid (Own.low ho HB1.out.size)
      clear hb ho x0 x1 x2 x3 x4 x5 x6 x7 x8
      go_wp2_with (fail)
      go_ret2
      refine ⟨_, rfl, ?_, HB2.out⟩
      rw [R2.out]; exact HO.out
    · have d3 : (v == 1) = false := by rw [beq_eq_false_iff_ne]; exact e1
      have hR := HR.out
      rw [if_neg e1] at hR
      injection hR with r1 r2
      have R1 := Lib.hid r1
      have R2 := Lib.hid r2
      clear r1 r2 HR e1
      obtain ⟨F1, eF1⟩ : ∃ F, F = d1F ⟨st, ec, ak, th, has, ⟨id, ix, ct, bs⟩⟩ := ⟨_, rfl⟩
      obtain ⟨F2, eF2⟩ : ∃ F, F = d2F ⟨st, ec, ak, th, has, ⟨id, ix, ct, bs⟩⟩ := ⟨_, rfl⟩
      obtain ⟨F3, eF3⟩ : ∃ F, F = d3F ⟨st, ec, ak, th, has, ⟨id, ix, ct, bs⟩⟩ := ⟨_, rfl⟩
      obtain ⟨F4, eF4⟩ : ∃ F, F = d4F ⟨st, ec, ak, th, has, ⟨id, ix, ct, bs⟩⟩ := ⟨_, rfl⟩
      obtain ⟨F5, eF5⟩ : ∃ F, F = d5F ⟨st, ec, ak, th, has, ⟨id, ix, ct, bs⟩⟩ := ⟨_, rfl⟩
      have G2 : Hid (F2 = if ec = 65535 then F1 else F1.app (oneF 2 false (numL ec 2))) := Lib.hid (by rw [eF2, eF1]; rfl)
      have G3 : Hid (F3 = if ak = 0 then F2 else F2.app (oneF 3 true (varL ak))) := Lib.hid (by rw [eF3, eF2]; rfl)
      have G4 : Hid (F4 = if th = 0 then F3 else F3.app (oneF 4 true (varL th))) := Lib.hid (by rw [eF4, eF3]; rfl)
      have G5 : Hid (F5 = if has = true then F4.app (.cons 5 true true [] (partF ⟨id, ix, ct, bs⟩) .nil) else F4) := Lib.hid (by rw [eF5, eF4]; rfl)
      have G1 : Hid (F1 = .cons 1 true false (numL st 2) .nil .nil) := Lib.hid (by rw [eF1]; rfl)
      have GL : Hid (F5.len ≤ 5) := Lib.hid (by rw [eF5]; exact d5_len _)
      rw [← eF5] at R1 R2
      clear eF1 eF2 eF3 eF4 eF5
      go_enter Try.func11, Try.ntmps11
      go_wp2_with (fail)
      rw [← EW.out]
      refine (dataMay_c st ec ak th has id ix ct A n c W0).mono ?_
      rintro _ w1 ⟨rfl, hb⟩
      rw [← EM.out]
      rw [HS.out] at hb
      have HK1 := Lib.hid hb
      have HD1 := Lib.hid (HD.out.below hb (Nat.lt_succ_self _))
      clear hb d1 d2
      have s1 : w.heap.size + 1 ≤ w1.heap.size := by have := HK1.out.size; rw [HS.out] at this; exact this
      obtain ⟨x0, x1, x2, x3, x4, x5, x6, x7, x8⟩ := nine_of HD1.out
      have hw1 := u16_64 U1.out
      go_wp2_with (fail)
      clear x0 x1 x2 x3 x4 x5 x6 x7 x8 hw1 d3
      refine (Num_c st 2 w1 U1.out.u64).mono ?_
      rintro _ w2 ⟨v2, rfl, ho2, hb2⟩
      rw [nm2] at ho2
      obtain ⟨A2, c2, rfl, _, _, _, _⟩ := OwnB.form ho2
      rw [numL_length] at ho2 ⊢
      have hit := item_new (w0 := w1) (v := .slice none 0 0) (fun k e => by cases e) ho2 (numL_length _ _) (by decide) 1 true
      have s2 : w.heap.size + 1 ≤ w2.heap.size := Nat.le_trans s1 hb2.size
      obtain ⟨w3, ew3⟩ : ∃ w3, w3 = w2.alloc (.cells #[.int .i64 1, .bool true, .bool false, .slice A2 2 c2, .slice none 0 0] 76) := ⟨_, rfl⟩
      have HQ : Hid (FoQ w3 (w.heap.size + 1) (.slice (some ⟨w2.heap.size, 0, none⟩) 1 1) [⟨1, true, false, A2, 2, c2, none, 0, 0⟩] F1) := Lib.hid (by
        rw [ew3, G1.out]; exact FoQ.lit (ItsR.weak (fun _ _ _ => trivial) _ _ hit) s2 _ rfl)
      have HK2 := Lib.hid (HK1.out.trans (hb2.mono s1))
      have HK3 : Hid (Below (w.heap.size + 1) W0 w3) := Lib.hid (by rw [ew3]; exact HK2.out.alloc s2 _)
      have EW3 := Lib.hid ew3
      have x1 := (HD.out.below HK3.out (Nat.lt_succ_self _)).cell 1 rfl
      rw [ew3] at x1
      clear ew3 hit ho2 hb2 s1
      go_upto_if 33 with (fail)
      rw [← EW3.out]
      clear x1 HK1 HK2 HD1 EW3 s2
      obtain ⟨ds, V6, eV6, HQ, HLn⟩ : ∃ ds V6, V6 = Value.slice (some ⟨w2.heap.size, 0, none⟩) 1 1 ∧ Hid (FoQ w3 (w.heap.size + 1) V6 ds F1) ∧ Hid (ds.length ≤ 1) := ⟨_, _, rfl, HQ, Lib.hid (Nat.le_refl _)⟩
      rw [← eV6]
      clear eV6
      go_cut [6] (fun s6 wx => ∃ ds, Hid (FoQ wx (w.heap.size + 1) s6 ds F2) ∧ Hid (ds.length ≤ 2) ∧ Hid (Below (w.heap.size + 1) W0 wx))
      case first =>
        have s3 : w.heap.size + 1 ≤ w3.heap.size := by have := HK3.out.size; rw [HS.out] at this; exact this
        by_cases hc : ec = 65535
        · have e1 := Lib.hid (show F2 = F1 from by rw [G2.out, if_pos hc])
          have b1 : ((ec : Int) != 65535) = false := by rw [hc]; rfl
          clear hc
          go_wp2_with (fail)
          go_meet
          exact ⟨ds, Lib.hid (by rw [e1.out]; exact HQ.out), Lib.hid (Nat.le_succ_of_le HLn.out), HK3⟩
        · have e1 := Lib.hid (show F2 = F1.app (oneF 2 false (numL ec 2)) from by rw [G2.out, if_neg hc])
          have b1 : ((ec : Int) != 65535) = true := by rw [bne_iff_ne]; omega
          clear hc
          have x1 := (HD.out.below HK3.out (Nat.lt_succ_self _)).cell 1 rfl
          have hw2 := u16_64 U2.out
          go_wp2_with (fail)
          clear x1 hw2
          refine (Num_c ec 2 w3 U2.out.u64).mono ?_
          rintro _ w4 ⟨v4, rfl, ho4, hb4⟩
          rw [nm2] at ho4
          obtain ⟨A4, c4, rfl, _, _, _, _⟩ := OwnB.form ho4
          obtain ⟨m4, em4⟩ : ∃ m, (numL ec 2).length = m := ⟨_, rfl⟩
          rw [em4] at ho4 ⊢
          have hm4 : m4 ≤ 10 := by rw [← em4]; exact (by rw [numL_length]; decide)
          have IT := Lib.hid (item_new (w0 := w3) (fun k e => (HQ.out.row.lt k e).2) ho4 em4 (by omega) 2 false)
          have HQ4 := Lib.hid (HQ.out.frame hb4)
          have s4 : w.heap.size + 1 ≤ w4.heap.size := Nat.le_trans s3 hb4.size
          have HK4 := Lib.hid (HK3.out.trans (hb4.mono s3))
          clear ho4 hb4 em4 hm4
          go_wp2_with (first | (at_builtin; refine wpList_item w4 rfl (.tmp 34) (.tmp 40) rfl (w.heap.size + 1) V6 ds F1 rfl HQ4.out _ ⟨2, false, false, A4, m4, c4, none, 0, 0⟩ rfl rfl _ IT.out (by have := HLn.out; omega) s4 ?_; intro v5 w5 hq5 hb5; have HQ5 := Lib.hid hq5; have HK5 := Lib.hid (HK4.out.trans hb5); clear hq5 hb5))
          go_meet
          exact ⟨_, Lib.hid (by rw [e1.out]; exact HQ5.out), Lib.hid (by rw [List.length_append]; exact Nat.succ_le_succ HLn.out), HK5⟩
      case rest =>
      clear HQ HLn HK3
      obtain ⟨w3, ew3⟩ : ∃ x, x = wc := ⟨_, rfl⟩
      rw [← ew3] at hcut ⊢
      obtain ⟨ds, HQ, HLn, HK3⟩ := hcut
      clear ew3
      have x1 := (HD.out.below HK3.out (Nat.lt_succ_self _)).cell 2 rfl
      go_upto_if 44 with (fail)
      clear x1
      go_cut [6] (fun s6 wx => ∃ ds, Hid (FoQ wx (w.heap.size + 1) s6 ds F3) ∧ Hid (ds.length ≤ 3) ∧ Hid (Below (w.heap.size + 1) W0 wx))
      case first =>
        have s3 : w.heap.size + 1 ≤ w3.heap.size := by have := HK3.out.size; rw [HS.out] at this; exact this
        by_cases hc : ak = 0
        · have e1 := Lib.hid (show F3 = F2 from by rw [G3.out, if_pos hc])
          have b1 : ((ak : Int) != 0) = false := by rw [hc]; rfl
          clear hc
          go_wp2_with (fail)
          go_meet
          exact ⟨ds, Lib.hid (by rw [e1.out]; exact HQ.out), Lib.hid (Nat.le_succ_of_le HLn.out), HK3⟩
        · have e1 := Lib.hid (show F3 = F2.app (oneF 3 true (varL ak)) from by rw [G3.out, if_neg hc])
          have b1 : ((ak : Int) != 0) = true := by rw [bne_iff_ne]; omega
          clear hc
          have x1 := (HD.out.below HK3.out (Nat.lt_succ_self _)).cell 2 rfl
          go_wp2_with (fail)
          clear x1
          refine (Var_c ak w3 U3.out).mono ?_
          rintro _ w4 ⟨v4, rfl, ho4, hb4⟩
          obtain ⟨A4, c4, rfl, _, _, _, _⟩ := OwnB.form ho4
          obtain ⟨m4, em4⟩ : ∃ m, (varL ak).length = m := ⟨_, rfl⟩
          rw [em4] at ho4 ⊢
          have hm4 : m4 ≤ 10 := by rw [← em4]; exact varL_len10 U3.out
          have IT := Lib.hid (item_new (w0 := w3) (fun k e => (HQ.out.row.lt k e).2) ho4 em4 (by omega) 3 true)
          have HQ4 := Lib.hid (HQ.out.frame hb4)
          have s4 : w.heap.size + 1 ≤ w4.heap.size := Nat.le_trans s3 hb4.size
          have HK4 := Lib.hid (HK3.out.trans (hb4.mono s3))
          clear ho4 hb4 em4 hm4
          go_wp2_with (first | (at_builtin; refine wpList_item w4 rfl (.tmp 45) (.tmp 50) rfl (w.heap.size + 1) u6 ds F2 rfl HQ4.out _ ⟨3, true, false, A4, m4, c4, none, 0, 0⟩ rfl rfl _ IT.out (by have := HLn.out; omega) s4 ?_; intro v5 w5 hq5 hb5; have HQ5 := Lib.hid hq5; have HK5 := Lib.hid (HK4.out.trans hb5); clear hq5 hb5))
          go_meet
          exact ⟨_, Lib.hid (by rw [e1.out]; exact HQ5.out), Lib.hid (by rw [List.length_append]; exact Nat.succ_le_succ HLn.out), HK5⟩
      case rest =>
      clear HQ HLn HK3
      obtain ⟨w3, ew3⟩ : ∃ x, x = wc := ⟨_, rfl⟩
      rw [← ew3] at hcut ⊢
      obtain ⟨ds, HQ, HLn, HK3⟩ := hcut
      clear ew3
      have x1 := (HD.out.below HK3.out (Nat.lt_succ_self _)).cell 3 rfl
      go_upto_if 54 with (fail)
      clear x1
      go_cut [6] (fun s6 wx => ∃ ds, Hid (FoQ wx (w.heap.size + 1) s6 ds F4) ∧ Hid (ds.length ≤ 4) ∧ Hid (Below (w.heap.size + 1) W0 wx))
      case first =>
        have s3 : w.heap.size + 1 ≤ w3.heap.size := by have := HK3.out.size; rw [HS.out] at this; exact this
        by_cases hc : th = 0
        · have e1 := Lib.hid (show F4 = F3 from by rw [G4.out, if_pos hc])
          have b1 : ((th : Int) != 0) = false := by rw [hc]; rfl
          clear hc
          go_wp2_with (fail)
          go_meet
          exact ⟨ds, Lib.hid (by rw [e1.out]; exact HQ.out), Lib.hid (Nat.le_succ_of_le HLn.out), HK3⟩
        · have e1 := Lib.hid (show F4 = F3.app (oneF 4 true (varL th)) from by rw [G4.out, if_neg hc])
          have b1 : ((th : Int) != 0) = true := by rw [bne_iff_ne]; omega
          clear hc
          have x1 := (HD.out.below HK3.out (Nat.lt_succ_self _)).cell 3 rfl
          go_wp2_with (fail)
          clear x1
          refine (Var_c th w3 U4.out).mono ?_
          rintro _ w4 ⟨v4, rfl, ho4, hb4⟩
          obtain ⟨A4, c4, rfl, _, _, _, _⟩ := OwnB.form ho4
          obtain ⟨m4, em4⟩ : ∃ m, (varL th).length = m := ⟨_, rfl⟩
          rw [em4] at ho4 ⊢
          have hm4 : m4 ≤ 10 := by rw [← em4]; exact varL_len10 U4.out
          have IT := Lib.hid (item_new (w0 := w3) (fun k e => (HQ.out.row.lt k e).2) ho4 em4 (by omega) 4 true)
          have HQ4 := Lib.hid (HQ.out.frame hb4)
          have s4 : w.heap.size + 1 ≤ w4.heap.size := Nat.le_trans s3 hb4.size
          have HK4 := Lib.hid (HK3.out.trans (hb4.mono s3))
          clear ho4 hb4 em4 hm4
          go_wp2_with (first | (at_builtin; refine wpList_item w4 rfl (.tmp 55) (.tmp 60) rfl (w.heap.size + 1) u6 ds F3 rfl HQ4.out _ ⟨4, true, false, A4, m4, c4, none, 0, 0⟩ rfl rfl _ IT.out (by have := HLn.out; omega) s4 ?_; intro v5 w5 hq5 hb5; have HQ5 := Lib.hid hq5; have HK5 := Lib.hid (HK4.out.trans hb5); clear hq5 hb5))
          go_meet
          exact ⟨_, Lib.hid (by rw [e1.out]; exact HQ5.out), Lib.hid (by rw [List.length_append]; exact Nat.succ_le_succ HLn.out), HK5⟩
      case rest =>
      clear HQ HLn HK3
      obtain ⟨w3, ew3⟩ : ∃ x, x = wc := ⟨_, rfl⟩
      rw [← ew3] at hcut ⊢
      obtain ⟨ds, HQ, HLn, HK3⟩ := hcut
      clear ew3
      have x4 := (HD.out.below HK3.out (Nat.lt_succ_self _)).cell 4 rfl
      have s3 : w.heap.size + 1 ≤ w3.heap.size := by have := HK3.out.size; rw [HS.out] at this; exact this
      cases has with
      | false =>
        have e5 : F5 = F4 := by rw [G5.out, if_neg (by decide)]
        obtain ⟨A6, c6, rfl, _, _, r6⟩ := HQ.out.form (n := F4.len) rfl
        have R6 := Lib.hid r6
        have hg : F5.len = F4.len := by rw [e5]
        have HG := Lib.hid hg
        have E5 := Lib.hid e5
        clear r6 hg e5
        go_wp2_with (fail)
        clear x4
        refine (EncodeT_c F5 (fun _ => True) A6 F4.len c6 w3 HG.out (by rw [E5.out]; exact R6.out) (by have := GL.out; have := HG.out; omega)).mono ?_
        rintro _ w7 ⟨x, rfl, ho, hb⟩
        rw [← R1.out]
        rw [← R2.out] at ho
        have HO := Lib.hid (Own.low ho (Nat.le_trans (Nat.le_succ _) s3))
        have HB7 := Lib.hid ((HB.out.trans (HK3.out.mono (Nat.le_succ _))).trans (hb.mono (Nat.le_trans (Nat.le_succ _) s3)))
        clear ho hb
        go_wp2_with (fail)
        go_ret2
        exact ⟨_, rfl, HO.out, HB7.out⟩
      | true =>
        obtain ⟨q0, q1, q2, q3, -⟩ : partP ix ct n := of_decide_eq_true EM.out.symm
        obtain ⟨X, rfl⟩ : ∃ X : Nat, ix = (X : Int) := ⟨ix.toNat, by omega⟩
        obtain ⟨Y, rfl⟩ : ∃ Y : Nat, ct = (Y : Int) := ⟨ct.toNat, by omega⟩
        have hX : X < 256 := by omega
        have hY : Y < 256 := by omega
        have hw5 := u32w U5.out
        have hwx := u64w hX
        have hwy := u64w hY
        have VI : Hid (U64 id) := Lib.hid (by have := U5.out; unfold U64; omega)
        have VX : Hid (U64 X) := Lib.hid (by unfold U64; omega)
        have VY : Hid (U64 Y) := Lib.hid (by unfold U64; omega)
        have E5 : Hid (F5 = F4.app (.cons 5 true true [] (partF ⟨id, X, Y, bs⟩) .nil)) := Lib.hid (by rw [G5.out, if_pos rfl])
        have HV : Hid (∀ k, u6.ownBlock = some k → w.heap.size + 1 ≤ k ∧ k < w3.heap.size) := Lib.hid (fun k e => HQ.out.row.lt k e)
        clear q0 q1 q2 q3 hX hY
        have x5 := (HD.out.below HK3.out (Nat.lt_succ_self _)).cell 5 rfl
        have x6 := (HD.out.below HK3.out (Nat.lt_succ_self _)).cell 6 rfl
        have x7 := (HD.out.below HK3.out (Nat.lt_succ_self _)).cell 7 rfl
        have x8 := (HD.out.below HK3.out (Nat.lt_succ_self _)).cell 8 rfl
        go_wp2_with (fail)
        clear x4
        go_region_held3 (fun w' => w'.cell? ⟨w.heap.size, 5, none⟩ = some (.int .u32 (id : Int)) ∧ w'.cell? ⟨w.heap.size, 6, none⟩ = some (.int .i64 (X : Int)) ∧ w'.cell? ⟨w.heap.size, 7, none⟩ = some (.int .i64 (Y : Int)) ∧ w'.cell? ⟨w.heap.size, 8, none⟩ = some (.slice A n c)) (first | exact ⟨x5, x6, x7, x8⟩ | (with_reducible assumption) | exact keep4 (by with_reducible assumption) (by with_reducible assumption) | exact keep4 (by with_reducible assumption) ((Below.refl _ _).alloc (by with_reducible assumption) _)) (first
          | (go_at_call 35; (with_reducible refine (Var_c id _ VI.out).mono ?_); rintro _ w4 ⟨v4, rfl, ho4, hb4⟩; obtain ⟨A4, c4, rfl, _, _, _, _⟩ := OwnB.form ho4; have I4 := Lib.hid (item_new (w0 := w3) (v := u6) (fun k e => (HV.out k e).2) ho4 rfl (by have := varL_len10 VI.out; omega) 1 true); have hk4 : Below (w.heap.size + 1) _ w4 := hb4.mono s3; have N4 : Hid (Below w3.heap.size w3 w4) := Lib.hid ((below_drewN (Below.refl _ _) 1).trans hb4); have s4 : w.heap.size + 1 ≤ w4.heap.size := Nat.le_trans s3 N4.out.size; clear ho4 hb4)
          | (go_at_call 35; (with_reducible refine (Var_c X _ VX.out).mono ?_); rintro _ w5 ⟨v5, rfl, ho5, hb5⟩; obtain ⟨A5, c5, rfl, _, _, _, _⟩ := OwnB.form ho5; have I5 := Lib.hid (item_new (w0 := w4) (v := u6) (fun k e => Nat.lt_of_lt_of_le (HV.out k e).2 N4.out.size) ho5 rfl (by have := varL_len10 VX.out; omega) 2 true); have hk5 : Below (w.heap.size + 1) _ w5 := hb5.mono s4; have N5 := Lib.hid hb5; have s5 : w.heap.size + 1 ≤ w5.heap.size := Nat.le_trans s4 N5.out.size; clear ho5 hb5)
          | (go_at_call 35; (with_reducible refine (Var_c Y _ VY.out).mono ?_); rintro _ w6 ⟨v6, rfl, ho6, hb6⟩; obtain ⟨A6, c6, rfl, _, _, _, _⟩ := OwnB.form ho6; have I6 := Lib.hid (item_new (w0 := w5) (v := u6) (fun k e => Nat.lt_of_lt_of_le (HV.out k e).2 (Nat.le_trans N4.out.size N5.out.size)) ho6 rfl (by have := varL_len10 VY.out; omega) 3 true); have hk6 : Below (w.heap.size + 1) _ w6 := hb6.mono s5; have N6 := Lib.hid hb6; have s6 : w.heap.size + 1 ≤ w6.heap.size := Nat.le_trans s5 N6.out.size; clear ho6 hb6))
        have B46 : Hid (Below w4.heap.size w4 w6) := Lib.hid (N5.out.trans (N6.out.mono N5.out.size))
        have B36 : Hid (Below w3.heap.size w3 w6) := Lib.hid (N4.out.trans (B46.out.mono N4.out.size))
        have B06 : Hid (Below w.heap.size w w6) := Lib.hid ((HB.out.trans (HK3.out.mono (Nat.le_succ _))).trans (B36.out.mono (Nat.le_trans (Nat.le_succ _) s3)))
        have T6 : TxtR (fun j => u6.ownBlock ≠ some j) w6 A n c bs := TxtR.weak (TxtR.frame HT.out (fun k hk _ => B06.out.block k hk) B06.out.size) (fun k (hk : k < w.heap.size) _ e => by have := (HV.out k e).1; omega)
        have i4 := ItsR.frame (fun j _ hj => B46.out.block j hj) B46.out.size _ _ I4.out
        have i5 := ItsR.frame (fun j _ hj => N6.out.block j hj) N6.out.size _ _ I5.out
        have IT := Lib.hid (part_item (w := w6) (g := u6.ownBlock) (fun k e => Nat.lt_of_lt_of_le (HV.out k e).2 B36.out.size) (four_items i4 i5 I6.out (item_old T6 4 true)) rfl #[.int .i64 1, .bool true, .bool false, .slice A4 (varL id).length c4, .slice none 0 0, .int .i64 2, .bool true, .bool false, .slice A5 (varL X).length c5, .slice none 0 0, .int .i64 3, .bool true, .bool false, .slice A6 (varL Y).length c6, .slice none 0 0, .int .i64 4, .bool true, .bool false, .slice A n c, .slice none 0 0] rfl)
        obtain ⟨w7, ew7⟩ : ∃ w7, w7 = w6.alloc (.cells #[.int .i64 1, .bool true, .bool false, .slice A4 (varL id).length c4, .slice none 0 0, .int .i64 2, .bool true, .bool false, .slice A5 (varL X).length c5, .slice none 0 0, .int .i64 3, .bool true, .bool false, .slice A6 (varL Y).length c6, .slice none 0 0, .int .i64 4, .bool true, .bool false, .slice A n c, .slice none 0 0] 76) := ⟨_, rfl⟩
        rw [← ew7] at IT ⊢
        have B37 : Hid (Below w3.heap.size w3 w7) := Lib.hid (by rw [ew7]; exact B36.out.alloc B36.out.size _)
        have HQ7 := Lib.hid (HQ.out.frame B37.out)
        have s7 : w.heap.size + 1 ≤ w7.heap.size := Nat.le_trans s3 B37.out.size
        clear ew7 T6 i4 i5 I4 I5 I6 N4 N5 N6 s4 s5 s6 B46 B36 B06 hk4 hk5 hk6 x5 x6 x7 x8 hw5 hwx hwy
        go_wp2_with (first | (at_builtin; refine wpList_item w7 rfl (.tmp 87) (.tmp 90) rfl (w.heap.size + 1) u6 ds F4 rfl HQ7.out _ ⟨5, true, true, none, 0, 0, some ⟨w6.heap.size, 0, none⟩, 4, 4⟩ rfl rfl _ IT.out (by have := HLn.out; omega) s7 ?_; intro v8 w8 hq8 hb8; obtain ⟨A9, c9, rfl, _, _, r9⟩ := hq8.form (n := F5.len) (by rw [E5.out]; rfl); have R9 := Lib.hid r9; have B8 := Lib.hid hb8; have s8 : w.heap.size + 1 ≤ w8.heap.size := Nat.le_trans s7 hb8.size; clear hq8 hb8 r9))
        refine (EncodeT_c F5 (fun _ => True) A9 F5.len c9 w8 rfl (by rw [E5.out]; exact R9.out) (by have := GL.out; omega)).mono ?_
        rintro _ w9 ⟨x, rfl, ho, hb⟩
        rw [← R1.out]
        rw [← R2.out] at ho
        have HO := Lib.hid (Own.low ho (Nat.le_trans (Nat.le_succ _) s8))
        have HB9 := Lib.hid (((HB.out.trans (HK3.out.mono (Nat.le_succ _))).trans (B37.out.mono (Nat.le_trans (Nat.le_succ _) s3))).trans ((B8.out.mono (Nat.le_succ _)).trans (hb.mono (Nat.le_trans (Nat.le_succ _) s8))))
        clear ho hb
        go_wp2_with (fail)
        go_ret2
        exact ⟨_, rfl, HO.out, HB9.out⟩
end Go.Proofs.Ytcffinkkfdfcaaa

/- What the reference's item and PutData answer. Conditions: data of its kinds; texts that can be read. -/
namespace Go.Proofs.Ytcffinkkfdfcaaa
open Go Go.RowKit

set_option maxRecDepth 100000 in
set_option maxHeartbeats 1000000 in
theorem item21_c (k : Int) (A : Option Addr) (n c : Nat) (w : World) :
    Calls Try.prog 38 #[.int .i64 k, .slice A n c] w fun r w' => r = .returned (.agg #[.int .i64 k, .bool true, .bool false, .slice A n c, .slice none 0 0]) ∧ Below w.heap.size w w' := by
  go_enter Try.func38, Try.ntmps38
  go_wp2
  have g := heap_alloc_new w (.cells #[.int .i64 k, .bool true, .bool false, .slice A n c, .slice none 0 0] 76)
  obtain ⟨⟨v0, v1, v2, v3, v4⟩, -⟩ := five_of (d := ⟨k, true, false, A, n, c, none, 0, 0⟩) g
  have kb : Below w.heap.size w (w.alloc (.cells #[.int .i64 k, .bool true, .bool false, .slice A n c, .slice none 0 0] 76)) := (Below.refl _ _).alloc (Nat.le_refl _) _
  refine bodyPost_ret (v := .agg #[.int .i64 k, .bool true, .bool false, .slice A n c, .slice none 0 0]) (by simp [results, Try.results38, go_sem, v0, v1, v2, v3, v4]) rfl ?_
  exact ⟨rfl, kb⟩
end Go.Proofs.Ytcffinkkfdfcaaa

/- What the reference lays of data in the first version. Conditions: data of its kinds that may be; texts that can be read. -/
namespace Go.Proofs.Ytcffinkkfdfcaaa
open Go Go.RowKit

theorem keepQ {g B : Nat} {u v x y : Value} {a b : World} (hg : g < B) (h : a.cell? ⟨g, 0, none⟩ = some u ∧ a.cell? ⟨g, 1, none⟩ = some v ∧ a.cell? ⟨g, 2, none⟩ = some x ∧ a.cell? ⟨g, 3, none⟩ = some y) (hb : Below B a b) : b.cell? ⟨g, 0, none⟩ = some u ∧ b.cell? ⟨g, 1, none⟩ = some v ∧ b.cell? ⟨g, 2, none⟩ = some x ∧ b.cell? ⟨g, 3, none⟩ = some y :=
  ⟨(hb.cell (p := ⟨g, 0, none⟩) hg).trans h.1, (hb.cell (p := ⟨g, 1, none⟩) hg).trans h.2.1, (hb.cell (p := ⟨g, 2, none⟩) hg).trans h.2.2.1, (hb.cell (p := ⟨g, 3, none⟩) hg).trans h.2.2.2⟩
theorem rd_two {x y : UInt8} {a b : Int} (w : World) (ha : Value.int .u8 a = bv x) (hb : Value.int .u8 b = bv y) : Rd (w.alloc (.cells #[.int .u8 a, .int .u8 b] 5)) (some ⟨w.heap.size, 0, none⟩) ([x, y].map bv) := by
  rw [ha, hb]; exact Rd.lit w [bv x, bv y] _
/-- 'append(l, item)' of one item, laid in a new block, as a step of a region that draws. -/
theorem step_item {ops : Array Oper} {o : Oper} {a : Act} {K : Act → World → Prop} {Q : Exit → Act → World → Prop} {E : Prop} (w : World) (hgd : o.guard = none) (s x : Operand)
    (ho : o.op = .call { callee := .builtin .append, args := #[s, x], argTypes := #[74, 74] })
    (B : Nat) (v : Value) (ds : List ItV) (f : Fo) (hs : a.eval s = v) (hq : FoQ w B v ds f) (X : Array Value) (d : ItV) (hX : X = d.cells.toArray) (k : Nat) (hk : k = w.heap.size) (hx : a.eval x = .slice (some ⟨k, 0, none⟩) 1 1)
    (R : Fo) (hd : ItsR (fun j => v.ownBlock ≠ some j) w [d] R) (hlen : ds.length ≤ 1000) (hB : B ≤ w.heap.size)
    (h : ∀ v' w', Hid (FoQ w' B v' (ds ++ [d]) (f.app R)) → Below B w w' → Below B (w.alloc (.cells X 76)) w' → K (a.put o.dst v') w') :
    if Region.wanted o (yielded ops a.tmps) = true then Oper.wp Try.prog o a (w.alloc (.cells X 76)) K Q else E := by
  subst hX hk
  rw [if_pos (wanted_none hgd)]
  have hb := (Below.refl w.heap.size w).alloc (Nat.le_refl _) (.cells d.cells.toArray 76)
  obtain ⟨i0, hi, hz0, hz1, hz2⟩ := info_parts info_it
  obtain ⟨v', w', hrun, h2, h3, h4⟩ := run_appN (P := Try.prog) (w.alloc (.cells d.cells.toArray 76)) B 74 o.type 76 i0 _ 5 64 Try.underlying74 hi hz0 hz1 hz2 rfl (by decide) v ds.length (cellsI ds) (hq.row.frame (fun g e => hb.block g (hq.row.lt g e).2)) (some ⟨w.heap.size, 0, none⟩) 1 1 (cellsI [d]) (by rw [cellsI_length]; rfl) (rd_item w d) (cellsI_one _) (by unfold maxLen; omega) (by omega) (Nat.le_trans hB hb.size)
  unfold Oper.wp execOp
  simp only [ho, resolve, invoke, builtin, Sem.run_bind, Sem.run_pure, Result.andThen_ok, List.map_toArray, List.map_cons, List.map_nil, hs, hx, hrun]
  refine h v' w' (Lib.hid (hq.more hd ?_ h3 (by simpa using h4))) (((Below.refl B w).alloc hB _).grown h3 (Nat.le_trans hB hb.size) (fun q e => (hq.row.lt q e).1)) ((Below.refl B _).grown h3 (Nat.le_trans hB hb.size) (fun q e => (hq.row.lt q e).1))
  unfold OwnI
  rw [cellsI_append, List.length_append]
  exact h2
theorem keep01 {g B : Nat} {u v : Value} {a b : World} (hg : g < B) (h : a.cell? ⟨g, 0, none⟩ = some u ∧ a.cell? ⟨g, 1, none⟩ = some v) (hb : Below B a b) : b.cell? ⟨g, 0, none⟩ = some u ∧ b.cell? ⟨g, 1, none⟩ = some v :=
  ⟨(hb.cell (p := ⟨g, 0, none⟩) hg).trans h.1, (hb.cell (p := ⟨g, 1, none⟩) hg).trans h.2⟩
theorem four_at {w : World} {g : Nat} {a0 a1 a2 a3 : Value} {t : TypeId} (h : w.heap[g]? = some (.cells #[a0, a1, a2, a3] t (0, 0))) : w.cell? ⟨g, 0, none⟩ = some a0 ∧ w.cell? ⟨g, 1, none⟩ = some a1 ∧ w.cell? ⟨g, 2, none⟩ = some a2 ∧ w.cell? ⟨g, 3, none⟩ = some a3 :=
  ⟨by rw [heap_cell h]; rfl, by rw [heap_cell h]; rfl, by rw [heap_cell h]; rfl, by rw [heap_cell h]; rfl⟩
set_option maxRecDepth 100000 in
set_option maxHeartbeats 8000000 in
theorem refPut_one (st ec ak th : Nat) (has : Bool) (id : Nat) (ix ct : Int) (A : Option Addr) (n c : Nat) (bs : List UInt8) (w : World) (h1 : U16 st) (h2 : U16 ec) (h3 : U64 ak) (h4 : U64 th) (h5 : id < 4294967296) (ht : TxtR (· < w.heap.size) w A n c bs) (hl : n ≤ 140737488351232) (hm : dataB has id ix ct n = true) :
    Calls Try.prog 12 #[.int .i64 1, .agg #[.int .u16 (st : Int), .int .u16 (ec : Int), .int .u64 (ak : Int), .int .u64 (th : Int), .bool has, .int .u32 (id : Int), .int .i64 ix, .int .i64 ct, .slice A n c]] w fun r w' => ∃ x, r = .returned (.tuple #[x, .int .i64 0]) ∧ OwnB w' w.heap.size x (firstL ⟨st, ec, ak, th, has, ⟨id, ix, ct, bs⟩⟩) ∧ Below w.heap.size w w' := by
  have HT := Lib.hid ht
  have HL := Lib.hid hl
  have U1 := Lib.hid h1
  have U2 := Lib.hid h2
  have U3 := Lib.hid h3
  have U4 := Lib.hid h4
  have U5 := Lib.hid h5
  have EM := Lib.hid hm.symm
  clear ht hl h1 h2 h3 h4 h5 hm
  obtain ⟨W0, eW⟩ : ∃ W0, W0 = w.alloc (.cells #[.int .u16 (st : Int), .int .u16 (ec : Int), .int .u64 (ak : Int), .int .u64 (th : Int), .bool has, .int .u32 (id : Int), .int .i64 ix, .int .i64 ct, .slice A n c] 29) := ⟨_, rfl⟩
  have HD : Hid (D9 W0 w.heap.size #[.int .u16 (st : Int), .int .u16 (ec : Int), .int .u64 (ak : Int), .int .u64 (th : Int), .bool has, .int .u32 (id : Int), .int .i64 ix, .int .i64 ct, .slice A n c]) := Lib.hid (by rw [eW]; exact heap_alloc_new w _)
  have HB : Hid (Below w.heap.size w W0) := Lib.hid (by rw [eW]; exact (Below.refl _ _).alloc (Nat.le_refl _) _)
  have HS : Hid (W0.heap.size = w.heap.size + 1) := Lib.hid (by rw [eW]; simp)
  have EW := Lib.hid eW; clear eW
  obtain ⟨L, eL⟩ : ∃ L, L = firstL ⟨st, ec, ak, th, has, ⟨id, ix, ct, bs⟩⟩ := ⟨_, rfl⟩
  rw [← eL]
  have EL := Lib.hid eL
  clear eL
  go_enter Try.func12, Try.ntmps12
  go_wp2_with (fail)
  rw [← EW.out]
  refine (dataMay21_c st ec ak th has id ix ct A n c bs W0 HT.out.1 (HT.out.2.1.below HB.out) (by have := HL.out; unfold maxLen; omega)).mono ?_
  rintro _ w1 ⟨rfl, hb⟩
  rw [← EM.out]
  obtain ⟨gp, egp⟩ : ∃ gp, gp = w1.heap.size := ⟨_, rfl⟩
  obtain ⟨W1, eW1⟩ : ∃ W1, W1 = w1.alloc (.cells #[.int .u32 (id : Int), .int .i64 ix, .int .i64 ct, .slice A n c] 27) := ⟨_, rfl⟩
  have hgs := hb.size
  rw [HS.out] at hgs hb
  obtain ⟨Bq, eBq⟩ : ∃ Bq, Bq = gp + 1 := ⟨_, rfl⟩
  have hgB : w.heap.size < Bq := by omega
  have hgB' : w.heap.size ≤ Bq := by omega
  have HSq : Hid (W1.heap.size = Bq) := Lib.hid (by rw [eW1, eBq, egp]; simp)
  have HBq : Hid (Below w.heap.size w W1) := Lib.hid (by rw [eW1]; exact (HB.out.trans (hb.mono (Nat.le_succ _))).alloc (by omega) _)
  have HDq : Hid (D9 W1 w.heap.size #[.int .u16 (st : Int), .int .u16 (ec : Int), .int .u64 (ak : Int), .int .u64 (th : Int), .bool has, .int .u32 (id : Int), .int .i64 ix, .int .i64 ct, .slice A n c]) := Lib.hid (by rw [eW1]; exact at_old (HD.out.below hb (Nat.lt_succ_self _)))
  have HPq : Hid (W1.heap[gp]? = some (.cells #[.int .u32 (id : Int), .int .i64 ix, .int .i64 ct, .slice A n c] 27 (0, 0))) := Lib.hid (by rw [eW1]; exact at_new egp)
  have hgp : gp < Bq := by omega
  have EW1 := Lib.hid eW1
  have EGP := Lib.hid egp
  have HD1 := Lib.hid (HD.out.below hb (Nat.lt_succ_self _))
  clear hb egp eBq hgs eW1
  obtain ⟨y0, y1, y2, y3, y4, y5, y6, y7, y8⟩ := nine_of (HDq.out)
  obtain ⟨x0, x1, x2, x3, x4, x5, x6, x7, x8⟩ := nine_of HD1.out
  clear y0 y1 y2 y3 y4 y5 y6 y7 y8
  have z0 := (HDq.out.cell 0 rfl)
  have z1 := (HDq.out.cell 1 rfl)
  have hw1 := u16_64 U1.out
  have hw2 := u16_64 U2.out
  have s1 : Bq ≤ W1.heap.size := by rw [HSq.out]; exact Nat.le_refl _
  go_upto_region 5 with (fail)
  rw [← EW1.out, ← EGP.out]
  clear x0 x1 x2 x3 x4 x5 x6 x7 x8
  go_region_held3 (fun w' => w'.cell? ⟨w.heap.size, 0, none⟩ = some (.int .u16 (st : Int)) ∧ w'.cell? ⟨w.heap.size, 1, none⟩ = some (.int .u16 (ec : Int))) (first | exact ⟨z0, z1⟩ | (with_reducible assumption) | exact keep01 hgB (by with_reducible assumption) (by with_reducible assumption)) (first
    | (go_at_call 37; (with_reducible refine (refNum_c st 2 _ U1.out.u64).mono ?_); rintro _ w2 ⟨v2, rfl, ho2, hb2⟩; rw [nm2] at ho2; have HO2 : Hid (OwnB w2 Bq v2 (numL st 2)) := Lib.hid (Own.low ho2 s1); have hk2 : Below Bq _ w2 := hb2.mono s1; have HK2 : Hid (Below Bq W1 w2) := Lib.hid ((below_drewN (Below.refl _ _) 1).trans hk2); have s2 : Bq ≤ w2.heap.size := Nat.le_trans s1 hb2.size; clear ho2 hb2)
    | (go_at_call 37; (with_reducible refine (refNum_c ec 2 _ U2.out.u64).mono ?_); rintro _ w3 ⟨v3, rfl, ho3, hb3⟩; rw [nm2] at ho3; obtain ⟨A3, c3, rfl, _, _, r3, _⟩ := OwnB.form ho3; rw [numL_length]; have R3 := Lib.hid r3; have HO3 : Hid (OwnB w3 Bq v2 (numL st 2)) := Lib.hid (Own.below HO2.out hb3); have hk3 : Below Bq _ w3 := hb3.mono s2; have HK3 := Lib.hid (HK2.out.trans hk3); have s3 : Bq ≤ w3.heap.size := Nat.le_trans s2 hb3.size; clear ho3 hb3 r3)
    | ((with_reducible refine step_apB rfl (.tmp 27) (.tmp 31) rfl Bq v2 (numL st 2) rfl HO3.out A3 2 c3 (numL ec 2) rfl (numL_length _ _) R3.out (by rw [numL_length]; omega) s3 ?_); intro v4 w4 HO4 hk4 hg4; have HK4 := Lib.hid (HK3.out.trans hk4); have s4 : Bq ≤ w4.heap.size := Nat.le_trans s3 hk4.size))
  have HO4' : Hid (OwnB w4 Bq v4 (numL st 2 ++ numL ec 2)) := Lib.hid HO4.out
  clear z0 z1 hw1 hw2 HO2 HO3 HO4 HK2 HK3 R3 hk2 hk3 hk4 hg4 s2 s3
  have x2 := (HDq.out.below HK4.out hgB).cell 2 rfl
  obtain ⟨P4, eP4⟩ : ∃ P, P = numL st 2 ++ numL ec 2 := ⟨_, rfl⟩
  have hP4 : P4.length = 4 := by rw [eP4]; simp [numL_length]
  rw [← eP4] at HO4'
  have EP4 := Lib.hid eP4
  have LP4 := Lib.hid hP4
  clear eP4 hP4
  go_wp2_with (fail)
  clear x2
  refine (refNum_c ak 8 w4 U3.out).mono ?_
  rintro _ w5 ⟨v5, rfl, ho5, hb5⟩
  rw [nm8] at ho5
  obtain ⟨A5, c5, rfl, _, _, r5, _⟩ := OwnB.form ho5
  rw [numL_length]
  have R5 := Lib.hid r5
  have HO5 : Hid (OwnB w5 Bq v4 P4) := Lib.hid (Own.below HO4'.out hb5)
  have HK5 := Lib.hid (HK4.out.trans (hb5.mono s4))
  have s5 : Bq ≤ w5.heap.size := Nat.le_trans s4 hb5.size
  clear r5 ho5 hb5 HO4' HK4 s4
  have HX : Hid (∀ w', Below Bq w5 w' → w'.cell? ⟨w.heap.size, 3, none⟩ = some (.int .u64 (th : Int))) := Lib.hid (fun w' h => (HDq.out.below (HK5.out.trans h) hgB).cell 3 rfl)
  go_wp2_with (first | (at_builtin; refine wpList_appB _ rfl (.tmp 33) (.tmp 36) rfl Bq _ P4 rfl HO5.out A5 8 c5 (numL ak 8) rfl (numL_length _ _) R5.out (by have := LP4.out; omega) s5 ?_; intro v6 w6 h6 hg6 _; have HO6 := Lib.hid h6; have hk6 := (Below.refl Bq w5).grown hg6 s5 (fun q e => (Own.lt HO5.out q e).1); have x3 := HX.out w6 hk6; have HK6 := Lib.hid (HK5.out.trans hk6); have s6 : Bq ≤ w6.heap.size := Nat.le_trans s5 hk6.size; clear h6 hg6 hk6))
  clear x3 HX
  refine (refNum_c th 8 w6 U4.out).mono ?_
  rintro _ w7 ⟨v7, rfl, ho7, hb7⟩
  rw [nm8] at ho7
  obtain ⟨A7, c7, rfl, _, _, r7, _⟩ := OwnB.form ho7
  rw [numL_length]
  have R7 := Lib.hid r7
  have HO7 : Hid (OwnB w7 Bq v6 (P4 ++ numL ak 8)) := Lib.hid (Own.below HO6.out hb7)
  have HK7 := Lib.hid (HK6.out.trans (hb7.mono s6))
  have s7 : Bq ≤ w7.heap.size := Nat.le_trans s6 hb7.size
  clear r7 ho7 hb7 HO6 HK6 s6 HO5 HK5 R5 s5
  have HX : Hid (∀ w', Below Bq w7 w' → w'.cell? ⟨w.heap.size, 4, none⟩ = some (.bool has)) := Lib.hid (fun w' h => (HDq.out.below (HK7.out.trans h) hgB).cell 4 rfl)
  go_upto_if 45 with (first | (at_builtin; refine wpList_appB _ rfl (.tmp 38) (.tmp 41) rfl Bq _ _ rfl HO7.out A7 8 c7 (numL th 8) rfl (numL_length _ _) R7.out (by have := LP4.out; simp [numL_length]; omega) s7 ?_; intro v8 w8 h8 hg8 _; have HO8 := Lib.hid h8; have hk8 := (Below.refl Bq w7).grown hg8 s7 (fun q e => (Own.lt HO7.out q e).1); have x4 := HX.out w8 hk8; have HK8 := Lib.hid (HK7.out.trans hk8); have s8 : Bq ≤ w8.heap.size := Nat.le_trans s7 hk8.size; clear h8 hg8 hk8))
  clear HX
  obtain ⟨P, eP⟩ : ∃ P, P = P4 ++ numL ak 8 ++ numL th 8 := ⟨_, rfl⟩
  have hP : P.length = 20 := by rw [eP]; simp [numL_length, LP4.out]
  have HO8' : Hid (OwnB w8 Bq v8 P) := Lib.hid (by rw [eP]; exact HO8.out)
  have EP : Hid (P = headD ⟨st, ec, ak, th, has, ⟨id, ix, ct, bs⟩⟩) := Lib.hid (by rw [eP, EP4.out]; rfl)
  have LP := Lib.hid hP
  clear eP hP HO8 HO7 HK7 R7 s7
  have HB8 := Lib.hid (HBq.out.trans (HK8.out.mono hgB'))
  cases has with
  | false =>
    go_wp2_with (first | (at_builtin; refine wpList_appB1 _ rfl (.tmp 46) (.tmp 47) rfl Bq _ _ rfl HO8'.out _ rfl 0 rfl (by have := LP.out; omega) s8 ?_; intro v9 w9 h9 hg9 _; have HO9 := Lib.hid h9; have al := (Below.refl Bq w8).alloc s8 (.cells #[.int .u8 0] 5); have HK9 := Lib.hid (al.grown hg9 (Nat.le_trans s8 al.size) (fun q e => (Own.lt HO8'.out q e).1)); clear h9 hg9 al))
    go_ret2
    refine ⟨_, rfl, ?_, HB8.out.trans (HK9.out.mono hgB')⟩
    have e : L = P ++ [0] := by rw [EL.out, EP.out]; rfl
    rw [e]
    exact Own.low HO9.out hgB'
  | true =>
    obtain ⟨q0, q1, q2, q3, -⟩ : partP ix ct n := of_decide_eq_true EM.out.symm
    obtain ⟨X, rfl⟩ : ∃ X : Nat, ix = (X : Int) := ⟨ix.toNat, by omega⟩
    obtain ⟨Y, rfl⟩ : ∃ Y : Nat, ct = (Y : Int) := ⟨ct.toNat, by omega⟩
    have hX : X < 256 := by omega
    have hY : Y < 256 := by omega
    have HWX := Lib.hid (u8w hX)
    have HWY := Lib.hid (u8w hY)
    have HLX := Lib.hid (lo_bw hX)
    have HLY := Lib.hid (lo_bw hY)
    clear q0 q1 q2 q3 hX hY
    have hu5 : U64 id := by have := U5.out; unfold U64; omega
    have HU5 := Lib.hid hu5
    have HW5 := Lib.hid (u32w U5.out)
    clear hu5
    have HX : Hid (∀ w', Below Bq w8 w' → w'.cell? ⟨gp, 0, none⟩ = some (.int .u32 (id : Int)) ∧ w'.cell? ⟨gp, 1, none⟩ = some (.int .i64 (X : Int)) ∧ w'.cell? ⟨gp, 2, none⟩ = some (.int .i64 (Y : Int)) ∧ w'.cell? ⟨gp, 3, none⟩ = some (.slice A n c)) := Lib.hid (fun w' h => keepQ hgp (four_at HPq.out) (HK8.out.trans h))
    go_wp2_with (first | (at_builtin; refine wpList_appB1 _ rfl (.tmp 49) (.tmp 50) rfl Bq _ _ rfl HO8'.out _ rfl 1 rfl (by have := LP.out; omega) s8 ?_; intro v9 w9 h9 hg9 _; have HO9 := Lib.hid h9; have al := (Below.refl Bq w8).alloc s8 (.cells #[.int .u8 1] 5); have hk9 := al.grown hg9 (Nat.le_trans s8 al.size) (fun q e => (Own.lt HO8'.out q e).1); obtain ⟨c0, c1, c2, c3⟩ := HX.out w9 hk9; have K9 := Lib.hid hk9; have hw5 := HW5.out; have s9 : Bq ≤ w9.heap.size := Nat.le_trans s8 hk9.size; clear h9 hg9 al hk9))
    clear c0 c1 c2 c3 x4 hw5
    refine (refNum_c id 4 w9 HU5.out).mono ?_
    rintro _ w10 ⟨v10, rfl, ho10, hb10⟩
    rw [nm4] at ho10
    obtain ⟨A10, c10, rfl, _, _, r10, _⟩ := OwnB.form ho10
    rw [numL_length]
    have R10 := Lib.hid r10
    have HO10 : Hid (OwnB w10 Bq v9 (P ++ [1])) := Lib.hid (Own.below HO9.out hb10)
    have K10 := Lib.hid (K9.out.trans (hb10.mono s9))
    have s10 : Bq ≤ w10.heap.size := Nat.le_trans s9 hb10.size
    clear r10 ho10 hb10 HO9 s9 K9
    go_wp2_with (first
      | (at_builtin; refine wpList_appB _ rfl (.tmp 52) (.tmp 56) rfl Bq _ _ rfl HO10.out A10 4 c10 (numL id 4) rfl (numL_length _ _) R10.out (by have := LP.out; simp; omega) s10 ?_; intro v11 w11 h11 hg11 _; have HO11 : Hid (OwnB w11 Bq v11 (P ++ [1] ++ numL id 4)) := Lib.hid h11; have hk11 := (Below.refl Bq w10).grown hg11 s10 (fun q e => (Own.lt HO10.out q e).1); have K11 := Lib.hid (K10.out.trans hk11); obtain ⟨c0, c1, c2, c3⟩ := HX.out w11 K11.out; have wx := HWX.out; have wy := HWY.out; have s11 : Bq ≤ w11.heap.size := Nat.le_trans s10 hk11.size; clear h11 hg11 hk11)
      | (at_builtin; refine wpList_appB _ rfl (.tmp 58) (.tmp 65) rfl Bq _ (P ++ [1] ++ numL id 4) rfl (Own.alloc HO11.out _) (some ⟨w11.heap.size, 0, none⟩) 2 2 [lo X, lo Y] rfl rfl (rd_two w11 HLX.out HLY.out) (by have := LP.out; simp [numL_length]; omega) (Nat.le_trans s11 (by simp)) ?_; intro v12 w12 h12 hg12 _; have HO12 : Hid (OwnB w12 Bq v12 (P ++ [1] ++ numL id 4 ++ [lo X, lo Y])) := Lib.hid h12; have hk12 := ((Below.refl Bq w11).alloc s11 _).grown hg12 (Nat.le_trans s11 (by simp)) (fun q e => (Own.lt HO11.out q e).1); have K12 := Lib.hid (K11.out.trans hk12); obtain ⟨f0, f1, f2, f3⟩ := HX.out w12 K12.out; have R12 : Hid (Rd w12 A (bs.map bv)) := Lib.hid (HT.out.2.1.below (HB8.out.trans (K12.out.mono hgB'))); have s12 : Bq ≤ w12.heap.size := Nat.le_trans s8 K12.out.size; clear h12 hg12 hk12)
      | (at_builtin; refine wpList_appB _ rfl (.tmp 67) (.tmp 69) rfl Bq _ (P ++ [1] ++ numL id 4 ++ [lo X, lo Y]) rfl HO12.out A n c bs rfl HT.out.1 R12.out (by have := LP.out; have := HL.out; simp [numL_length]; omega) s12 ?_; intro v13 w13 h13 hg13 _; have HO13 := Lib.hid h13; have K13 := Lib.hid (K12.out.trans ((Below.refl Bq w12).grown hg13 s12 (fun q e => (Own.lt HO12.out q e).1))); clear h13 hg13))
    go_ret2
    refine ⟨_, rfl, ?_, HB8.out.trans (K13.out.mono hgB')⟩
    have e : L = P ++ [1] ++ numL id 4 ++ [lo X, lo Y] ++ bs := by rw [EL.out, EP.out]; rfl
    rw [e]
    exact Own.low HO13.out hgB'

end Go.Proofs.Ytcffinkkfdfcaaa

/- What next and bad of a walk over fields do. Conditions: a list that can be read, apart from the walk's own block. -/
namespace Go.Proofs.Ytcffinkkfdfcaaa
open Go Go.RowKit

/-- A walk's block of three cells, and the list that it goes over. -/
structure Flds (w : World) (p : Nat) (A : Option Addr) (n c : Nat) (s : FS) : Prop where
  blk : w.heap[p]? = some (.cells #[.slice A n c, .int .i64 (s.at_ : Int), .int .i64 (s.err : Int)] 103 (0, 0))
  len : s.l.len = n
  fo : FoR (fun j => j ≠ p) w A 0 s.l
  sz : s.l.size ≤ 100000
  at_ : s.at_ ≤ 1000
theorem Flds.below {w w' : World} {p : Nat} {A : Option Addr} {n c : Nat} {s : FS} (h : Flds w p A n c s) (hb : Below w.heap.size w w') : Flds w' p A n c s :=
  ⟨(hb.block p (heap_lt h.blk)).trans h.blk, h.len, h.fo.below hb, h.sz, h.at_⟩
theorem Flds.drewN {w : World} {p : Nat} {A : Option Addr} {n c : Nat} {s : FS} (h : Flds w p A n c s) (q : Nat) : Flds (w.drewN q) p A n c s := ⟨h.blk, h.len, h.fo.drewN q, h.sz, h.at_⟩
theorem Flds.lt {w : World} {p : Nat} {A : Option Addr} {n c : Nat} {s : FS} (h : Flds w p A n c s) : p < w.heap.size := heap_lt h.blk
theorem Flds.next {w w' : World} {p : Nat} {A : Option Addr} {n c : Nat} {s s' : FS} (h : Flds w p A n c s) (hk : Keeps (fun j => j = p) w w') (hl : s'.l = s.l) (ha : s'.at_ ≤ 1000)
    (hb : w'.heap[p]? = some (.cells #[.slice A n c, .int .i64 (s'.at_ : Int), .int .i64 (s'.err : Int)] 103 (0, 0))) : Flds w' p A n c s' :=
  ⟨hb, by rw [hl]; exact h.len, by rw [hl]; exact h.fo.frame (fun j hj hlt => hk.block j hlt hj) hk.size, by rw [hl]; exact h.sz, ha⟩
theorem three_of {w : World} {g : Nat} {x y z : Value} {t : TypeId} (h : w.heap[g]? = some (.cells #[x, y, z] t (0, 0))) :
    (w.cell? ⟨g, 0, none⟩ = some x ∧ w.cell? ⟨g, 1, none⟩ = some y ∧ w.cell? ⟨g, 2, none⟩ = some z) ∧ w.frozen? ⟨g, 0, none⟩ = false ∧ w.frozen? ⟨g, 1, none⟩ = false ∧ w.frozen? ⟨g, 2, none⟩ = false :=
  ⟨⟨by rw [heap_cell h]; rfl, by rw [heap_cell h]; rfl, by rw [heap_cell h]; rfl⟩, heap_free h 0, heap_free h 1, heap_free h 2⟩
set_option maxRecDepth 100000 in
set_option maxHeartbeats 4000000 in
theorem bad_c (p : Nat) (A : Option Addr) (n c : Nat) (s : FS) (b : Bool) (w : World) (h : Flds w p A n c s) :
    Calls Try.prog 51 #[.pointer (some ⟨p, 0, none⟩), .bool b] w fun r w' => r = .returned (.tuple #[]) ∧ Flds w' p A n c (badS s b) ∧ Keeps (fun j => j = p) w w' ∧ w'.heap.size = w.heap.size := by
  obtain ⟨⟨c0, c1, c2⟩, f0, f1, f2⟩ := three_of h.blk
  have H := Lib.hid h
  clear h
  by_cases h0 : s.err = 0
  · have e0 : (((s.err : Nat) : Int) == 0) = true := by rw [h0]; rfl
    cases b with
    | false =>
      have e : badS s false = s := by simp [badS]
      rw [e]; clear e h0
      go_enter Try.func51, Try.ntmps51
      go_wp2
      go_end0
      exact ⟨rfl, H.out, Keeps.refl _ _, rfl⟩
    | true =>
      have e : badS s true = { s with err := 3 } := by simp [badS, h0]
      rw [e]; clear e h0
      have hk : Keeps (fun j => j = p) w (w.setCell ⟨p, 2, none⟩ (.int .i64 3)) := Keeps.set _ w ⟨p, 2, none⟩ _ rfl
      have hz : (w.setCell ⟨p, 2, none⟩ (.int .i64 3)).heap.size = w.heap.size := by simp
      have hf := H.out.next (s' := { s with err := 3 }) hk rfl H.out.at_ (heap_set H.out.blk 2 _)
      have HP := Lib.hid (And.intro hf (And.intro hk hz))
      clear hk hz hf
      go_enter Try.func51, Try.ntmps51
      go_wp2
      go_end0
      exact ⟨rfl, HP.out⟩
  · have e0 : (((s.err : Nat) : Int) == 0) = false := by rw [beq_eq_false_iff_ne]; omega
    rw [badS_sticks h0]
    clear h0
    go_enter Try.func51, Try.ntmps51
    go_wp2
    go_end0
    exact ⟨rfl, H.out, Keeps.refl _ _, rfl⟩
end Go.Proofs.Ytcffinkkfdfcaaa
