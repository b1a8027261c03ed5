/- Parts one behind the other: What the reference's New (of a grid) and Blank (of a screen) answer; Plain law: how numbers are laid as bytes; no program in sight; What the layer wire's and its reference's Var answer: a number laid by as few bytes as can be; What the layer wire's and its reference's Num answer: a number by so many bytes, the highest first; Copy and Same of the first reference: bytes copied, bytes held against each other; Plain: which screens the first version can show, a cell's bytes, the diff by rows; Plain: to which screen a diff by rows leads; that a diff laid leads where it should; that a diff cut off leads nowhere; What the reader of the layer wire does: its small methods; What the reader of the layer wire does: Var. Conditions: as told at each. -/
import Derived.Test.YtipofokinjkclaaDoorPE14
import Derived.WalkKit
import Derived.Laws.BitsAllLaws
import Derived.Test.YtipofokinjkclaaDoorPE1

set_option linter.unusedVariables false
set_option linter.unusedSimpArgs false
/- What the reference's New (of a grid) and Blank (of a screen) answer. Conditions: none. -/
namespace Go.Proofs.YtipofokinjkclaaDoor
open Go Go.RowKit Go.Lib

/-- Rows of blanks, each in a block of its own. -/
def RowsO (w : World) (B C : Nat) (vs : List Value) : Prop := ∀ v ∈ vs, ∃ b, v = .slice (some ⟨b, 0, none⟩) C C ∧ OwnC w B v (List.replicate C blankD)
theorem RowsO.below {w w' : World} {B C : Nat} {vs : List Value} (h : RowsO w B C vs) (hb : Below w.heap.size w w') : RowsO w' B C vs := fun v hv => by
  obtain ⟨b, e, r⟩ := h v hv
  exact ⟨b, e, OwnC.below r hb⟩
theorem RowsO.reads {w : World} {B C : Nat} {vs : List Value} (h : RowsO w B C vs) : RowsB w C vs := fun v hv => by
  obtain ⟨b, rfl, r⟩ := h v hv
  refine ⟨_, rfl, ?_⟩
  obtain ⟨A2, c2, e2, _, _, g, _⟩ := r.form
  injection e2 with e2
  rw [e2]; exact g
theorem row_apart {w : World} {B B' : Nat} {u v : Value} {ds : List CeD} {xs : List Value} (h1 : OwnC w B u ds) (h2 : Own w B' 22 v xs) : ∀ g, u.ownBlock = some g → v.ownBlock ≠ some g := by
  intro g hu hv
  rcases h1.2 with ⟨rfl, _⟩ | ⟨g1, cap, cur, rfl, _, hg, _⟩
  · cases hu
  · rcases h2.2 with ⟨rfl, _⟩ | ⟨g2, cap2, cur2, rfl, _, hg2, _⟩
    · cases hv
    · have e1 : g1 = g := by injection hu
      have e2 : g2 = g := by injection hv
      rw [e1] at hg
      rw [e2, hg] at hg2
      injection hg2 with hg2
      injection hg2 with _ h3 _
      exact absurd h3 (by decide)
theorem RowsO.app {w w1 w3 : World} {B B' C : Nat} {vs xs : List Value} {u : Value} (h : RowsO w B C vs) (hu : Own w B' 22 u xs) (h1 : Below w.heap.size w w1) (hg : w1.grownBy w3 u.ownBlock) : RowsO w3 B C vs := fun v hv => by
  obtain ⟨b, e, r⟩ := h v hv
  refine ⟨b, e, OwnC.keep r (fun j ej => ?_)⟩
  have hj := (OwnC.lt r j ej).2
  exact (hg.block j (Nat.lt_of_lt_of_le hj h1.size) (fun e2 => row_apart r hu j ej e2.symm)).trans (h1.block j hj)
theorem RowsO.add {w : World} {B C b : Nat} {vs : List Value} (h : RowsO w B C vs) (hr : OwnC w B (.slice (some ⟨b, 0, none⟩) C C) (List.replicate C blankD)) : RowsO w B C (vs ++ [.slice (some ⟨b, 0, none⟩) C C]) := fun v hv => by
  rcases List.mem_append.1 hv with hv | hv
  · exact h v hv
  · rw [List.mem_singleton] at hv; subst hv; exact ⟨b, rfl, hr⟩
set_option maxRecDepth 100000 in
set_option maxHeartbeats 16000000 in
theorem refNew09_c (C R N : Nat) (w : World) (hf : fitsI (C : Int) (R : Int) = true) (hN : N = C * R) :
    Calls Tryd.prog 70 #[.int .i64 (C : Int), .int .i64 (R : Int)] w fun e w' => ∃ A' c', e = .returned (.tuple #[.agg (gridA C R (.slice A' N c')), .int .i64 0]) ∧ OwnC w' w.heap.size (.slice A' N c') (List.replicate N blankD) ∧ Below w.heap.size w w' := by
  have hB : 1 ≤ C ∧ C ≤ 80 ∧ 1 ≤ R ∧ R ≤ 24 := by simp only [fitsI, Bool.and_eq_true, decide_eq_true_eq] at hf; omega
  have HBD := Lib.hid hB
  have HN := Lib.hid hN
  have f1 : decide ((C : Int) < 1) = false := decide_eq_false (by omega)
  have f2 : decide (80 < (C : Int)) = false := decide_eq_false (by omega)
  have f3 : decide ((R : Int) < 1) = false := decide_eq_false (by omega)
  have f4 : decide (24 < (R : Int)) = false := decide_eq_false (by omega)
  obtain ⟨W0, eW0⟩ : ∃ W0, W0 = w.alloc (.cells (gridA 0 0 (.slice none 0 0)) 67) := ⟨_, rfl⟩
  obtain ⟨q, eq⟩ : ∃ q, q = w.heap.size := ⟨_, rfl⟩
  have HB0 : Hid (Below w.heap.size w W0) := Lib.hid (by rw [eW0]; exact (Below.refl _ _).alloc (Nat.le_refl _) _)
  have HQ0 : Hid (W0.heap[q]? = some (.cells (gridA 0 0 (.slice none 0 0)) 67 (0, 0))) := Lib.hid (by rw [eW0, eq]; exact heap_alloc_new _ _)
  have EW0 : Hid (w.alloc (.cells #[.int .i64 0, .int .i64 0, .slice none 0 0] 67) = W0) := Lib.hid (by rw [eW0]; rfl)
  have EQ := Lib.hid eq
  have HQW : Hid (w.heap.size ≤ q) := Lib.hid (Nat.le_of_eq eq.symm)
  have HZ0 : Hid (W0.heap.size = q + 1) := Lib.hid (by rw [eW0, eq]; simp)
  clear hf hN eW0 eq hB
  go_enter Tryd.func70, Tryd.ntmps70
  go_upto_region 1 with (fail)
  rw [EW0.out, ← EQ.out]
  go_wp2_with (fail)
  clear f1 f2 f3 f4
  go_loopw [6, 7] (fun v i wr => ∃ (y : Nat) (vs : List Value), y ≤ R ∧ i = .int .i64 y ∧ Hid (Below w.heap.size w wr) ∧ Hid (wr.heap[q]? = some (.cells (gridA 0 0 (.slice none 0 0)) 67 (0, 0))) ∧ Hid (Own wr (q + 1) 22 v vs) ∧ Hid (vs.length = y) ∧ Hid (RowsO wr (q + 1) C vs)) (fun _ i _ => R - (intOf i).toNat)
  case atStart =>
    refine ⟨0, [], Nat.zero_le _, rfl, Lib.hid (HB0.out.alloc HB0.out.size _), Lib.hid ((Below.heap_alloc _ _ _ (heap_lt HQ0.out)).trans HQ0.out), Lib.hid ?_, Lib.hid rfl, Lib.hid (fun v hv => by cases hv)⟩
    have hz : W0.heap.size = q + 1 := HZ0.out
    have := World.ownsRow_made W0 (e := 22) (base := q + 1) (size := 1) #[] 0 (by rw [hz]; exact Nat.le_refl _) (Nat.zero_le _) rfl
    simpa [Own] using this
  case round =>
    obtain ⟨y, vs, hy, rfl, HB, HQ, HO, HL, HV⟩ := hrel
    rcases Nat.lt_or_ge y R with hlt | hge
    · have hlt' : (y : Int) < (R : Int) := by omega
      have hr24 : R ≤ 24 := HBD.out.2.2.2
      have HSZ : Hid (q < wr.heap.size) := Lib.hid (heap_lt HQ.out)
      go_wp2_with (first
        | (go_at_call 113; (refine (refBlanks09_c C wr HBD.out.2.1).mono ?_); rintro _ w1 ⟨b, rfl, ho1, hb1⟩; have HR1 : Hid (RdC w1 (some ⟨b, 0, none⟩) (List.replicate C blankD)) := Lib.hid (by obtain ⟨A2, c2, e2, _, _, h, _⟩ := ho1.form; injection e2 with e2; rw [e2]; exact h); have HB1 := Lib.hid (HB.out.trans (hb1.mono HB.out.size)); have HQ1 := Lib.hid ((hb1.block q HSZ.out).trans HQ.out); have HO1 := Lib.hid (Own.below HO.out hb1); have HV1 : Hid (RowsO w1 (q + 1) C (vs ++ [.slice (some ⟨b, 0, none⟩) C C])) := Lib.hid ((HV.out.below hb1).add (OwnC.low ho1 (by have := HSZ.out; omega))); have HS1 := Lib.hid (Nat.lt_of_lt_of_le HSZ.out hb1.size); clear ho1 hb1)
        | (at_builtin; go_must (refine wpList_appRw1 w1 rfl (.tmp 29) (.tmp 33) rfl (q + 1) u6 vs rfl HO1.out (.slice (some ⟨b, 0, none⟩) C C) rfl rfl (by have := HL.out; have := HBD.out; omega) (by have := HS1.out; omega) ?_); intro v3 w3 h3 hg3; have hA : Below (q + 1) w1 (w1.alloc (.cells #[.slice (some ⟨b, 0, none⟩) C C] 22)) := (Below.refl _ _).alloc (by have := HS1.out; omega) _; have HB3 := Lib.hid (hA.grown hg3 (by have := HS1.out; simp; omega) (fun k hk => (Own.lt HO1.out k hk).1)); have HO3 := Lib.hid h3; have HG3 := Lib.hid hg3; clear h3 hg3 hA))
      go_roundw
      case rel => exact ⟨y + 1, _, by omega, by go_num, Lib.hid (HB1.out.trans (HB3.out.mono (Nat.le_trans HQW.out (Nat.le_succ q)))), Lib.hid ((HB3.out.block q (Nat.lt_succ_self q)).trans HQ1.out), HO3, Lib.hid (by rw [List.length_append, HL.out]; rfl), Lib.hid (HV1.out.app HO1.out ((Below.refl _ _).alloc (Nat.le_refl _) _) HG3.out)⟩
      case measure => simp [intOf]; omega
    · obtain rfl : R = y := by omega
      have hge' : ¬ ((R : Int) < (R : Int)) := by omega
      obtain ⟨A6, c6, rfl, _, _, hr6, _⟩ := Own.form HO.out
      have HR6 := Lib.hid hr6
      rw [HL.out]
      have HBE : Hid (w.heap.size ≤ wr.heap.size) := Lib.hid HB.out.size
      clear hr6
      go_wp2_with (first
        | (go_at_call 114; (refine (Of_c C R c6 A6 vs wr HL.out HR6.out HV.out.reads HBD.out.2.1 HBD.out.2.2.2 HBD.out.2.2.1).mono ?_); rintro _ w2 ⟨A2, c2, rfl, ho2, hb2⟩; rw [show R * C = N by rw [HN.out, Nat.mul_comm]] at ho2 ⊢; have HO2 := Lib.hid ho2; have HQ2 := Lib.hid ((hb2.block q (heap_lt HQ.out)).trans HQ.out); have HB2 := Lib.hid (HB.out.trans (hb2.mono HB.out.size)); have HQL : Hid (q < wr.heap.size) := Lib.hid (heap_lt HQ.out); clear ho2 hb2)
        | (refine wpList_store_rowTo rfl 67 (.tmp 4) (.tmp 36) rfl rfl q (gridA (C : Int) (R : Int) (.slice A2 N c2)) rfl rfl 67 _ HQ2.out (info_grid.trans rfl) rfl (gridA_one _ _ _ _ _) ?_))
      refine bodyPost_ret (v := .tuple #[.agg (gridA (C : Int) (R : Int) (.slice A2 N c2)), .int .i64 0]) (results_row_tmp (p := 4) (u := 5) (ty := 67) rfl _ _ q 67 _ (0, 0) _ _ rfl rfl (setRow_heap w2 q _ _ _ _ HQ2.out) Tryd.underlying67 rfl (info_grid.trans rfl)) rfl ?_
      exact ⟨A2, c2, rfl, OwnC.low (OwnC.keep HO2.out (fun j e => setRow_other _ _ _ _ (by have h1 := (OwnC.lt HO2.out j e).1; have h2 := HQL.out; omega))) HBE.out, below_setRow HB2.out HQW.out _⟩
set_option maxRecDepth 100000 in
set_option maxHeartbeats 8000000 in
theorem refBlank15_c (C R N : Nat) (w : World) (hf : fitsI (C : Int) (R : Int) = true) (hN : N = C * R) :
    Calls Tryd.prog 35 #[.int .i64 (C : Int), .int .i64 (R : Int)] w fun e w' => ∃ A' c', e = .returned (.tuple #[.agg (scC (blankS C R) A' N c' none 0 0), .int .i64 0]) ∧ OwnC w' w.heap.size (.slice A' N c') (List.replicate N blankD) ∧ Below w.heap.size w w' := by
  have HF := Lib.hid hf
  have HN := Lib.hid hN
  obtain ⟨W0, eW0⟩ : ∃ W0, W0 = w.alloc (.cells (scC scZ none 0 0 none 0 0) 25) := ⟨_, rfl⟩
  obtain ⟨q, eq⟩ : ∃ q, q = w.heap.size := ⟨_, rfl⟩
  have hb0 : Below w.heap.size w W0 := by rw [eW0]; exact (Below.refl _ _).alloc (Nat.le_refl _) _
  have HB0 := Lib.hid hb0
  have HQ0 : Hid (ScB W0 q scZ none 0 0 none 0 0) := Lib.hid (by rw [eW0, eq]; exact heap_alloc_new _ _)
  have EW0 : Hid (w.alloc (.cells #[.int .i64 0, .int .i64 0, .slice none 0 0, .int .i64 0, .int .i64 0, .bool false, .int .u8 0, .string { data := #[] }, .slice none 0 0] 25) = W0) := Lib.hid (by rw [eW0]; rfl)
  have EQ := Lib.hid eq
  have HQW : Hid (w.heap.size ≤ q) := Lib.hid (Nat.le_of_eq eq.symm)
  clear hb0 eW0 eq hf hN
  go_enter Tryd.func35, Tryd.ntmps35
  go_upto_region 1 with (fail)
  rw [EW0.out, ← EQ.out]
  go_upto_region 2 with (first
    | (go_at_call 70; (with_reducible refine (refNew09_c C R N W0 HF.out HN.out).mono ?_); rintro _ w1 ⟨A1, c1, rfl, ho1, hb1⟩; have HO1 := Lib.hid ho1; have HQ1 := Lib.hid (HQ0.out.below hb1); have HB1 := Lib.hid (HB0.out.trans (hb1.mono HB0.out.size)); clear ho1 hb1)
    | (refine wpList_store_rowTo rfl 67 (.tmp 6) (.tmp 12) rfl rfl w1.heap.size (gridA (C : Int) (R : Int) (.slice A1 N c1)) rfl rfl 67 _ (heap_alloc_new w1 _) (info_grid.trans rfl) rfl (gridA_one _ _ _ _ _) ?_))
  generalize eX : World.alloc w1 _ = X
  have hx : Below w1.heap.size w1 X := by rw [← eX]; exact (Below.refl _ _).alloc (Nat.le_refl _) _
  obtain ⟨old, hq2⟩ : ∃ old, X.heap[w1.heap.size]? = some (.cells old 67 (0, 0)) := ⟨_, by rw [← eX]; exact heap_alloc_new _ _⟩
  obtain ⟨g, eg⟩ : ∃ g, g = w1.heap.size := ⟨_, rfl⟩
  obtain ⟨W2, eW2⟩ : ∃ W2, W2 = X.setRow w1.heap.size (gridA (C : Int) (R : Int) (.slice A1 N c1)) := ⟨_, rfl⟩
  rw [← eW2, ← eg]
  have hg2 : W2.heap[g]? = some (.cells (gridA (C : Int) (R : Int) (.slice A1 N c1)) 67 (0, 0)) := by rw [eW2, eg]; exact setRow_heap _ _ _ _ _ _ hq2
  have hb2 : Below w1.heap.size w1 W2 := by rw [eW2]; exact below_setRow hx (Nat.le_refl _) _
  have y2 : W2.cell? ⟨g, 2, none⟩ = some (.slice A1 N c1) := heap_cell hg2 2
  have HQ2 := Lib.hid (HQ1.out.below hb2)
  have HB2 := Lib.hid (HB1.out.trans (hb2.mono HB1.out.size))
  have HO2 := Lib.hid (OwnC.below HO1.out hb2)
  have HQL : Hid (q < W0.heap.size) := Lib.hid (heap_lt HQ0.out)
  clear eX hx hq2 eg eW2 hg2 hb2
  go_wp2_with (first
    | (refine wpList_store_row rfl 25 (.tmp 4) (.tmp 22) rfl q (scC (blankS C R) A1 N c1 none 0 0) rfl rfl 25 _ HQ2.out (info_sc.trans rfl) rfl (sc_one _ _ _ _ _ _ _) ?_))
  refine bodyPost_ret (v := .tuple #[.agg (scC (blankS C R) A1 N c1 none 0 0), .int .i64 0]) (results_row_tmp (p := 4) (u := 5) (ty := 25) rfl _ _ q 25 _ (0, 0) _ _ rfl rfl (setRow_heap W2 q _ _ _ _ HQ2.out) Tryd.underlying25 rfl (info_sc.trans rfl)) rfl ?_
  exact ⟨A1, c1, rfl, OwnC.low (OwnC.keep HO2.out (fun j e => setRow_other _ _ _ _ (by have h1 := (OwnC.lt HO2.out j e).1; have h2 := HQL.out; omega))) HB0.out.size, below_setRow HB2.out HQW.out _⟩
end Go.Proofs.YtipofokinjkclaaDoor


/- Plain law: how numbers are laid as bytes; no program in sight. Conditions: none. -/
namespace Go.Proofs.YtipofokinjkclaaDoor
open Go Go.RowKit

/-- The lowest byte; a digit of 128 that is not the last. -/
def lo (n : Nat) : UInt8 := UInt8.ofNat n
theorem lo_nat (n : Nat) : (lo n).toNat = n % 256 := by simp [lo]
def U64 (n : Nat) : Prop := n < 2 ^ 64
theorem U64.out {n : Nat} (h : U64 n) : n < 18446744073709551616 := h
theorem U64.le {n m : Nat} (h : U64 n) (hm : m ≤ n) : U64 m := Nat.lt_of_le_of_lt hm h
/-- The size lowest bytes, the highest of them first. -/
def numL (n size : Nat) : List UInt8 := (List.range size).map fun i => lo (n / 256 ^ (size - 1 - i))
theorem numL_length (n size : Nat) : (numL n size).length = size := by simp [numL]

/-! ### Numbers read -/
inductive VR where
  | bad (e : Nat)
  | ok (n k : Nat)

def VR.after (x i : Nat) : VR → VR
  | .bad e => .bad e
  | .ok n k => .ok (x + 128 ^ i * n) (i + k)

/-- Bytes as a number, the highest first. -/
def beN (l : List UInt8) : Nat := l.foldl (fun a d => a * 256 + d.toNat) 0
theorem beN_snoc (l : List UInt8) (d : UInt8) : beN (l ++ [d]) = beN l * 256 + d.toNat := by simp [beN]
theorem beN_lt (l : List UInt8) : beN l < 256 ^ l.length := by
  rw [← List.reverse_reverse l]
  induction l.reverse with
  | nil => decide
  | cons d l ih =>
    rw [List.reverse_cons, beN_snoc, List.length_append, List.length_singleton, Nat.pow_succ]
    have := UInt8.toNat_lt d
    omega
theorem or_byte (x d : Nat) (hd : d < 256) : (x * 256) ||| d = x * 256 + d := by
  rw [show (256 : Nat) = 2 ^ 8 from rfl, Nat.mul_comm] at *
  rw [Nat.two_pow_add_eq_or_of_lt hd]
theorem or_walk8 {x d : Nat} (hx : U64 (x * 256)) (hd : d < 256) : bits BinOp.or .u64 ((x : Int) * 256) (d : Int) = ((x * 256 + d : Nat) : Int) := by
  have h1 := u64_or_nat (x * 256) d hx.out (by omega)
  rw [Int.natCast_mul] at h1
  rw [show ((256 : Nat) : Int) = 256 from rfl] at h1
  rw [h1, or_byte x d hd]

end Go.Proofs.YtipofokinjkclaaDoor


/- What the layer wire's and its reference's Var answer: a number laid by as few bytes as can be. Conditions: a number of 64 bits. -/
namespace Go.Proofs.YtipofokinjkclaaDoor
open Go Go.RowKit

theorem int_lo {x : Int} {n : Nat} (h : x = ((n % 256 : Nat) : Int)) : Value.int .u8 x = bv (lo n) := by rw [h, bv, lo_nat]

/-! ### The reference's Var: the same by division -/
end Go.Proofs.YtipofokinjkclaaDoor


/- What the layer wire's and its reference's Num answer: a number by so many bytes, the highest first. Conditions: a number of 64 bits. -/
namespace Go.Proofs.YtipofokinjkclaaDoor
open Go Go.RowKit

/-! ### Num -/
/-- What stands in the row when the places from k on are laid. -/
def numTail (n size k : Nat) : List UInt8 := List.replicate k 0 ++ (numL n size).drop k
theorem numTail_start (n size : Nat) : numTail n size size = List.replicate size 0 := by
  unfold numTail
  rw [List.drop_of_length_le (by rw [numL_length]; exact Nat.le_refl _), List.append_nil]
theorem numTail_zero (n size : Nat) : numTail n size 0 = numL n size := by simp [numTail]
theorem numTail_step {n size k : Nat} (hk : k < size) : (numTail n size (k + 1)).set k (lo (n / 256 ^ (size - 1 - k))) = numTail n size k := by
  unfold numTail
  have h1 : (numL n size).drop k = lo (n / 256 ^ (size - 1 - k)) :: (numL n size).drop (k + 1) := by
    rw [List.drop_eq_getElem_cons (by rw [numL_length]; exact hk)]
    simp [numL]
  rw [h1, List.replicate_succ', List.append_assoc, List.set_append_right _ _ (by simp)]
  simp
theorem numTail_length (n size k : Nat) (hk : k ≤ size) : (numTail n size k).length = size := by
  unfold numTail; rw [List.length_append, List.length_replicate, List.length_drop, numL_length]; omega

end Go.Proofs.YtipofokinjkclaaDoor


/- Copy and Same of the first reference: bytes copied, bytes held against each other. Conditions: lengths that fit. -/
namespace Go.Proofs.YtipofokinjkclaaDoor
open Go Go.RowKit

def sameB (xs ys : List UInt8) : Bool := decide (xs = ys)
/-! ### Copy -/
/-! ### Same -/
theorem take_succ_eq {xs ys : List UInt8} {k : Nat} (h : xs.take k = ys.take k) (hx : k < xs.length) (hy : k < ys.length) (he : xs[k] = ys[k]) : xs.take (k + 1) = ys.take (k + 1) := by
  rw [List.take_succ_eq_append_getElem hx, List.take_succ_eq_append_getElem hy, h, he]
theorem bv_bne {x y : UInt8} : (((x.toNat : Int) != (y.toNat : Int)) = true) ↔ x ≠ y := by
  rw [bne_iff_ne]
  constructor
  · rintro h rfl; exact h rfl
  · intro h e; exact h (UInt8.toNat_inj.1 (by omega))
theorem bv_bne_f {x y : UInt8} : (((x.toNat : Int) != (y.toNat : Int)) = false) ↔ x = y := by
  constructor
  · intro h
    apply Classical.byContradiction
    intro hn
    rw [bv_bne.2 hn] at h
    cases h
  · rintro rfl; simp

set_option maxRecDepth 100000 in
set_option maxHeartbeats 400000 in
theorem Same_c (A1 A2 : Option Addr) (n1 n2 c1 c2 : Nat) (xs ys : List UInt8) (w : World) (l1 : xs.length = n1) (l2 : ys.length = n2) (h1 : Rd w A1 (xs.map bv)) (h2 : Rd w A2 (ys.map bv)) (m1 : n1 ≤ maxLen) :
    Calls Tryd.prog 24 #[.slice A1 n1 c1, .slice A2 n2 c2] w fun e w' => e = .returned (.bool (sameB xs ys)) ∧ ∃ q, w' = w.drewN q := by
  unfold maxLen at m1
  by_cases hne : n1 = n2
  · subst hne
    rcases Nat.eq_zero_or_pos n1 with h0 | h0
    · subst h0
      have e1 : sameB xs ys = true := by rw [List.eq_nil_of_length_eq_zero l1, List.eq_nil_of_length_eq_zero l2]; rfl
      rw [e1]
      go_enter Tryd.func24, Tryd.ntmps24
      go_wp2
      go_loopw [13] (fun i wr => i = .int .i64 (0 : Nat) ∧ wr = w) (fun i _ => 0)
      case atStart => exact ⟨rfl, rfl⟩
      case round =>
        obtain ⟨rfl, rfl⟩ := hrel
        go_wp2
        go_ret
        exact ⟨rfl, 0, rfl⟩
    · obtain ⟨b1, o1, rfl, _, g1⟩ := h1.addrB (by omega)
      obtain ⟨b2, o2, rfl, _, g2⟩ := h2.addrB (by omega)
      have H1 : Hid (∀ k (h : k < xs.length), w.cell? ⟨b1, o1 + k, none⟩ = some (bv xs[k])) := g1
      have H2 : Hid (∀ k (h : k < ys.length), w.cell? ⟨b2, o2 + k, none⟩ = some (bv ys[k])) := g2
      clear g1 g2 h1 h2
      have L1 := Lib.hid l1; clear l1
      have L2 := Lib.hid l2; clear l2
      go_enter Tryd.func24, Tryd.ntmps24
      go_wp2
      go_loopw [13] (fun i wr => ∃ k : Nat, k ≤ n1 ∧ i = .int .i64 k ∧ (∃ q, wr = w.drewN q) ∧ xs.take k = ys.take k) (fun i _ => n1 - (intOf i).toNat)
      case atStart => exact ⟨0, Nat.zero_le _, rfl, ⟨0, rfl⟩, rfl⟩
      case round =>
        obtain ⟨k, hk, rfl, ⟨q, rfl⟩, ht⟩ := hrel
        have HT := Lib.hid ht; clear ht
        by_cases hlt : k < n1
        · have hx : k < xs.length := by rw [L1.out]; exact hlt
          have hy : k < ys.length := by rw [L2.out]; exact hlt
          obtain ⟨x, ex⟩ : ∃ x, x = xs[k] := ⟨_, rfl⟩
          obtain ⟨y, ey⟩ : ∃ y, y = ys[k] := ⟨_, rfl⟩
          have c1 : w.cell? ⟨b1, o1 + k, none⟩ = some (.int .u8 (x.toNat : Int)) := by rw [ex]; exact H1.out k hx
          have c2 : w.cell? ⟨b2, o2 + k, none⟩ = some (.int .u8 (y.toNat : Int)) := by rw [ey]; exact H2.out k hy
          have EX := Lib.hid ex; clear ex
          have EY := Lib.hid ey; clear ey
          by_cases hxy : x = y
          · have hb := bv_bne_f.2 hxy
            have HXY := Lib.hid hxy; clear hxy
            go_wp2
            go_quiet (fail)
            go_wp2
            go_roundw
            case rel => exact ⟨k + 1, by omega, by go_num, ⟨_, rfl⟩, take_succ_eq HT.out (by rw [L1.out]; exact hlt) (by rw [L2.out]; exact hlt) (by rw [← EX.out, ← EY.out]; exact HXY.out)⟩
            case measure => simp [intOf]; omega
          · have hb := bv_bne.2 hxy
            have HXY := Lib.hid hxy; clear hxy
            have e1 : sameB xs ys = false := by
              unfold sameB
              refine decide_eq_false fun e => HXY.out ?_
              subst e
              rw [EX.out, EY.out]
            go_wp2
            go_quiet (fail)
            go_wp2
            go_ret
            exact ⟨by rw [e1]; rfl, _, World.drewN_drewN _ _ _⟩
        · obtain rfl : k = n1 := by omega
          have e1 : sameB xs ys = true := by
            unfold sameB
            refine decide_eq_true ?_
            have := HT.out
            rw [List.take_of_length_le (by rw [L1.out]; exact Nat.le_refl _), List.take_of_length_le (by rw [L2.out]; exact Nat.le_refl _)] at this
            exact this
          go_wp2
          go_ret
          exact ⟨by rw [e1]; rfl, _, rfl⟩
  · have hb : ((n1 : Int) != (n2 : Int)) = true := by rw [bne_iff_ne]; omega
    have e1 : sameB xs ys = false := by
      unfold sameB
      refine decide_eq_false fun e => hne ?_
      rw [← l1, ← l2, e]
    rw [e1]
    clear e1
    have L1 := Lib.hid l1; clear l1
    have L2 := Lib.hid l2; clear l2
    go_enter Tryd.func24, Tryd.ntmps24
    go_wp2
    go_ret
    exact ⟨rfl, 0, rfl⟩
theorem sameB_true {xs ys : List UInt8} (h : xs = ys) : sameB xs ys = true := decide_eq_true h
theorem Same_t (A1 A2 : Option Addr) (n1 n2 c1 c2 : Nat) (xs : List UInt8) (w : World) (l1 : xs.length = n1) (l2 : xs.length = n2) (h1 : Rd w A1 (xs.map bv)) (h2 : Rd w A2 (xs.map bv)) (m1 : n1 ≤ maxLen) :
    Calls Tryd.prog 24 #[.slice A1 n1 c1, .slice A2 n2 c2] w fun e w' => e = .returned (.bool true) ∧ ∃ q, w' = w.drewN q := by
  have h := Same_c A1 A2 n1 n2 c1 c2 xs xs w l1 l2 h1 h2 m1
  rw [sameB_true rfl] at h
  exact h
end Go.Proofs.YtipofokinjkclaaDoor


/- Plain: which screens the first version can show, a cell's bytes, the diff by rows. Conditions: none. -/
namespace Go.Proofs.YtipofokinjkclaaDoor
open Go Go.RowKit Go.Lib

/-- Is there anything that the first version can't show? -/
def bad16 (d : CeD) : Bool := !(d.w == 0) || (decide (256 < d.fg) || decide (256 < d.bg))
def fit16 (s : ScD) : Bool := rightS s && ((s.links.length == 0) && ((s.mouse == 0) && !s.cells.any bad16))
/-- A cell's nine bytes. -/
def cellB (d : CeD) : List UInt8 := numL d.r.toNat 4 ++ numL d.fg.toNat 2 ++ numL d.bg.toNat 2 ++ [lo d.at_.toNat]
theorem cellB_length (d : CeD) : (cellB d).length = 9 := by simp [cellB, numL_length]
def cellsB (l : List CeD) : List UInt8 := l.flatMap cellB
theorem cellsB_length (l : List CeD) : (cellsB l).length = l.length * 9 := by
  induction l with
  | nil => rfl
  | cons d l ih => show (cellB d ++ cellsB l).length = _; rw [List.length_append, cellB_length, ih, List.length_cons]; omega
theorem cellsB_snoc (l : List CeD) (d : CeD) : cellsB (l ++ [d]) = cellsB l ++ cellB d := by simp [cellsB]
/-- Rows told, up to the row y: how many, and their bytes. -/
def rowsT (C : Nat) (a b : List CeD) : Nat → Nat × List UInt8
  | 0 => (0, [])
  | y + 1 => if sameC (rowAt C y a) (rowAt C y b) then rowsT C a b y else ((rowsT C a b y).1 + 1, (rowsT C a b y).2 ++ (lo y :: cellsB (rowAt C y b)))
theorem rowsT_le (C : Nat) (a b : List CeD) : ∀ y, (rowsT C a b y).1 ≤ y
  | 0 => Nat.le_refl _
  | y + 1 => by
    have := rowsT_le C a b y
    rw [rowsT]
    split
    · omega
    · show (rowsT C a b y).1 + 1 ≤ y + 1
      omega
theorem rowsT_length (C : Nat) (a b : List CeD) : ∀ y, (rowsT C a b y).2.length ≤ y * (C * 9 + 1)
  | 0 => Nat.zero_le _
  | y + 1 => by
    have := rowsT_length C a b y
    have hl : (rowAt C y b).length ≤ C := by unfold rowAt; rw [List.length_take]; exact Nat.min_le_left _ _
    have hl2 := Nat.mul_le_mul_right 9 hl
    rw [rowsT, Nat.add_mul, Nat.one_mul]
    split
    · omega
    · simp only [List.length_append, List.length_cons, cellsB_length]; omega
/-- The flags, the title's part. -/
def flagsN (f0 : Nat) (hid ttl : Bool) : Nat := f0 + (if hid then 1 else 0) + (if ttl then 2 else 0)
def ttlB (ttl : Bool) (t : ByteArray) : List UInt8 := if ttl then lo t.size :: strB t else []
def headB (base b : ScD) (f0 : Nat) : List UInt8 := [lo b.cols.toNat, lo b.rows.toNat, lo b.x.toNat, lo b.y.toNat, lo (flagsN f0 b.hid (!(b.title.toList == base.title.toList)))] ++ ttlB (!(b.title.toList == base.title.toList)) b.title
def layB (base b : ScD) (f0 : Nat) : List UInt8 := headB base b f0 ++ (lo (rowsT b.cols.toNat base.cells b.cells b.rows.toNat).1 :: (rowsT b.cols.toNat base.cells b.cells b.rows.toNat).2)
/-- What a screen that fits is like. -/
structure Fit16 (s : ScD) (C R : Nat) : Prop where
  c : s.cols = (C : Int)
  r : s.rows = (R : Int)
  c1 : 1 ≤ C
  c2 : C ≤ 80
  r1 : 1 ≤ R
  r2 : R ≤ 24
  len : s.cells.length = C * R
  x0 : 0 ≤ s.x
  x1 : s.x < (C : Int)
  y0 : 0 ≤ s.y
  y1 : s.y < (R : Int)
  tl : s.title.size ≤ 64
  lk : s.links = []
  mo : s.mouse = 0
  ce : ∀ d ∈ s.cells, mayC d = true ∧ d.w = 0 ∧ d.fg ≤ 256 ∧ d.bg ≤ 256
theorem fit16_right {s : ScD} (h : fit16 s = true) : rightS s = true := by
  unfold fit16 at h
  rw [Bool.and_eq_true] at h
  exact h.1
theorem fit16_of {s : ScD} (h : fit16 s = true) : ∃ C R, Fit16 s C R := by
  have hr := fit16_right h
  have hg := gridP_may (rightS_grid hr)
  have hg2 := rightS_grid hr
  unfold gridP at hg2
  simp only [Bool.and_eq_true, decide_eq_true_eq] at hg2
  obtain ⟨C, R, e1, e2, c1, c2, r1, r2⟩ := fitsI_nat hg2.1
  unfold rightS at hr
  simp only [Bool.and_eq_true, Bool.not_eq_true', decide_eq_false_iff_not] at hr
  obtain ⟨-, -, h3, h4, h5, h6, h7, h8, -, -⟩ := hr
  unfold fit16 at h
  simp only [Bool.and_eq_true, beq_iff_eq, Bool.not_eq_true', List.any_eq_false] at h
  obtain ⟨-, g1, g2, g3⟩ := h
  refine ⟨C, R, e1, e2, c1, c2, r1, r2, ?_, by omega, by omega, by omega, by omega, by omega, List.eq_nil_of_length_eq_zero g1, g2, fun d hd => ⟨hg d hd, ?_⟩⟩
  · have := hg2.2.1
    rw [e1, e2] at this
    have e : (s.cells.length : Int) = ((C * R : Nat) : Int) := by rw [this]; exact (Int.natCast_mul C R).symm
    exact_mod_cast e
  · have := g3 d hd
    simp only [bad16, Bool.or_eq_true, not_or, Bool.not_eq_true, Bool.not_eq_false', beq_iff_eq, decide_eq_true_eq] at this
    refine ⟨this.1, by omega, by omega⟩
theorem widI_pos {r : Int} (h : widI r = 1) : 32 ≤ r ∧ r ≤ 1114111 := by
  unfold widI at h
  split at h
  · cases h
  · rename_i h2
    simp only [Bool.or_eq_true, not_or] at h2
    have := h2.1
    simp only [badW, Bool.or_eq_true, not_or, decide_eq_true_eq] at this
    omega
theorem Fit16.rune {s : ScD} {C R : Nat} (h : Fit16 s C R) : ∀ d ∈ s.cells, 32 ≤ d.r ∧ d.r ≤ 1114111 := fun d hd => by
  obtain ⟨h1, h2, _⟩ := h.ce d hd
  simp only [mayC, Bool.and_eq_true, Bool.or_eq_true, decide_eq_true_eq] at h1
  refine widI_pos ?_
  rcases h1.2 with (⟨_, b⟩ | ⟨a, _⟩) | ⟨a, _⟩
  · exact b
  · omega
  · omega
theorem rowAt_length {C y : Nat} {l : List CeD} (h : (y + 1) * C ≤ l.length) : (rowAt C y l).length = C := by
  unfold rowAt
  rw [Nat.add_mul, Nat.one_mul] at h
  rw [List.length_take, List.length_drop]; omega
/-- Full, Encode. -/
def full16 (b : ScD) : List UInt8 × Nat := if fit16 b then (layB (blankS b.cols b.rows) b 4, 0) else ([], 1)
def enc16 (a b : ScD) : List UInt8 × Nat := if fit16 a && fit16 b then (if (a.cols == b.cols) && (a.rows == b.rows) then (layB a b 0, 0) else full16 b) else ([], 1)
end Go.Proofs.YtipofokinjkclaaDoor


/- Plain: to which screen a diff by rows leads; that a diff laid leads where it should; that a diff cut off leads nowhere. Conditions: none. -/
namespace Go.Proofs.YtipofokinjkclaaDoor
open Go Go.RowKit Go.Lib

/-- The cell of nine bytes. -/
def cellAt (l : List UInt8) : CeD := ⟨IntKind.i32.wrap (beN (l.take 4) : Int), 0, (beN ((l.drop 4).take 2) : Int), (beN ((l.drop 6).take 2) : Int), (beN ((l.drop 8).take 1) : Int), 0⟩
def badAt16 (c : CeD) : Bool := !mayC c || (decide (256 < c.fg) || decide (256 < c.bg))
/-- So many cells, laid from the place p on: the error, the bytes left, the cells. -/
def cellsP : Nat → Nat → List UInt8 → List CeD → Nat × List UInt8 × List CeD
  | 0, _, l, cs => (0, l, cs)
  | n + 1, p, l, cs => if l.length < 9 then (2, l, cs) else if badAt16 (cellAt l) then (3, l, cs) else cellsP n (p + 1) (l.drop 9) (cs.set p (cellAt l))
/-- So many rows behind the row last. -/
def rowsP (C R : Nat) : Nat → Int → List UInt8 → List CeD → Nat × List CeD
  | 0, _, l, cs => (if l.length = 0 then 0 else 6, cs)
  | _ + 1, _, [], cs => (2, cs)
  | k + 1, last, y :: l, cs =>
    if R ≤ y.toNat ∨ (y.toNat : Int) ≤ last then (3, cs)
    else if (cellsP C (y.toNat * C) l cs).1 = 0 then rowsP C R k (y.toNat : Int) (cellsP C (y.toNat * C) l cs).2.1 (cellsP C (y.toNat * C) l cs).2.2
    else ((cellsP C (y.toNat * C) l cs).1, (cellsP C (y.toNat * C) l cs).2.2)
def readP (C R : Nat) : List UInt8 → List CeD → Nat × List CeD
  | [], cs => (2, cs)
  | k :: l, cs => rowsP C R k.toNat (-1) l cs
/-- The title's part. -/
def titP (f : Nat) (t : ByteArray) : List UInt8 → Option (ByteArray × List UInt8)
  | l => if f / 2 % 2 = 1 then (match l with
    | [] => none
    | n :: l2 => if l2.length < n.toNat then none else some (⟨(l2.take n.toNat).toArray⟩, l2.drop n.toNat)) else some (t, l)
/-- The screen from which the rows go on. -/
def base16 (a : ScD) (c r x y f : Nat) : ScD := { (if f < 4 then a else blankS c r) with x := x, y := y, hid := f % 2 == 1 }
def end16 (s : ScD) (p : Nat × List CeD) : ScD × Nat := if p.1 = 0 then (if fit16 { s with cells := p.2 } then ({ s with cells := p.2 }, 0) else (scZ, 3)) else (scZ, p.1)
def app16 (a : ScD) (d : List UInt8) : ScD × Nat :=
  if fit16 a then
    (match d with
    | c :: r :: x :: y :: f :: l =>
      if 7 < f.toNat ∨ fitsI (c.toNat : Int) (r.toNat : Int) = false then (scZ, 3)
      else if f.toNat < 4 ∧ ¬ ((c.toNat : Int) = a.cols ∧ (r.toNat : Int) = a.rows) then (scZ, 15)
      else (match titP f.toNat (base16 a c.toNat r.toNat x.toNat y.toNat f.toNat).title l with
        | none => (scZ, 2)
        | some (t, l2) => end16 { base16 a c.toNat r.toNat x.toNat y.toNat f.toNat with title := t } (readP c.toNat r.toNat l2 (base16 a c.toNat r.toNat x.toNat y.toNat f.toNat).cells))
    | _ => (scZ, 2))
  else (scZ, 1)

/-! ### What leads anywhere fits -/
theorem end16_fit {s t : ScD} {p : Nat × List CeD} (h : end16 s p = (t, 0)) : fit16 t = true := by
  unfold end16 at h
  split at h
  · split at h
    · rename_i h2; injection h with h1 h3; rw [← h1]; exact h2
    · injection h with h1 h3; cases h3
  · rename_i h2; injection h with h1 h3; exact absurd h3 h2
theorem app16_fit {a t : ScD} {d : List UInt8} (h : app16 a d = (t, 0)) : fit16 t = true := by
  unfold app16 at h
  split at h
  · split at h
    · split at h
      · injection h with h1 h3; cases h3
      · split at h
        · injection h with h1 h3; cases h3
        · split at h
          · injection h with h1 h3; cases h3
          · exact end16_fit h
    · injection h with h1 h3; cases h3
  · injection h with h1 h3; cases h3
theorem end16_none {s : ScD} {p : Nat × List CeD} (h : (end16 s p).2 ≠ 0) : (end16 s p).1 = scZ := by
  unfold end16 at h ⊢
  split
  · rename_i h4
    rw [if_pos h4] at h
    split
    · rename_i h5; rw [if_pos h5] at h; exact absurd rfl h
    · rfl
  · rfl
theorem app16_none {a : ScD} {d : List UInt8} (h : (app16 a d).2 ≠ 0) : (app16 a d).1 = scZ := by
  unfold app16 at h ⊢
  split at h
  · rename_i hf
    rw [if_pos hf]
    split at h
    · simp only []
      split at h
      · rename_i h1; rw [if_pos h1]
      · rename_i h1
        rw [if_neg h1]
        split at h
        · rename_i h2; rw [if_pos h2]
        · rename_i h2
          rw [if_neg h2]
          split at h
          · rfl
          · exact end16_none h
    · rfl
  · rename_i hf
    rw [if_neg hf]

/-! ### What holds of each cell -/
theorem set_all {P : CeD → Prop} {l : List CeD} (h : ∀ d ∈ l, P d) (p : Nat) {c : CeD} (hc : P c) : ∀ d ∈ l.set p c, P d := fun d hd => by
  rcases List.mem_or_eq_of_mem_set hd with h1 | rfl
  · exact h d h1
  · exact hc
theorem cellsP_all {P : CeD → Prop} (hc : ∀ l, P (cellAt l)) : ∀ (n p : Nat) (l : List UInt8) (cs : List CeD), (∀ d ∈ cs, P d) → ∀ d ∈ (cellsP n p l cs).2.2, P d
  | 0, _, _, _, h => h
  | n + 1, p, l, cs, h => by
    rw [cellsP]
    split
    · exact h
    · split
      · exact h
      · exact cellsP_all hc n _ _ _ (set_all h _ (hc _))
theorem rowsP_all {P : CeD → Prop} (hc : ∀ l, P (cellAt l)) (C R : Nat) : ∀ (k : Nat) (last : Int) (l : List UInt8) (cs : List CeD), (∀ d ∈ cs, P d) → ∀ d ∈ (rowsP C R k last l cs).2, P d
  | 0, _, _, _, h => h
  | _ + 1, _, [], _, h => h
  | k + 1, last, y :: l, cs, h => by
    rw [rowsP]
    split
    · exact h
    · split
      · exact rowsP_all hc C R k _ _ _ (cellsP_all hc _ _ _ _ h)
      · exact cellsP_all hc _ _ _ _ h
theorem readP_all {P : CeD → Prop} (hc : ∀ l, P (cellAt l)) (C R : Nat) (l : List UInt8) (cs : List CeD) (h : ∀ d ∈ cs, P d) : ∀ d ∈ (readP C R l cs).2, P d := by
  cases l with
  | nil => exact h
  | cons k l => exact rowsP_all hc C R _ _ _ _ h
/-! ### Cut off -/
theorem cellAt_take {l : List UInt8} {m : Nat} (h : 9 ≤ m) : cellAt (l.take m) = cellAt l := by
  unfold cellAt
  rw [List.take_take, List.drop_take, List.drop_take, List.drop_take, List.take_take, List.take_take, List.take_take, Nat.min_eq_left (by omega), Nat.min_eq_left (by omega), Nat.min_eq_left (by omega), Nat.min_eq_left (by omega)]
theorem cellsP_cut : ∀ (n p : Nat) (l : List UInt8) (cs : List CeD), (cellsP n p l cs).1 = 0 → n * 9 ≤ l.length ∧ (cellsP n p l cs).2.1 = l.drop (n * 9) ∧ ∀ m, (m < n * 9 → (cellsP n p (l.take m) cs).1 ≠ 0) ∧ (n * 9 ≤ m → cellsP n p (l.take m) cs = (0, (l.drop (n * 9)).take (m - n * 9), (cellsP n p l cs).2.2))
  | 0, p, l, cs, _ => by
    refine ⟨by omega, by rw [Nat.zero_mul]; rfl, fun m => ⟨fun h => by omega, fun _ => ?_⟩⟩
    rw [Nat.zero_mul, Nat.sub_zero]; rfl
  | n + 1, p, l, cs, h => by
    rw [cellsP] at h
    split at h
    · cases h
    · rename_i h1
      split at h
      · cases h
      · rename_i h2
        obtain ⟨g1, g2, g3⟩ := cellsP_cut n (p + 1) (l.drop 9) (cs.set p (cellAt l)) h
        have e : cellsP (n + 1) p l cs = cellsP n (p + 1) (l.drop 9) (cs.set p (cellAt l)) := by rw [cellsP, if_neg h1, if_neg h2]
        rw [List.length_drop] at g1
        refine ⟨by omega, by rw [e, g2, List.drop_drop]; congr 1; omega, fun m => ?_⟩
        by_cases hm : m < 9
        · refine ⟨fun _ => ?_, fun h9 => by omega⟩
          rw [cellsP, if_pos (by rw [List.length_take]; omega)]
          exact (by decide : (2 : Nat) ≠ 0)
        · have e2 : cellsP (n + 1) p (l.take m) cs = cellsP n (p + 1) ((l.drop 9).take (m - 9)) (cs.set p (cellAt l)) := by
            rw [cellsP, if_neg (by rw [List.length_take]; omega), cellAt_take (by omega), if_neg h2, List.drop_take]
          obtain ⟨k1, k2⟩ := g3 (m - 9)
          rw [e2, e]
          refine ⟨fun hl => k1 (by omega), fun hl => ?_⟩
          rw [k2 (by omega), List.drop_drop, show 9 + n * 9 = (n + 1) * 9 by omega, show m - 9 - n * 9 = m - (n + 1) * 9 by omega]
theorem rowsP_cut (C R : Nat) : ∀ (k : Nat) (last : Int) (l : List UInt8) (cs : List CeD), (rowsP C R k last l cs).1 = 0 → ∀ m, m < l.length → (rowsP C R k last (l.take m) cs).1 ≠ 0
  | 0, last, l, cs, h, m, hm => by
    rw [rowsP] at h
    simp only [] at h
    split at h
    · omega
    · cases h
  | k + 1, last, [], cs, h, m, hm => absurd hm (Nat.not_lt_zero _)
  | k + 1, last, y :: l, cs, h, m, hm => by
    cases m with
    | zero => rw [List.take_zero, rowsP]; exact (by decide : (2 : Nat) ≠ 0)
    | succ m =>
      rw [rowsP] at h
      rw [List.take_succ_cons, rowsP]
      split at h
      · cases h
      · rename_i h1
        rw [if_neg h1]
        split at h
        · rename_i h2
          obtain ⟨g1, g2, g3⟩ := cellsP_cut C (y.toNat * C) l cs h2
          rw [List.length_cons] at hm
          by_cases hc : m < C * 9
          · have h5 := (g3 m).1 hc
            rw [if_neg h5]; exact h5
          · rw [(g3 m).2 (by omega)]
            simp only [if_true]
            rw [g2] at h
            exact rowsP_cut C R k _ _ _ h _ (by rw [List.length_drop]; omega)
        · rename_i h2; exact absurd h h2
theorem readP_cut (C R : Nat) (l : List UInt8) (cs : List CeD) (h : (readP C R l cs).1 = 0) (m : Nat) (hm : m < l.length) : (readP C R (l.take m) cs).1 ≠ 0 := by
  cases l with
  | nil => exact absurd hm (Nat.not_lt_zero _)
  | cons k l =>
    cases m with
    | zero => exact (by decide : (2 : Nat) ≠ 0)
    | succ m => exact rowsP_cut C R _ _ _ _ h _ (by simpa using hm)
theorem end16_err {s : ScD} {p : Nat × List CeD} (h : p.1 ≠ 0) : (end16 s p).2 ≠ 0 := by rw [end16, if_neg h]; exact h
theorem end16_ok {s : ScD} {p : Nat × List CeD} (h : (end16 s p).2 = 0) : p.1 = 0 := by
  by_cases h0 : p.1 = 0
  · exact h0
  · exact absurd h (end16_err h0)
theorem titP_cut {f : Nat} {t u : ByteArray} {l l2 : List UInt8} (h : titP f t l = some (u, l2)) (m : Nat) (hm : m < l.length) : titP f t (l.take m) = none ∨ ∃ k, k < l2.length ∧ titP f t (l.take m) = some (u, l2.take k) := by
  unfold titP at h ⊢
  split
  · rename_i hf
    rw [if_pos hf] at h
    cases l with
    | nil => exact absurd hm (Nat.not_lt_zero _)
    | cons n l =>
      simp only [] at h
      split at h
      · cases h
      · rename_i hl
        injection h with h
        injection h with h1 h2
        cases m with
        | zero => exact .inl rfl
        | succ m =>
          rw [List.take_succ_cons]
          simp only [List.length_take]
          rw [List.length_cons] at hm
          by_cases hs : m < n.toNat
          · rw [if_pos (by omega)]; exact .inl rfl
          · rw [if_neg (by omega)]
            refine .inr ⟨m - n.toNat, by rw [← h2, List.length_drop]; omega, ?_⟩
            rw [← h1, ← h2, List.take_take, Nat.min_eq_left (by omega), List.drop_take]
  · rename_i hf
    rw [if_neg hf] at h
    injection h with h
    injection h with h1 h2
    subst h1 h2
    exact .inr ⟨m, hm, rfl⟩
theorem app16_cut {a : ScD} {d : List UInt8} (h : (app16 a d).2 = 0) (m : Nat) (hm : m < d.length) : (app16 a (d.take m)).2 ≠ 0 := by
  unfold app16 at h ⊢
  split at h
  · rename_i hf
    rw [if_pos hf]
    split at h
    · rename_i c r x y f l
      rcases m with _ | _ | _ | _ | _ | m
      · exact (by decide : (2 : Nat) ≠ 0)
      · exact (by decide : (2 : Nat) ≠ 0)
      · exact (by decide : (2 : Nat) ≠ 0)
      · exact (by decide : (2 : Nat) ≠ 0)
      · exact (by decide : (2 : Nat) ≠ 0)
      · simp only [List.take_succ_cons]
        split at h
        · cases h
        · rename_i h1
          rw [if_neg h1]
          split at h
          · cases h
          · rename_i h2
            rw [if_neg h2]
            split at h
            · cases h
            · rename_i t l2 h3
              rcases titP_cut h3 m (by simpa using hm) with e | ⟨k, hk, e⟩
              · rw [e]; exact (by decide : (2 : Nat) ≠ 0)
              · rw [e]
                exact end16_err (readP_cut _ _ _ _ (end16_ok h) k hk)
    · cases h
  · cases h

/-! ### What was laid is read -/
theorem lo_small {n : Nat} (h : n < 256) : (lo n).toNat = n := by rw [lo_nat]; omega
theorem beN_numL1 {n : Nat} (h : n < 256) : beN [lo n] = n := by
  show 0 * 256 + (lo n).toNat = n
  rw [lo_small h]; omega
theorem beN_numL2 {n : Nat} (h : n < 65536) : beN (numL n 2) = n := by
  have e : numL n 2 = [lo (n / 256), lo n] := by simp [numL, List.range_succ, List.map]
  rw [e]
  show (0 * 256 + (lo (n / 256)).toNat) * 256 + (lo n).toNat = n
  rw [lo_nat, lo_nat]; omega
theorem beN_numL4 {n : Nat} (h : n < 4294967296) : beN (numL n 4) = n := by
  have e : numL n 4 = [lo (n / 16777216), lo (n / 65536), lo (n / 256), lo n] := by simp [numL, List.range_succ, List.map]
  rw [e]
  show (((0 * 256 + (lo (n / 16777216)).toNat) * 256 + (lo (n / 65536)).toNat) * 256 + (lo (n / 256)).toNat) * 256 + (lo n).toNat = n
  rw [lo_nat, lo_nat, lo_nat, lo_nat]; omega
/-- A cell such as the first version tells it. -/
def Told16 (d : CeD) : Prop := 0 ≤ d.r ∧ d.r ≤ 1114111 ∧ d.w = 0 ∧ 0 ≤ d.fg ∧ d.fg ≤ 256 ∧ 0 ≤ d.bg ∧ d.bg ≤ 256 ∧ 0 ≤ d.at_ ∧ d.at_ ≤ 255 ∧ d.ln = 0 ∧ mayC d = true
theorem cellAt_B {d : CeD} (h : Told16 d) (l : List UInt8) : cellAt (cellB d ++ l) = d := by
  obtain ⟨r, w, fg, bg, a, ln⟩ := d
  obtain ⟨h1, h2, h3, h4, h5, h6, h7, h8, h9, h10, -⟩ := h
  simp only at h1 h2 h3 h4 h5 h6 h7 h8 h9 h10
  have a1 : (cellB ⟨r, w, fg, bg, a, ln⟩ ++ l).take 4 = numL r.toNat 4 := by
    unfold cellB
    simp only [List.append_assoc]
    rw [List.take_append_of_le_length (by rw [numL_length]; exact Nat.le_refl _), List.take_of_length_le (by rw [numL_length]; exact Nat.le_refl _)]
  have a2 : ((cellB ⟨r, w, fg, bg, a, ln⟩ ++ l).drop 4).take 2 = numL fg.toNat 2 := by
    unfold cellB
    simp only [List.append_assoc]
    rw [List.drop_append_of_le_length (by rw [numL_length]; exact Nat.le_refl _), List.drop_of_length_le (by rw [numL_length]; exact Nat.le_refl _), List.nil_append, List.take_append_of_le_length (by rw [numL_length]; exact Nat.le_refl _), List.take_of_length_le (by rw [numL_length]; exact Nat.le_refl _)]
  have a3 : ((cellB ⟨r, w, fg, bg, a, ln⟩ ++ l).drop 6).take 2 = numL bg.toNat 2 := by
    unfold cellB
    simp only [List.append_assoc]
    rw [← List.append_assoc (numL r.toNat 4), List.drop_append_of_le_length (by simp [numL_length]), List.drop_of_length_le (by simp [numL_length]), List.nil_append, List.take_append_of_le_length (by rw [numL_length]; exact Nat.le_refl _), List.take_of_length_le (by rw [numL_length]; exact Nat.le_refl _)]
  have a4 : ((cellB ⟨r, w, fg, bg, a, ln⟩ ++ l).drop 8).take 1 = [lo a.toNat] := by
    unfold cellB
    simp only [List.append_assoc]
    rw [← List.append_assoc (numL r.toNat 4), ← List.append_assoc (_ ++ _), List.drop_append_of_le_length (by simp [numL_length]), List.drop_of_length_le (by simp [numL_length])]
    rfl
  unfold cellAt
  rw [a1, a2, a3, a4, beN_numL4 (by omega), beN_numL2 (by omega), beN_numL2 (by omega), beN_numL1 (by omega), Int.toNat_of_nonneg h1, Int.toNat_of_nonneg h4, Int.toNat_of_nonneg h6, Int.toNat_of_nonneg h8, h3, h10]
  congr 1
  exact IntWalk.i32_in _ ⟨by omega, by omega⟩
theorem told_good {d : CeD} (h : Told16 d) : badAt16 d = false := by
  obtain ⟨-, -, -, -, h5, -, h7, -, -, -, h11⟩ := h
  unfold badAt16
  rw [h11, decide_eq_false (by omega), decide_eq_false (by omega)]; rfl
theorem cellsP_told : ∀ (ds : List CeD) (p : Nat) (l : List UInt8) (cs : List CeD), (∀ d ∈ ds, Told16 d) → p + ds.length ≤ cs.length → cellsP ds.length p (cellsB ds ++ l) cs = (0, l, cs.take p ++ (ds ++ cs.drop (p + ds.length)))
  | [], p, l, cs, _, _ => by
    show (0, l, cs) = _
    rw [List.length_nil, Nat.add_zero, List.nil_append, List.take_append_drop]
  | d :: ds, p, l, cs, h, hl => by
    have hd := h d (List.mem_cons_self ..)
    have e : cellsB (d :: ds) ++ l = cellB d ++ (cellsB ds ++ l) := by
      show (cellB d ++ cellsB ds) ++ l = _
      rw [List.append_assoc]
    rw [List.length_cons] at hl
    rw [e, List.length_cons, cellsP, if_neg (by rw [List.length_append, cellB_length]; omega), cellAt_B hd, if_neg (by rw [told_good hd]; decide), List.drop_append_of_le_length (by rw [cellB_length]; exact Nat.le_refl _), List.drop_of_length_le (by rw [cellB_length]; exact Nat.le_refl _), List.nil_append,
      cellsP_told ds (p + 1) l (cs.set p d) (fun x hx => h x (List.mem_cons_of_mem _ hx)) (by rw [List.length_set]; omega)]
    have e1 : (cs.set p d).take (p + 1) = cs.take p ++ [d] := by
      rw [List.take_set, List.take_add_one, List.getElem?_eq_getElem (by omega)]
      simp only [Option.toList_some]
      rw [List.set_append_right _ _ (by rw [List.length_take]; omega), List.length_take, Nat.min_eq_left (by omega), Nat.sub_self]
      rfl
    have e2 : (cs.set p d).drop (p + 1 + ds.length) = cs.drop (p + (ds.length + 1)) := by
      rw [List.drop_set_of_lt (by omega)]
      congr 1
      omega
    rw [e1, e2, List.append_assoc]
    rfl
theorem cellEq_eq {a b : CeD} (h : cellEq a b = true) : a = b := by
  obtain ⟨r, w, fg, bg, a_, ln⟩ := a
  obtain ⟨r', w', fg', bg', a', ln'⟩ := b
  simp only [cellEq, penEq, Bool.and_eq_true, decide_eq_true_eq] at h
  obtain ⟨h1, h2, ⟨⟨h3, h4⟩, h5⟩, h6⟩ := h
  rw [h1, h2, h3, h4, h5, h6]
theorem sameC_eq : ∀ {a b : List CeD}, sameC a b = true → a = b
  | [], [], _ => rfl
  | x :: a, y :: b, h => by
    simp only [sameC, Bool.and_eq_true] at h
    rw [cellEq_eq h.1, sameC_eq h.2]
  | [], _ :: _, h => by cases h
  | _ :: _, [], h => by cases h
theorem mix_row {C y : Nat} {a b : List CeD} (hy : (y + 1) * C ≤ b.length) : b.take (y * C) ++ (rowAt C y b ++ a.drop ((y + 1) * C)) = b.take ((y + 1) * C) ++ a.drop ((y + 1) * C) := by
  rw [← List.append_assoc]
  congr 1
  unfold rowAt
  rw [show (y + 1) * C = y * C + C by rw [Nat.add_mul, Nat.one_mul], List.take_add]
theorem rowsP_told {C R : Nat} {a b : List CeD} (ha : a.length = C * R) (hb : b.length = C * R) (hR : R ≤ 255) (ht : ∀ d ∈ b, Told16 d) : ∀ (y : Nat), y ≤ R → ∃ last : Int, -1 ≤ last ∧ last < (y : Int) ∧ ∀ (j : Nat) (l : List UInt8), rowsP C R ((rowsT C a b y).1 + j) (-1) ((rowsT C a b y).2 ++ l) a = rowsP C R j last l (b.take (y * C) ++ a.drop (y * C))
  | 0, _ => ⟨-1, by omega, by omega, fun j l => by rw [rowsT, Nat.zero_mul, Nat.zero_add]; rfl⟩
  | y + 1, hy => by
    obtain ⟨last, h0, h1, h2⟩ := rowsP_told ha hb hR ht y (by omega)
    have hm : (y + 1) * C ≤ C * R := by rw [Nat.mul_comm C R]; exact Nat.mul_le_mul_right C hy
    have hm2 : (y + 1) * C = y * C + C := by rw [Nat.add_mul, Nat.one_mul]
    rw [rowsT]
    split
    · rename_i hs
      refine ⟨last, h0, by omega, fun j l => ?_⟩
      rw [h2]
      congr 1
      rw [← mix_row (a := a) (b := b) (y := y) (C := C) (by omega)]
      congr 1
      rw [← sameC_eq hs]
      unfold rowAt
      rw [hm2, ← List.drop_drop, List.take_append_drop]
    · refine ⟨(y : Int), by omega, by omega, fun j l => ?_⟩
      have hrl : (rowAt C y b).length = C := rowAt_length (by omega)
      have e : (lo y).toNat = y := lo_small (by omega)
      simp only [List.append_assoc, List.cons_append]
      rw [show (rowsT C a b y).1 + 1 + j = (rowsT C a b y).1 + (j + 1) by omega, h2, rowsP, e]
      rw [if_neg (by omega)]
      have hc := cellsP_told (rowAt C y b) (y * C) l (b.take (y * C) ++ a.drop (y * C)) (fun d hd => ht d (List.mem_of_mem_drop (List.mem_of_mem_take hd))) (by rw [hrl, List.length_append, List.length_take, List.length_drop]; omega)
      rw [hrl] at hc
      rw [hc]
      simp only [if_true]
      congr 1
      rw [List.take_append_of_le_length (by rw [List.length_take]; omega), List.take_take, Nat.min_self, ← mix_row (a := a) (b := b) (y := y) (C := C) (by omega)]
      congr 2
      rw [List.drop_append, List.drop_of_length_le (by rw [List.length_take]; omega), List.nil_append, List.drop_drop, List.length_take]
      congr 1
      omega
theorem readP_told {C R : Nat} {a b : List CeD} (ha : a.length = C * R) (hb : b.length = C * R) (hR : R ≤ 255) (ht : ∀ d ∈ b, Told16 d) : readP C R (lo (rowsT C a b R).1 :: (rowsT C a b R).2) a = (0, b) := by
  obtain ⟨last, _, _, h⟩ := rowsP_told ha hb hR ht R (Nat.le_refl _)
  have h2 := h 0 []
  rw [List.append_nil, Nat.add_zero] at h2
  have hl := rowsT_le C a b R
  rw [readP, lo_small (by omega), h2, rowsP]
  rw [List.take_of_length_le (by rw [hb, Nat.mul_comm]; exact Nat.le_refl _), List.drop_of_length_le (by rw [ha, Nat.mul_comm]; exact Nat.le_refl _), List.append_nil]
  rfl
theorem Fit16.told {s : ScD} {C R : Nat} (h : Fit16 s C R) (hf : fit16 s = true) (hc : ∀ d ∈ s.cells, (0 ≤ d.fg ∧ 0 ≤ d.bg) ∧ (0 ≤ d.at_ ∧ d.at_ ≤ 255) ∧ 0 ≤ d.ln) : ∀ d ∈ s.cells, Told16 d := fun d hd => by
  have h1 := h.rune d hd
  obtain ⟨g0, g1, g2, g3⟩ := h.ce d hd
  obtain ⟨⟨k1, k2⟩, ⟨k3, k4⟩, k5⟩ := hc d hd
  have hr := fit16_right hf
  unfold rightS at hr
  rw [Bool.and_eq_true, Bool.and_eq_true] at hr
  have hk := hr.2.1
  unfold lnkP at hk
  rw [h.lk] at hk
  simp only [Bool.and_eq_true, decide_eq_true_eq] at hk
  have := topGo_zero _ hk.2.2 d hd
  exact ⟨by omega, h1.2, g1, k1, g2, k2, g3, k3, k4, by omega, g0⟩
theorem flags_bits (f0 : Nat) (h t : Bool) (hf : f0 = 0 ∨ f0 = 4) : (lo (flagsN f0 h t)).toNat = flagsN f0 h t ∧ flagsN f0 h t ≤ 7 ∧ (flagsN f0 h t < 4 ↔ f0 = 0) ∧ (flagsN f0 h t % 2 == 1) = h ∧ (flagsN f0 h t / 2 % 2 = 1 ↔ t = true) := by
  rcases hf with rfl | rfl <;> cases h <;> cases t <;> decide
theorem titles_eq {a b : ByteArray} (h : a.toList = b.toList) : a = b := by
  rw [ByteArray.toList_eq, ByteArray.toList_eq] at h
  cases a; cases b
  congr 1
  exact Array.toList_inj.1 h
/-- A diff laid from a base of the same size leads to the screen. -/
theorem app16_lay {a base b : ScD} {C R f0 : Nat} (hfa : fit16 a = true) (hfb : fit16 b = true) (hb : Fit16 b C R) (hf0 : f0 = 0 ∨ f0 = 4) (hbase : (f0 = 0 → base = a ∧ Fit16 a C R) ∧ (f0 = 4 → base = blankS C R)) (ht : ∀ d ∈ b.cells, Told16 d) : app16 a (layB base b f0) = (b, 0) := by
  have c1 := hb.c1; have c2 := hb.c2; have r1 := hb.r1; have r2 := hb.r2
  have x0 := hb.x0; have x1 := hb.x1; have y0 := hb.y0; have y1 := hb.y1
  obtain ⟨t, et⟩ : ∃ t, (!(b.title.toList == base.title.toList)) = t := ⟨_, rfl⟩
  obtain ⟨q1, q2, q3, q4, q5⟩ := flags_bits f0 b.hid t hf0
  have ec : (lo b.cols.toNat).toNat = C := by rw [hb.c, Int.toNat_natCast]; exact lo_small (by omega)
  have er : (lo b.rows.toNat).toNat = R := by rw [hb.r, Int.toNat_natCast]; exact lo_small (by omega)
  have ex : ((lo b.x.toNat).toNat : Int) = b.x := by rw [lo_small (by omega)]; omega
  have ey : ((lo b.y.toNat).toNat : Int) = b.y := by rw [lo_small (by omega)]; omega
  have hfit : fitsI (C : Int) (R : Int) = true := by
    simp only [fitsI, Bool.and_eq_true, decide_eq_true_eq]; omega
  obtain ⟨L, eL⟩ : ∃ L, L = lo (rowsT b.cols.toNat base.cells b.cells b.rows.toNat).1 :: (rowsT b.cols.toNat base.cells b.cells b.rows.toNat).2 := ⟨_, rfl⟩
  have hL : layB base b f0 = lo b.cols.toNat :: lo b.rows.toNat :: lo b.x.toNat :: lo b.y.toNat :: lo (flagsN f0 b.hid t) :: (ttlB t b.title ++ L) := by
    unfold layB headB
    rw [et, eL]
    rfl
  -- the base
  have hb16 : ∃ tt, base16 a C R (lo b.x.toNat).toNat (lo b.y.toNat).toNat (flagsN f0 b.hid t) = ⟨b.cols, b.rows, base.cells, b.x, b.y, b.hid, b.mouse, tt, b.links⟩ ∧ tt = base.title ∧ base.cells.length = C * R := by
    unfold base16
    rw [q4, ex, ey]
    rcases hf0 with rfl | rfl
    · obtain ⟨rfl, hA⟩ := hbase.1 rfl
      rw [if_pos (q3.2 rfl)]
      refine ⟨base.title, ?_, rfl, hA.len⟩
      dsimp only
      rw [hA.c, hA.r, hA.mo, hA.lk, hb.c, hb.r, hb.mo, hb.lk]
    · have hA := hbase.2 rfl
      subst hA
      rw [if_neg (by rw [q3]; decide)]
      refine ⟨⟨#[]⟩, ?_, rfl, ?_⟩
      · rw [hb.c, hb.r, hb.mo, hb.lk]; rfl
      · show (List.replicate ((C : Int) * (R : Int)).toNat blankD).length = C * R
        rw [List.length_replicate, ← Int.natCast_mul]; rfl
  obtain ⟨tt, hb16, ett, hbl⟩ := hb16
  have htit : titP (flagsN f0 b.hid t) tt (ttlB t b.title ++ L) = some (b.title, L) := by
    unfold titP
    cases t with
    | true =>
      rw [if_pos (q5.2 rfl)]
      have htl := hb.tl
      have e1 : ttlB true b.title ++ L = lo b.title.size :: (strB b.title ++ L) := rfl
      rw [e1]
      simp only []
      rw [lo_small (by omega), if_neg (by rw [List.length_append, strB_len]; omega), List.take_append_of_le_length (by rw [strB_len]; exact Nat.le_refl _), List.take_of_length_le (by rw [strB_len]; exact Nat.le_refl _), List.drop_append_of_le_length (by rw [strB_len]; exact Nat.le_refl _), List.drop_of_length_le (by rw [strB_len]; exact Nat.le_refl _)]
      rfl
    | false =>
      rw [if_neg (by rw [q5]; decide)]
      have e2 : b.title = tt := by
        rw [Bool.not_eq_false', beq_iff_eq] at et
        rw [ett]
        exact titles_eq et
      rw [e2]
      rfl
  have hread : readP C R L base.cells = (0, b.cells) := by
    rw [eL, hb.c, hb.r, Int.toNat_natCast, Int.toNat_natCast]
    exact readP_told hbl hb.len (by omega) ht
  rw [hL]
  unfold app16
  rw [if_pos hfa]
  simp only []
  rw [ec, er, q1, if_neg (by rw [hfit]; simp; omega), if_neg ?_, hb16]
  · simp only []
    rw [htit]
    simp only []
    rw [hread]
    unfold end16
    rw [if_pos rfl]
    simp only []
    rw [if_pos hfb]
  · rintro ⟨h1, h2⟩
    obtain ⟨_, hA⟩ := hbase.1 (q3.1 h1)
    exact h2 ⟨hA.c.symm, hA.r.symm⟩
end Go.Proofs.YtipofokinjkclaaDoor


/- What the reader of the layer wire does: its small methods. Conditions: a reader that lies in a block of its own. -/
namespace Go.Proofs.YtipofokinjkclaaDoor
open Go Go.RowKit

/-- A reader's state: its bytes, its place, its error; where its bytes lie (no word of the program's). -/
structure RS where
  b : List UInt8
  at_ : Nat
  err : Nat
  gA : Option Addr

/-- Block r holds the reader s. -/
def Rdr (w : World) (r : Nat) (s : RS) : Prop :=
  ∃ A c, w.heap[r]? = some (.cells #[.slice A s.b.length c, .int .i64 (s.at_ : Int), .int .i64 (s.err : Int)] 149 (0, 0)) ∧ Rd w A (s.b.map bv) ∧ (A = s.gA ∧ ∀ a, A = some a → a.block ≠ r) ∧
    s.b.length ≤ c ∧ c ≤ maxLen ∧ s.at_ ≤ s.b.length ∧ s.b.length ≤ 140737488355328

theorem Rdr.below {w w' : World} {r : Nat} {s : RS} (h : Rdr w r s) (hb : Below w.heap.size w w') : Rdr w' r s := by
  obtain ⟨A, c, h1, h2, h3⟩ := h
  exact ⟨A, c, (hb.block r (heap_lt h1)).trans h1, h2.below hb, h3⟩
theorem Rdr.drewN {w : World} {r : Nat} {s : RS} (h : Rdr w r s) (n : Nat) : Rdr (w.drewN n) r s := h
theorem Rdr.lt {w : World} {r : Nat} {s : RS} (h : Rdr w r s) : r < w.heap.size := by
  obtain ⟨A, c, h1, _⟩ := h; exact heap_lt h1

set_option maxRecDepth 100000 in
set_option maxHeartbeats 400000 in
theorem Rnew_c (A : Option Addr) (n c : Nat) (bs : List UInt8) (w : World) (hn : bs.length = n) (hr : Rd w A (bs.map bv)) (hl : n ≤ 140737488355328) :
    Calls Tryd.prog 76 #[.slice A n c] w fun e w' => ∃ r A', e = .returned (.pointer (some ⟨r, 0, none⟩)) ∧ w.heap.size ≤ r ∧ Rdr w' r ⟨bs, 0, 0, A'⟩ ∧ Below w.heap.size w w' ∧ ∀ a, A' = some a → w.heap.size ≤ a.block ∧ a.block < w'.heap.size := by
  have HN := Lib.hid hn; clear hn
  go_enter Tryd.func76, Tryd.ntmps76
  go_wp2_with (first | (at_builtin; refine wpList_cloneB _ rfl (.tmp 3) rfl A n c bs rfl HN.out hr hl ?_; intro A' c' w2 h1 h2 h3 h4 h5 h6; have H1 := Lib.hid h1; clear h1; have H5 := Lib.hid h5; clear h5; have H6 := Lib.hid h6; clear h6))
  go_ret
  have hz := h2.size
  refine ⟨_, A', rfl, hz, ⟨A', c', ?_, Rd.alloc H5.out _, ⟨rfl, ?_⟩, by simp [HN.out]; exact h3, h4, Nat.zero_le _, by simp [HN.out]; exact hl⟩, h2.alloc hz _, ?_⟩
  · rw [heap_alloc_new]; simp [HN.out]
  · intro a ha; have := (H6.out a ha).2; omega
  · intro a ha; have := H6.out a ha; simp only [World.size_alloc]; omega

/-- The reader's cells, for a walk. -/
theorem Rdr.open_ {w : World} {r : Nat} {s : RS} (h : Rdr w r s) : ∃ A c, (w.cell? ⟨r, 0, none⟩ = some (.slice A s.b.length c) ∧ w.cell? ⟨r, 1, none⟩ = some (.int .i64 (s.at_ : Int)) ∧ w.cell? ⟨r, 2, none⟩ = some (.int .i64 (s.err : Int))) ∧
    (w.frozen? ⟨r, 0, none⟩ = false ∧ w.frozen? ⟨r, 1, none⟩ = false ∧ w.frozen? ⟨r, 2, none⟩ = false) ∧ Rd w A (s.b.map bv) ∧ s.b.length ≤ c ∧ c ≤ maxLen ∧ s.at_ ≤ s.b.length ∧ s.b.length ≤ 140737488355328 := by
  obtain ⟨A, c, h1, h2, h3, h4, h5, h6, h7⟩ := h
  exact ⟨A, c, ⟨by rw [heap_cell h1]; rfl, by rw [heap_cell h1]; rfl, by rw [heap_cell h1]; rfl⟩, ⟨heap_free h1 _, heap_free h1 _, heap_free h1 _⟩, h2, h4, h5, h6, h7⟩
theorem Rdr.setErr {w : World} {r : Nat} {s : RS} (h : Rdr w r s) (e : Nat) : Rdr (w.setCell ⟨r, 2, none⟩ (.int .i64 (e : Int))) r { s with err := e } := by
  obtain ⟨A, c, h1, h2, h3, h4⟩ := h
  exact ⟨A, c, by rw [heap_set h1]; rfl, h2.far _ h3.2, h3, h4⟩
theorem Rdr.setAt {w : World} {r : Nat} {s : RS} (h : Rdr w r s) (k : Nat) (hk : k ≤ s.b.length) : Rdr (w.setCell ⟨r, 1, none⟩ (.int .i64 (k : Int))) r { s with at_ := k } := by
  obtain ⟨A, c, h1, h2, h3, h4, h5, _, h6⟩ := h
  exact ⟨A, c, by rw [heap_set h1]; rfl, h2.far _ h3.2, h3, h4, h5, hk, h6⟩
/-! ### Err, Left, End -/
set_option maxRecDepth 100000 in
set_option maxHeartbeats 400000 in
theorem Rerr_c (r : Nat) (s : RS) (w : World) (h : Rdr w r s) :
    Calls Tryd.prog 79 #[.pointer (some ⟨r, 0, none⟩)] w fun e w' => e = .returned (.int .i64 (s.err : Int)) ∧ w = w' := by
  obtain ⟨A, c, ⟨c0, c1, c2⟩, _, _⟩ := h.open_
  go_enter Tryd.func79, Tryd.ntmps79
  go_wp2
  go_ret
  exact ⟨rfl, rfl⟩

set_option maxRecDepth 100000 in
set_option maxHeartbeats 400000 in
theorem Rleft_c (r : Nat) (s : RS) (w : World) (h : Rdr w r s) :
    Calls Tryd.prog 85 #[.pointer (some ⟨r, 0, none⟩)] w fun e w' => e = .returned (.int .i64 ((s.b.length - s.at_ : Nat) : Int)) ∧ ∃ q, w' = w.drewN q := by
  obtain ⟨A, c, ⟨c0, c1, c2⟩, _, _, _, _, hk, hl⟩ := h.open_
  have e1 : ((s.b.length - s.at_ : Nat) : Int) = (s.b.length : Int) - (s.at_ : Int) := by omega
  rw [e1]
  clear e1
  go_enter Tryd.func85, Tryd.ntmps85
  go_wp2
  go_quiet (fail)
  go_wp2
  go_ret
  exact ⟨rfl, _, rfl⟩

def endR (s : RS) : Nat := if s.err = 0 ∧ s.at_ < s.b.length then 6 else s.err

set_option maxRecDepth 100000 in
set_option maxHeartbeats 400000 in
theorem Rend_c (r : Nat) (s : RS) (w : World) (h : Rdr w r s) :
    Calls Tryd.prog 121 #[.pointer (some ⟨r, 0, none⟩)] w fun e w' => e = .returned (.int .i64 (endR s : Int)) ∧ ∃ q, w' = w.drewN q := by
  by_cases h0 : s.err = 0
  · have hb : (((s.err : Nat) : Int) == 0) = true := by rw [beq_iff_eq]; omega
    by_cases h1 : s.at_ < s.b.length
    · have hd : decide ((0 : Int) < ((s.b.length - s.at_ : Nat) : Int)) = true := decide_eq_true (by omega)
      have e1 : endR s = 6 := if_pos ⟨h0, h1⟩
      rw [e1]
      clear e1
      have H0 := Lib.hid h0; clear h0
      go_enter Tryd.func121, Tryd.ntmps121
      go_wp2_with (first | (go_at_call 79; refine (Rerr_c _ _ _ h).mono ?_; rintro e w' ⟨rfl, rfl⟩) | (go_at_call 85; refine (Rleft_c _ _ _ h).mono ?_; rintro e w' ⟨rfl, q, rfl⟩))
      go_ret
      exact ⟨rfl, _, rfl⟩
    · have hd : decide ((0 : Int) < ((s.b.length - s.at_ : Nat) : Int)) = false := decide_eq_false (by omega)
      have e1 : endR s = s.err := if_neg (fun h => h1 h.2)
      rw [e1]
      clear e1
      have H0 := Lib.hid h0; clear h0
      go_enter Tryd.func121, Tryd.ntmps121
      go_wp2_with (first | (go_at_call 79; first | (refine (Rerr_c _ _ _ h).mono ?_; rintro e w' ⟨rfl, rfl⟩) | (refine (Rerr_c _ _ _ (h.drewN _)).mono ?_; rintro e w' ⟨rfl, rfl⟩)) | (go_at_call 85; refine (Rleft_c _ _ _ h).mono ?_; rintro e w' ⟨rfl, q, rfl⟩))
      go_ret
      exact ⟨rfl, _, rfl⟩
  · have hb : (((s.err : Nat) : Int) == 0) = false := by rw [beq_eq_false_iff_ne]; omega
    have e1 : endR s = s.err := if_neg (fun h => h0 h.1)
    rw [e1]
    clear e1
    have H0 := Lib.hid h0; clear h0
    go_enter Tryd.func121, Tryd.ntmps121
    go_wp2_with (first | (go_at_call 79; refine (Rerr_c _ _ _ h).mono ?_; rintro e w' ⟨rfl, rfl⟩))
    go_ret
    exact ⟨rfl, 0, rfl⟩
end Go.Proofs.YtipofokinjkclaaDoor


/- What the reader of the layer wire does: Var. Conditions: a reader that lies in a block of its own. -/
namespace Go.Proofs.YtipofokinjkclaaDoor
open Go Go.RowKit

end Go.Proofs.YtipofokinjkclaaDoor

