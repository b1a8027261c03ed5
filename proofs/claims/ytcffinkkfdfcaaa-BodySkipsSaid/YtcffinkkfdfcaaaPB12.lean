/- Parts one behind the other: What the reference's Same answers of one part and one part; What the reference's DataMay and SameData answer; A region that draws its order, by a relation for each operation: what each yields is told by a relation that stays true as the world grows; then whatever the order, all relations hold at the end; What body.putFirst lays: data's bytes in the first version. Conditions: as told at each. -/
import Derived.Test.YtcffinkkfdfcaaaPB11
import Derived.Test.YtcffinkkfdfcaaaPB1
import Derived.Deep.RegionHeld3

set_option linter.unusedVariables false
set_option linter.unusedSimpArgs false
/- What the reference's Same answers of one part and one part. Conditions: texts that can be read. -/
namespace Go.Proofs.Ytcffinkkfdfcaaa
open Go Go.RowKit

theorem Same_qg (A1 A2 : Option Addr) (n1 n2 c1 c2 : Nat) (xs ys : List UInt8) (w : World) (l1 : xs.length = n1) (l2 : ys.length = n2) (h1 : Rd w A1 (xs.map bv)) (h2 : Rd w A2 (ys.map bv)) (m1 : n1 ≤ maxLen) (B : Bool) (hB : sameB xs ys = B) (q m : Nat) :
    Calls Try.prog 13 #[.slice A1 n1 c1, .slice A2 n2 c2] (w.drewN (q + m)) fun e w' => e = .returned (.bool B) ∧ ∃ k, w' = w.drewN (q + k) :=
  (Same_c A1 A2 n1 n2 c1 c2 xs ys (w.drewN (q + m)) l1 l2 (h1.drewN _) (h2.drewN _) m1).mono fun _ _ ⟨he, q', hw⟩ => ⟨by rw [he, hB], m + q', by rw [hw, World.drewN_drewN, Nat.add_assoc]⟩
theorem four_of {w : World} {g : Nat} {t : TypeId} {a b c d : Value} (h : w.heap[g]? = some (.cells #[a, b, c, d] t (0, 0))) :
    w.cell? ⟨g, 0, none⟩ = some a ∧ w.cell? ⟨g, 1, none⟩ = some b ∧ w.cell? ⟨g, 2, none⟩ = some c ∧ w.cell? ⟨g, 3, none⟩ = some d := by
  refine ⟨?_, ?_, ?_, ?_⟩ <;> (rw [heap_cell h]; rfl)
def samePB (i1 i2 : Nat) (x1 x2 t1 t2 : Int) (b1 b2 : List UInt8) : Bool := if i1 = i2 then if x1 = x2 then if t1 = t2 then sameB b1 b2 else false else false else false
set_option maxRecDepth 100000 in
set_option maxHeartbeats 4000000 in
theorem Same1_c (i1 i2 : Nat) (x1 x2 t1 t2 : Int) (g1 g2 : Nat) (A1 A2 : Option Addr) (n1 n2 c1 c2 : Nat) (b1 b2 : List UInt8) (w : World) (l1 : b1.length = n1) (l2 : b2.length = n2) (r1 : Rd w A1 (b1.map bv)) (r2 : Rd w A2 (b2.map bv)) (m1 : n1 ≤ maxLen)
    (h1 : w.heap[g1]? = some (.cells #[.int .u32 (i1 : Int), .int .i64 x1, .int .i64 t1, .slice A1 n1 c1] 27 (0, 0))) (h2 : w.heap[g2]? = some (.cells #[.int .u32 (i2 : Int), .int .i64 x2, .int .i64 t2, .slice A2 n2 c2] 27 (0, 0))) :
    Calls Try.prog 41 #[.slice (some ⟨g1, 0, none⟩) 1 1, .slice (some ⟨g2, 0, none⟩) 1 1] w fun r w' => r = .returned (.bool (samePB i1 i2 x1 x2 t1 t2 b1 b2)) ∧ ∃ q, w' = w.drewN q := by
  have L1 := Lib.hid l1
  have L2 := Lib.hid l2
  clear l1 l2
  obtain ⟨p0, p1, p2, p3⟩ := four_of h1
  obtain ⟨q0, q1, q2, q3⟩ := four_of h2
  clear h1 h2
  obtain ⟨R, hR⟩ : ∃ R, R = samePB i1 i2 x1 x2 t1 t2 b1 b2 := ⟨_, rfl⟩
  rw [← hR]
  have HR := Lib.hid hR; clear hR
  by_cases k1 : i1 = i2
  · subst k1
    by_cases k2 : x1 = x2
    · subst k2
      by_cases k3 : t1 = t2
      · subst k3
        have HF : Hid (samePB i1 i1 x1 x1 t1 t1 b1 b2 = sameB b1 b2) := Lib.hid (by unfold samePB; rw [if_pos rfl, if_pos rfl, if_pos rfl])
        obtain ⟨B, hB⟩ : ∃ B, B = sameB b1 b2 := ⟨_, rfl⟩
        cases B with
        | true =>
          have HF : Hid (samePB i1 i1 x1 x1 t1 t1 b1 b2 = true) := Lib.hid (HF.out.trans hB.symm)
          have HB : Hid (sameB b1 b2 = true) := Lib.hid hB.symm
          clear hB
          have d1 : ((i1 : Int) == (i1 : Int)) = true := by simp
          have e1 : ((i1 : Int) != (i1 : Int)) = false := by simp
          have d2 : (x1 == x1) = true := by simp
          have e2 : (x1 != x1) = false := by simp
          have d3 : (t1 == t1) = true := by simp
          have e3 : (t1 != t1) = false := by simp
          go_enter Try.func41, Try.ntmps41
          go_wp2
          go_loopw [13] (fun i wr => (i = .int .i64 0 ∨ (i = .int .i64 1 ∧ Hid (R = true))) ∧ ∃ q, wr = w.drewN q) (fun i _ => 1 - (intOf i).toNat)
          case atStart => exact ⟨.inl rfl, 0, rfl⟩
          case round =>
            obtain ⟨hi, q, rfl⟩ := hrel
            rcases hi with rfl | ⟨rfl, HT⟩
            · go_wp2
              go_quiet ((go_at_call 13; exact Same_qg A1 A2 n1 n2 c1 c2 b1 b2 _ L1.out L2.out r1 r2 m1 _ HB.out _ _))
              go_wp2
              go_roundw
              case rel => exact ⟨.inr ⟨rfl, Lib.hid (HR.out.trans HF.out)⟩, by first | exact ⟨_, rfl⟩ | exact ⟨_, World.drewN_drewN _ _ _⟩ | exact ⟨_, by rw [World.drewN_drewN]⟩⟩
              case measure => simp [intOf]
            · go_wp2
              go_ret
              exact ⟨by rw [HT.out]; rfl, _, rfl⟩
        | false =>
          have HF : Hid (samePB i1 i1 x1 x1 t1 t1 b1 b2 = false) := Lib.hid (HF.out.trans hB.symm)
          have HB : Hid (sameB b1 b2 = false) := Lib.hid hB.symm
          clear hB
          have d1 : ((i1 : Int) == (i1 : Int)) = true := by simp
          have e1 : ((i1 : Int) != (i1 : Int)) = false := by simp
          have d2 : (x1 == x1) = true := by simp
          have e2 : (x1 != x1) = false := by simp
          have d3 : (t1 == t1) = true := by simp
          have e3 : (t1 != t1) = false := by simp
          go_enter Try.func41, Try.ntmps41
          go_wp2
          go_loopw [13] (fun i wr => (i = .int .i64 0 ∨ (i = .int .i64 1 ∧ Hid (R = true))) ∧ ∃ q, wr = w.drewN q) (fun i _ => 1 - (intOf i).toNat)
          case atStart => exact ⟨.inl rfl, 0, rfl⟩
          case round =>
            obtain ⟨hi, q, rfl⟩ := hrel
            rcases hi with rfl | ⟨rfl, HT⟩
            · go_wp2
              go_quiet ((go_at_call 13; exact Same_qg A1 A2 n1 n2 c1 c2 b1 b2 _ L1.out L2.out r1 r2 m1 _ HB.out _ _))
              go_wp2
              go_ret
              exact ⟨by rw [HR.out, HF.out]; rfl, by first | exact ⟨_, rfl⟩ | exact ⟨_, World.drewN_drewN _ _ _⟩ | exact ⟨_, by rw [World.drewN_drewN]⟩⟩
            · go_wp2
              go_ret
              exact ⟨by rw [HT.out]; rfl, _, rfl⟩
      · have HF : Hid (samePB i1 i1 x1 x1 t1 t2 b1 b2 = false) := Lib.hid (by unfold samePB; rw [if_pos rfl, if_pos rfl, if_neg k3])
        have d1 : ((i1 : Int) == (i1 : Int)) = true := by simp
        have e1 : ((i1 : Int) != (i1 : Int)) = false := by simp
        have d2 : (x1 == x1) = true := by simp
        have e2 : (x1 != x1) = false := by simp
        have d3 : (t1 == t2) = false := by rw [beq_eq_false_iff_ne]; omega
        have e3 : (t1 != t2) = true := by rw [bne_iff_ne]; omega
        clear k3
        have HB : Hid (sameB b1 b2 = sameB b1 b2) := Lib.hid rfl
        go_enter Try.func41, Try.ntmps41
        go_wp2
        go_loopw [13] (fun i wr => (i = .int .i64 0 ∨ (i = .int .i64 1 ∧ Hid (R = true))) ∧ ∃ q, wr = w.drewN q) (fun i _ => 1 - (intOf i).toNat)
        case atStart => exact ⟨.inl rfl, 0, rfl⟩
        case round =>
          obtain ⟨hi, q, rfl⟩ := hrel
          rcases hi with rfl | ⟨rfl, HT⟩
          · go_wp2
            go_quiet ((go_at_call 13; exact Same_qg A1 A2 n1 n2 c1 c2 b1 b2 _ L1.out L2.out r1 r2 m1 _ HB.out _ _))
            go_wp2
            go_ret
            exact ⟨by rw [HR.out, HF.out]; rfl, by first | exact ⟨_, rfl⟩ | exact ⟨_, World.drewN_drewN _ _ _⟩ | exact ⟨_, by rw [World.drewN_drewN]⟩⟩
          · go_wp2
            go_ret
            exact ⟨by rw [HT.out]; rfl, _, rfl⟩
    · have HF : Hid (samePB i1 i1 x1 x2 t1 t2 b1 b2 = false) := Lib.hid (by unfold samePB; rw [if_pos rfl, if_neg k2])
      have d1 : ((i1 : Int) == (i1 : Int)) = true := by simp
      have e1 : ((i1 : Int) != (i1 : Int)) = false := by simp
      have d2 : (x1 == x2) = false := by rw [beq_eq_false_iff_ne]; omega
      have e2 : (x1 != x2) = true := by rw [bne_iff_ne]; omega
      clear k2
      have HB : Hid (sameB b1 b2 = sameB b1 b2) := Lib.hid rfl
      go_enter Try.func41, Try.ntmps41
      go_wp2
      go_loopw [13] (fun i wr => (i = .int .i64 0 ∨ (i = .int .i64 1 ∧ Hid (R = true))) ∧ ∃ q, wr = w.drewN q) (fun i _ => 1 - (intOf i).toNat)
      case atStart => exact ⟨.inl rfl, 0, rfl⟩
      case round =>
        obtain ⟨hi, q, rfl⟩ := hrel
        rcases hi with rfl | ⟨rfl, HT⟩
        · go_wp2
          go_quiet ((go_at_call 13; exact Same_qg A1 A2 n1 n2 c1 c2 b1 b2 _ L1.out L2.out r1 r2 m1 _ HB.out _ _))
          go_wp2
          go_ret
          exact ⟨by rw [HR.out, HF.out]; rfl, by first | exact ⟨_, rfl⟩ | exact ⟨_, World.drewN_drewN _ _ _⟩ | exact ⟨_, by rw [World.drewN_drewN]⟩⟩
        · go_wp2
          go_ret
          exact ⟨by rw [HT.out]; rfl, _, rfl⟩
  · have HF : Hid (samePB i1 i2 x1 x2 t1 t2 b1 b2 = false) := Lib.hid (by unfold samePB; rw [if_neg k1])
    have d1 : ((i1 : Int) == (i2 : Int)) = false := by rw [beq_eq_false_iff_ne]; omega
    have e1 : ((i1 : Int) != (i2 : Int)) = true := by rw [bne_iff_ne]; omega
    clear k1
    have HB : Hid (sameB b1 b2 = sameB b1 b2) := Lib.hid rfl
    go_enter Try.func41, Try.ntmps41
    go_wp2
    go_loopw [13] (fun i wr => (i = .int .i64 0 ∨ (i = .int .i64 1 ∧ Hid (R = true))) ∧ ∃ q, wr = w.drewN q) (fun i _ => 1 - (intOf i).toNat)
    case atStart => exact ⟨.inl rfl, 0, rfl⟩
    case round =>
      obtain ⟨hi, q, rfl⟩ := hrel
      rcases hi with rfl | ⟨rfl, HT⟩
      · go_wp2
        go_quiet ((go_at_call 13; exact Same_qg A1 A2 n1 n2 c1 c2 b1 b2 _ L1.out L2.out r1 r2 m1 _ HB.out _ _))
        go_wp2
        go_ret
        exact ⟨by rw [HR.out, HF.out]; rfl, by first | exact ⟨_, rfl⟩ | exact ⟨_, World.drewN_drewN _ _ _⟩ | exact ⟨_, by rw [World.drewN_drewN]⟩⟩
      · go_wp2
        go_ret
        exact ⟨by rw [HT.out]; rfl, _, rfl⟩
end Go.Proofs.Ytcffinkkfdfcaaa

/- What the reference's DataMay and SameData answer. Conditions: texts that can be read. -/
namespace Go.Proofs.Ytcffinkkfdfcaaa
open Go Go.RowKit

theorem at_new {w : World} {o : Obj} {k : Nat} (h : k = w.heap.size) : (w.alloc o).heap[k]? = some o := by rw [h]; exact heap_alloc_new w o
theorem at_old {w : World} {o x : Obj} {k : Nat} (h : w.heap[k]? = some x) : (w.alloc o).heap[k]? = some x := by
  rw [Below.heap_alloc _ _ _ (by rcases Nat.lt_or_ge k w.heap.size with q | q; exact q; rw [Array.getElem?_eq_none q] at h; cases h)]; exact h
theorem samePB_zero (id : Nat) (ix ct : Int) (bs : List UInt8) (n : Nat) (h : bs.length = n) : samePB id 0 ix 0 ct 0 bs [] = dataB false id ix ct n := by
  have e : dataB false id ix ct n = noneB id ix ct n := rfl
  rw [e, noneB, samePB]
  by_cases h1 : id = 0
  · by_cases h2 : ix = 0
    · by_cases h3 : ct = 0
      · rw [if_pos h1, if_pos h2, if_pos h3]
        cases bs with
        | nil => subst h; rw [decide_eq_true (by exact ⟨h1, h2, h3, rfl⟩)]; simp [sameB]
        | cons a t => rw [decide_eq_false (by intro hh; have := hh.2.2.2; rw [← h] at this; simp at this)]; simp [sameB]
      · rw [if_pos h1, if_pos h2, if_neg h3, decide_eq_false (fun hh => h3 hh.2.2.1)]
    · rw [if_pos h1, if_neg h2, decide_eq_false (fun hh => h2 hh.2.1)]
  · rw [if_neg h1, decide_eq_false (fun hh => h1 hh.1)]
set_option maxRecDepth 100000 in
set_option maxHeartbeats 4000000 in
theorem dataMay21_c (st ec ak th : Nat) (has : Bool) (id : Nat) (ix ct : Int) (A : Option Addr) (n c : Nat) (bs : List UInt8) (w : World) (hn : bs.length = n) (hr : Rd w A (bs.map bv)) (hl : n ≤ maxLen) : Calls Try.prog 36 #[.agg #[.int .u16 (st : Int), .int .u16 (ec : Int), .int .u64 (ak : Int), .int .u64 (th : Int), .bool has, .int .u32 (id : Int), .int .i64 ix, .int .i64 ct, .slice A n c]] w fun r w' => r = .returned (.bool (dataB has id ix ct n)) ∧ Below w.heap.size w w' := by
  obtain ⟨w1, ew1⟩ : ∃ w1, w1 = w.alloc (.cells #[.int .u16 (st : Int), .int .u16 (ec : Int), .int .u64 (ak : Int), .int .u64 (th : Int), .bool has, .int .u32 (id : Int), .int .i64 ix, .int .i64 ct, .slice A n c] 29) := ⟨_, rfl⟩
  have kb : Below w.heap.size w w1 := by rw [ew1]; exact (Below.refl _ _).alloc (Nat.le_refl _) _
  have HN := Lib.hid hn
  have HR := Lib.hid hr
  clear hn hr
  cases has with
  | true =>
    subst ew1
    go_enter Try.func36, Try.ntmps36
    go_wp2_with (fail)
    refine (may20_c id ix ct A n c _).mono ?_
    rintro _ w2 ⟨rfl, hb⟩
    have K1 := Lib.hid (kb.trans (hb.mono kb.size))
    clear hb
    go_wp2
    go_ret
    exact ⟨rfl, K1.out⟩
  | false =>
    have HRZ := Lib.hid (samePB_zero id ix ct bs n HN.out)
    obtain ⟨R, hR⟩ : ∃ R, R = dataB false id ix ct n := ⟨_, rfl⟩
    rw [← hR] at HRZ ⊢
    clear hR
    have KB := Lib.hid kb
    clear kb
    subst ew1
    go_enter Try.func36, Try.ntmps36
    go_wp2_with (fail)
    refine (Same1_c id 0 ix 0 ct 0 _ _ A none n 0 c 0 bs [] _ HN.out rfl (((HR.out.alloc _).alloc _).alloc _) (Rd.nil_) hl (at_old (at_new (by simp))) (at_new (by simp))).mono ?_
    rintro _ w2 ⟨rfl, q, rfl⟩
    rw [HRZ.out]
    go_wp2
    go_ret
    exact ⟨rfl, below_drewN (((KB.out.alloc KB.out.size _).alloc (by simp; omega) _)) q⟩
set_option maxRecDepth 100000 in
set_option maxHeartbeats 4000000 in
theorem SameData_t (st ec ak th : Nat) (has : Bool) (id : Nat) (ix ct : Int) (A1 A2 : Option Addr) (n c1 c2 : Nat) (bs : List UInt8) (w : World) (hn : bs.length = n) (r1 : Rd w A1 (bs.map bv)) (r2 : Rd w A2 (bs.map bv)) (hl : n ≤ maxLen) :
    Calls Try.prog 14 #[.agg #[.int .u16 (st : Int), .int .u16 (ec : Int), .int .u64 (ak : Int), .int .u64 (th : Int), .bool has, .int .u32 (id : Int), .int .i64 ix, .int .i64 ct, .slice A1 n c1], .agg #[.int .u16 (st : Int), .int .u16 (ec : Int), .int .u64 (ak : Int), .int .u64 (th : Int), .bool has, .int .u32 (id : Int), .int .i64 ix, .int .i64 ct, .slice A2 n c2]] w fun r w' => r = .returned (.bool true) ∧ Below w.heap.size w w' := by
  have HN := Lib.hid hn
  have R1 := Lib.hid r1
  have R2 := Lib.hid r2
  clear hn r1 r2
  have d1 : ((st : Int) == (st : Int)) = true := by simp
  have d2 : ((ec : Int) == (ec : Int)) = true := by simp
  have d3 : ((ak : Int) == (ak : Int)) = true := by simp
  have d4 : ((th : Int) == (th : Int)) = true := by simp
  have d5 : (has == has) = true := by simp
  go_enter Try.func14, Try.ntmps14
  go_wp2_with (fail)
  refine (Same1_c id id ix ix ct ct _ _ A1 A2 n n c1 c2 bs bs _ HN.out HN.out ((((R1.out.alloc _).alloc _).alloc _).alloc _) ((((R2.out.alloc _).alloc _).alloc _).alloc _) hl (at_old (at_new (by simp))) (at_new (by simp))).mono ?_
  rintro _ w2 ⟨rfl, q, rfl⟩
  have e : samePB id id ix ix ct ct bs bs = true := by unfold samePB; rw [if_pos rfl, if_pos rfl, if_pos rfl]; exact sameB_true rfl
  rw [e]; clear e
  go_wp2
  go_ret
  exact ⟨rfl, below_drewN (((((Below.refl w.heap.size w).alloc (Nat.le_refl _) _).alloc (by simp) _).alloc (by simp; omega) _).alloc (by simp; omega) _) q⟩
end Go.Proofs.Ytcffinkkfdfcaaa

/- A region that draws its order, by a relation for each operation: what each yields is told by a relation that stays true as the world grows; then whatever the order, all relations hold at the end. No order is gone through. Conditions: each slot is written once; no operation panics. -/
namespace Go.Proofs.Ytcffinkkfdfcaaa
open Go Go.RowKit

/-- What an operand is, the slots told by f. -/
def evF (f : Nat → Value) : Operand → Value
  | .tmp t => f t
  | .const v => v
  | .global g => .pointer (some ⟨g, 0, none⟩)
  | .func k => .func (.func k) #[] #[]
theorem evF_eval (a : Act) : a.eval = evF (fun t => a.tmps.getD t undef) := by
  funext x
  cases x <;> rfl
/-- What an operation yields, and the world behind it; it does not panic. -/
def Gives (P : Program) (o : Oper) (f : Nat → Value) (w : World) (K : Value → World → Prop) : Prop :=
  match (execOp (evF f) o).run P w with
  | .ok (.value v) w' => K v w'
  | .ok .skip w' => K undef w'
  | .ok (.enter k args) w' => Calls P k args w' fun e w'' => ∃ v, e = .returned v ∧ K v w''
  | _ => False
theorem Gives.wp {P : Program} {o : Oper} {a : Act} {w : World} {K : Act → World → Prop} {Q : Exit → Act → World → Prop}
    (h : Gives P o (fun t => a.tmps.getD t undef) w (fun v w' => K (a.put o.dst v) w')) : Oper.wp P o a w K Q := by
  unfold Gives at h
  rw [← evF_eval] at h
  unfold Oper.wp
  generalize (execOp a.eval o).run P w = r at h
  cases r with
  | ok n w' =>
    cases n <;> simp only [Oper.upon] at h ⊢
    case value v => exact h
    case skip => exact h
    case enter k args => exact Calls.mono h fun e w'' ⟨v, he, hk⟩ => by subst he; exact hk
    all_goals exact h.elim
  | halt x w' => exact h.elim

def dstOf (ops : Array Oper) (i : Nat) : Option Tmp := (ops[i]?).bind (·.dst)
/-- Which value a guard's operation has yielded. -/
def yieldedF (ops : Array Oper) (f : Nat → Value) (j : Nat) : Option Bool :=
  match dstOf ops j with
  | some d => (match f d with | .bool b => some b | _ => none)
  | none => none
/-- Each slot is written once, and is there. -/
def slotsOk (ops : Array Oper) (n : Nat) : Bool :=
  (List.range ops.size).all fun i => (match dstOf ops i with
    | some d => decide (d < n) && (List.range ops.size).all (fun j => i == j || dstOf ops j != some d)
    | none => true) && (match ops[i]? with | some o => o.after.all (fun e => !Region.binds .any e || decide (e.on < i)) | none => true)
def depOn (ops : Array Oper) (i j : Nat) : Bool := match ops[i]? with | some o => o.after.any (fun e => Region.binds .any e && e.on == j) | none => false
def writes (ops : Array Oper) (t : Nat) : Bool := (List.range ops.size).any (fun j => dstOf ops j == some t)

section
variable {P : Program} {ops : Array Oper} {G : World → World → Prop} {R : Nat → World → Value → Prop} {a0 : Act} {W0 : World}

structure RInv (ops : Array Oper) (G : World → World → Prop) (R : Nat → World → Value → Prop) (a0 : Act) (W0 : World) (listed : Array Bool) (a : Act) (w : World) : Prop where
  grow : G W0 w
  defers : a.defers = a0.defers
  size : a.tmps.size = a0.tmps.size
  lsize : listed.size = ops.size
  frame : ∀ t, writes ops t = false → a.tmps.getD t undef = a0.tmps.getD t undef
  rel : ∀ j d, listed.getD j false = true → dstOf ops j = some d → R j w (a.tmps.getD d undef)

theorem dstOf_lt {i : Nat} {d : Tmp} (h : dstOf ops i = some d) : i < ops.size := by
  unfold dstOf at h
  rcases Nat.lt_or_ge i ops.size with hi | hi
  · exact hi
  · rw [Array.getElem?_eq_none hi] at h; cases h
theorem slotsOk_lt {n : Nat} (h : slotsOk ops n = true) {i : Nat} {d : Tmp} (hd : dstOf ops i = some d) : d < n := by
  have h1 := List.all_eq_true.1 h i (List.mem_range.2 (dstOf_lt hd))
  rw [hd] at h1
  simp only [Bool.and_eq_true, decide_eq_true_eq] at h1
  exact h1.1.1
theorem slotsOk_ne {n : Nat} (h : slotsOk ops n = true) {i j : Nat} {d : Tmp} (hd : dstOf ops i = some d) (hj : dstOf ops j = some d) : i = j := by
  have h1 := List.all_eq_true.1 h i (List.mem_range.2 (dstOf_lt hd))
  rw [hd] at h1
  simp only [Bool.and_eq_true, decide_eq_true_eq] at h1
  have h2 := List.all_eq_true.1 h1.1.2 j (List.mem_range.2 (dstOf_lt hj))
  simp only [Bool.or_eq_true, beq_iff_eq, bne_iff_ne] at h2
  rcases h2 with h2 | h2
  · exact h2
  · exact absurd hj h2
theorem slotsOk_back {n : Nat} (h : slotsOk ops n = true) {i : Nat} {o : Oper} (ho : ops[i]? = some o) (e : Edge) (he : e ∈ o.after) (hb : Region.binds .any e = true) : e.on < i := by
  have hi : i < ops.size := (Array.getElem?_eq_some_iff.1 ho).1
  have h1 := List.all_eq_true.1 h i (List.mem_range.2 hi)
  rw [ho] at h1
  simp only [Bool.and_eq_true] at h1
  have h2 := Array.all_eq_true_iff_forall_mem.1 h1.2 e he
  simpa [hb] using h2
theorem writes_of {j : Nat} {d : Tmp} (h : dstOf ops j = some d) : writes ops d = true :=
  List.any_eq_true.2 ⟨j, List.mem_range.2 (dstOf_lt h), by rw [h]; exact beq_self_eq_true _⟩
theorem yielded_eqF {n : Nat} (h : slotsOk ops n = true) (a : Act) (hs : a.tmps.size = n) : yielded ops a.tmps = yieldedF ops (fun t => a.tmps.getD t undef) := by
  funext j
  unfold yielded yieldedF
  show (match (dstOf ops j).bind (a.tmps[·]?) with | some (.bool b) => some b | _ => none) = _
  cases hd : dstOf ops j with
  | none => rfl
  | some d =>
    have hlt := slotsOk_lt h hd
    have e : a.tmps[d]? = some (a.tmps.getD d undef) := by
      rw [← hs] at hlt
      simp [hlt]
    simp only [Option.bind_some, e]
    generalize a.tmps.getD d undef = u
    cases u <;> rfl

theorem RInv.put {listed : Array Bool} {a : Act} {w w' : World} {i : Nat} {o : Oper} {v : Value} {n : Nat} (ho : ops[i]? = some o) (hok : slotsOk ops n = true) (hn : a0.tmps.size = n) (h : RInv ops G R a0 W0 listed a w)
    (ht : ∀ {a b c}, G a b → G b c → G a c) (hm : ∀ j {a b v}, R j a v → G a b → R j b v) (hg : G w w') (hr : R i w' v) (hi : i < ops.size) : RInv ops G R a0 W0 (listed.setIfInBounds i true) (a.put o.dst v) w' := by
  have hdo : dstOf ops i = o.dst := by unfold dstOf; rw [ho]; rfl
  have get : ∀ t, (a.put o.dst v).tmps.getD t undef = if o.dst = some t ∧ t < n then v else a.tmps.getD t undef := by
    intro t
    unfold Act.put
    cases hd : o.dst with
    | none => simp
    | some d =>
      by_cases e : d = t
      · subst e
        have hlt : d < n := slotsOk_lt hok (hdo.trans hd)
        have hlt2 : d < a.tmps.size := by rw [h.size, hn]; exact hlt
        simp [hlt, hlt2]
      · simp [e, Array.getElem?_setIfInBounds_ne e]
  refine ⟨ht h.grow hg, ?_, ?_, by simp [h.lsize], fun t hw => ?_, fun j d hl hd => ?_⟩
  · rw [← h.defers]; unfold Act.put; cases o.dst <;> rfl
  · rw [← h.size]; unfold Act.put; cases o.dst <;> simp
  · rw [get, if_neg, h.frame t hw]
    rintro ⟨e, _⟩
    have := writes_of (hdo.trans e)
    rw [hw] at this; cases this
  · rw [get]
    by_cases hji : j = i
    · subst hji
      rw [if_pos ⟨hdo.symm.trans hd, slotsOk_lt hok hd⟩]
      exact hr
    · rw [if_neg]
      · refine hm j (h.rel j d ?_ hd) hg
        rw [← hl]
        simp [Array.getElem?_setIfInBounds_ne (Ne.symm hji)]
      · rintro ⟨e, _⟩
        exact hji (slotsOk_ne hok hd (hdo.trans e))

/-- THE LAW. -/
theorem wp_region_rel (n : Nat) {id : Nat} {Q : Exit → Act → World → Prop} {a : Act} {w : World} (hm : P.follows .mixedOrders = true) (hn : a.tmps.size = n) (hok : slotsOk ops n = true)
    (G : World → World → Prop) (R : Nat → World → Value → Prop) (hr : ∀ w, G w w) (ht : ∀ {a b c}, G a b → G b c → G a c) (hmo : ∀ j {a b v}, R j a v → G a b → R j b v)
    (step : ∀ (i : Nat) (o : Oper), ops[i]? = some o → ∀ (f : Nat → Value) (w' : World), G w.drew w' → (∀ t, writes ops t = false → f t = a.tmps.getD t undef) →
      (∀ j d, depOn ops i j = true → dstOf ops j = some d → R j w' (f d)) → if Region.wanted o (yieldedF ops f) = true then Gives P o f w' (fun v w'' => G w' w'' ∧ R i w'' v) else R i w' undef)
    (fin : ∀ (f : Nat → Value) (w' : World), G w.drew w' → (∀ t, writes ops t = false → f t = a.tmps.getD t undef) → (∀ j d, dstOf ops j = some d → R j w' (f d)) → Q .normal ⟨((List.range n).map f).toArray, a.defers⟩ w') :
    (Code.region id ops true).wp P Q a w := by
  refine wp_region_any hm ?_
  have key : ∀ (fuel : Nat) (listed : Array Bool) (b : Act) (v : World), RInv ops G R a w.drew listed b v → ((List.range ops.size).countP (fun i => listed.getD i false == false)) ≤ fuel → wpAny P .any ops Q fuel listed b v := by
    intro fuel
    have done : ∀ (listed : Array Bool) (b : Act) (v : World), RInv ops G R a w.drew listed b v → Region.ready .any ops listed = [] → Q .normal b v := by
      intro listed b v h h0
      have all : ∀ i, i < ops.size → listed.getD i false = true := by
        intro i
        induction i using Nat.strongRecOn with
        | _ i ih =>
          intro hi
          cases hc : listed.getD i false with
          | true => rfl
          | false =>
            have hmem : i ∈ Region.ready .any ops listed := by
              refine mem_ready.2 ⟨?_, ops[i], by simp [hi], fun e he hb => ?_⟩
              · have : i < listed.size := by rw [h.lsize]; exact hi
                simp [this] at hc ⊢
                exact hc
              · have hlt := slotsOk_back hok (i := i) (o := ops[i]) (by simp [hi]) e he hb
                exact ih e.on hlt (by omega)
            rw [h0] at hmem; cases hmem
      have hb : b = ⟨((List.range n).map (fun t => b.tmps.getD t undef)).toArray, a.defers⟩ := by
        have hs : b.tmps.size = n := h.size.trans hn
        have e : b.tmps = ((List.range n).map (fun t => b.tmps.getD t undef)).toArray := by
          apply Array.ext
          · simp [hs]
          · intro i h1 h2
            simp [h1]
        rw [← h.defers, ← e]
      rw [hb]
      exact fin (fun t => b.tmps.getD t undef) v h.grow h.frame (fun j d hd => h.rel j d (all j (dstOf_lt hd)) hd)
    induction fuel with
    | zero =>
      intro listed b v h hc
      have h0 : Region.ready .any ops listed = [] := by
        apply List.eq_nil_iff_forall_not_mem.2
        intro i hi
        obtain ⟨h1, o, ho, _⟩ := mem_ready.1 hi
        have hlt : i < ops.size := (Array.getElem?_eq_some_iff.1 ho).1
        have h2 : listed.getD i false = false := by
          have : i < listed.size := by rw [h.lsize]; exact hlt
          simp [this] at h1 ⊢
          exact h1
        have := List.countP_eq_zero.1 (Nat.le_zero.1 hc) i (List.mem_range.2 hlt)
        rw [h2] at this
        exact this rfl
      exact ⟨h0, done listed b v h h0⟩
    | succ fuel ih =>
      intro listed b v h hc
      refine ⟨fun h0 => done listed b v h h0, fun i hi => ?_⟩
      obtain ⟨h1, o, ho, hall⟩ := mem_ready.1 hi
      have hlt : i < ops.size := (Array.getElem?_eq_some_iff.1 ho).1
      have hls : i < listed.size := by rw [h.lsize]; exact hlt
      have h2 : listed.getD i false = false := by
        simp [hls] at h1 ⊢
        exact h1
      have hcnt : (List.range ops.size).countP (fun k => (listed.setIfInBounds i true).getD k false == false) ≤ fuel := by
        have hsub : (List.range ops.size).countP (fun k => (listed.setIfInBounds i true).getD k false == false) < (List.range ops.size).countP (fun k => listed.getD k false == false) := by
          have gen : ∀ (l : List Nat), i ∈ l → l.countP (fun k => (listed.setIfInBounds i true).getD k false == false) < l.countP (fun k => listed.getD k false == false) := by
            have le : ∀ (l : List Nat), l.countP (fun k => (listed.setIfInBounds i true).getD k false == false) ≤ l.countP (fun k => listed.getD k false == false) := by
              intro l
              apply List.countP_mono_left
              intro k _ hk
              by_cases e : i = k
              · subst e; simp [hls] at hk
              · simpa [Array.getElem?_setIfInBounds_ne e] using hk
            intro l hl
            induction l with
            | nil => cases hl
            | cons k l ihl =>
              by_cases e : i = k
              · subst e
                have := le l
                have h2' : (listed.getD i false == false) = true := by rw [h2]; rfl
                rw [List.countP_cons_of_pos (p := fun k => listed.getD k false == false) (by exact h2'), List.countP_cons_of_neg (by simp [hls])]
                omega
              · have hl' : i ∈ l := by
                  rcases List.mem_cons.1 hl with h | h
                  · exact absurd h e
                  · exact h
                have := ihl hl'
                have e2 : (listed.setIfInBounds i true).getD k false = listed.getD k false := by simp [Array.getElem?_setIfInBounds_ne e]
                rw [List.countP_cons, List.countP_cons, e2]
                omega
          exact gen _ (List.mem_range.2 hlt)
        omega
      have hs := step i o ho (fun t => b.tmps.getD t undef) v h.grow h.frame (fun j d hj hd => by
        unfold depOn at hj
        rw [ho] at hj
        obtain ⟨q, hq, hb⟩ := Array.any_eq_true.1 hj
        have he : o.after[q] ∈ o.after := Array.getElem_mem hq
        generalize o.after[q] = e at he hb
        simp only [Bool.and_eq_true, beq_iff_eq] at hb
        have := hall e he hb.1
        rw [hb.2] at this
        exact h.rel j d this hd)
      unfold wpOp
      simp only [ho]
      rw [yielded_eqF hok b (h.size.trans hn)]
      split
      · rename_i hw
        rw [if_pos hw] at hs
        refine .inl (Gives.wp ?_)
        unfold Gives at hs ⊢
        generalize (execOp (evF fun t => b.tmps.getD t undef) o).run P v = r at hs
        cases r with
        | ok nx w' =>
          cases nx <;> simp only at hs ⊢
          case value u => exact ih _ _ _ (h.put ho hok hn ht hmo hs.1 hs.2 hlt) hcnt
          case skip => exact ih _ _ _ (h.put ho hok hn ht hmo hs.1 hs.2 hlt) hcnt
          case enter k args => exact Calls.mono hs fun e w'' ⟨u, he, hg, hR⟩ => ⟨u, he, ih _ _ _ (h.put ho hok hn ht hmo hg hR hlt) hcnt⟩
        | halt x w' => exact hs.elim
      · rename_i hw
        rw [if_neg hw] at hs
        exact ih _ _ _ (h.put ho hok hn ht hmo (hr v) hs hlt) hcnt
  refine key ops.size _ a _ ⟨hr _, rfl, rfl, by simp, fun t _ => rfl, fun j d hl hd => ?_⟩ ?_
  · have := dstOf_lt hd
    simp [this] at hl
  · refine Nat.le_trans List.countP_le_length ?_
    simp
end

/-! ### The relations as a list; the steps one by one -/
/-- A relation that stays true as the world grows. -/
structure Rl where
  R : World → Value → Prop
  mono : ∀ {a b : World} {v : Value}, R a v → Below a.heap.size a b → R b v
def Rl.eq (u : Value) : Rl := ⟨fun _ v => v = u, fun h _ => h⟩
def Rl.any : Rl := ⟨fun _ _ => True, fun h _ => h⟩
def relOf (l : List Rl) (i : Nat) : World → Value → Prop := (l.getD i Rl.any).R
def Gr (a b : World) : Prop := Below a.heap.size a b
theorem Gr.refl (a : World) : Gr a a := Below.refl _ _
theorem Gr.trans {a b c : World} (h : Gr a b) (k : Gr b c) : Gr a c := Below.trans h (Below.mono k h.size)
/-- Of each operation of the list, from number k on. -/
def AllFrom (Pr : Nat → Oper → Prop) : Nat → List Oper → Prop
  | _, [] => True
  | k, o :: l => Pr k o ∧ AllFrom Pr (k + 1) l
theorem AllFrom.nil_ {Pr : Nat → Oper → Prop} {k : Nat} : AllFrom Pr k [] := trivial
theorem AllFrom.cons_ {Pr : Nat → Oper → Prop} {k k' : Nat} {o : Oper} {l : List Oper} (hk : k' = k + 1) (h : Pr k o) (t : AllFrom Pr k' l) : AllFrom Pr k (o :: l) := by
  subst hk; exact ⟨h, t⟩
theorem AllFrom.out {Pr : Nat → Oper → Prop} : ∀ (l : List Oper) (k : Nat), AllFrom Pr k l → ∀ i o, l[i]? = some o → Pr (k + i) o
  | [], _, _, i, o, h => by simp at h
  | x :: l, k, h, 0, o, ho => by
    simp at ho; subst ho; exact h.1
  | x :: l, k, h, i + 1, o, ho => by
    have := AllFrom.out l (k + 1) h.2 i o (by simpa using ho)
    rwa [Nat.add_assoc, Nat.add_comm 1 i] at this
/-- One operation's step. -/
def Stp (P : Program) (ops : Array Oper) (a : Act) (W : World) (l : List Rl) (i : Nat) (o : Oper) : Prop :=
  ∀ (f : Nat → Value) (w : World), Gr W w → (∀ t, writes ops t = false → f t = a.tmps.getD t undef) →
      (∀ j d, depOn ops i j = true → dstOf ops j = some d → relOf l j w (f d)) → if Region.wanted o (yieldedF ops f) = true then Gives P o f w (fun v w'' => Gr w w'' ∧ relOf l i w'' v) else relOf l i w undef
theorem wp_region_rl {P : Program} (n : Nat) (l : List Rl) {id : Nat} {os : List Oper} {Q : Exit → Act → World → Prop} {a : Act} {w : World} (hm : P.follows .mixedOrders = true) (hn : a.tmps.size = n) (hok : slotsOk os.toArray n = true)
    (steps : AllFrom (Stp P os.toArray a w.drew l) 0 os)
    (fin : ∀ (f : Nat → Value) (w' : World), Gr w.drew w' → (∀ t, writes os.toArray t = false → f t = a.tmps.getD t undef) → (∀ j d, dstOf os.toArray j = some d → relOf l j w' (f d)) → Q .normal ⟨((List.range n).map f).toArray, a.defers⟩ w') :
    (Code.region id os.toArray true).wp P Q a w := by
  refine wp_region_rel n hm hn hok Gr (relOf l) Gr.refl Gr.trans (fun j _ _ _ h g => (l.getD j Rl.any).mono h g) (fun i o ho => ?_) fin
  have := AllFrom.out os 0 steps i o (by simpa using ho)
  rw [Nat.zero_add] at this
  exact this
theorem wanted_none {o : Oper} {y : Nat → Option Bool} (h : o.guard = none) : Region.wanted o y = true := by unfold Region.wanted; rw [h]
theorem wanted_some {ops : Array Oper} {o : Oper} {f : Nat → Value} {j : Nat} {b : Bool} {d : Tmp} (h : o.guard = some (j, b)) (hd : dstOf ops j = some d) (hf : f d = .bool b) : Region.wanted o (yieldedF ops f) = true := by
  unfold Region.wanted yieldedF; rw [h]; simp only [hd, hf, beq_self_eq_true]
theorem gives_val {P : Program} {o : Oper} {f : Nat → Value} {w w' : World} {v : Value} {K : Value → World → Prop} (h : (execOp (evF f) o).run P w = .ok (.value v) w') (hK : K v w') : Gives P o f w K := by
  unfold Gives; rw [h]; exact hK
theorem gives_call {P : Program} {o : Oper} {f : Nat → Value} {w w' : World} {k : FuncId} {args : Array Value} {K : Value → World → Prop} (h : (execOp (evF f) o).run P w = .ok (.enter k args) w') (hK : Calls P k args w' fun e w'' => ∃ v, e = .returned v ∧ K v w'') : Gives P o f w K := by
  unfold Gives; rw [h]; exact hK
/-- A call of a Go function with a body. -/
theorem gives_func {P : Program} {o : Oper} {f : Nat → Value} {w : World} {k : FuncId} {xs : Array Operand} {ats : Array TypeId} {fn : Func} {c : Code} {K : Value → World → Prop} (ho : o.op = .call { callee := .value (.func k), args := xs, argTypes := ats })
    (hf : P.funcs[k]? = some fn) (hname : (fn.name == "runtime.NumGoroutine") = false) (hb : fn.body = some c) {args : Array Value} (ha : xs.map (evF f) = args)
    (hK : Calls P k args w fun e w'' => ∃ v, e = .returned v ∧ K v w'') : Gives P o f w K := by
  subst ha
  refine gives_call (k := k) ?_ hK
  have h1 : fn.name ≠ "runtime.NumGoroutine" := by simpa using hname
  have e : execOp (evF f) o = callFunc k (#[] ++ xs.map (evF f) ++ #[]) := by
    unfold execOp; rw [ho]; rfl
  rw [e]
  simp [callFunc, hf, h1, hb]
/-- The slots of ws are written among these. -/
def putAll (f : Nat → Value) : List Nat → Array Value → Array Value
  | [], T => T
  | t :: l, T => putAll f l (T.setIfInBounds t (f t))
theorem putAll_size (f : Nat → Value) : ∀ (l : List Nat) (T : Array Value), (putAll f l T).size = T.size
  | [], _ => rfl
  | t :: l, T => by rw [putAll, putAll_size f l]; simp
theorem putAll_get (f : Nat → Value) : ∀ (l : List Nat) (T : Array Value) (t : Nat), t < T.size → (t ∈ l ∨ T.getD t undef = f t) → (putAll f l T).getD t undef = f t
  | [], _, _, _, h => by
    rcases h with h | h
    · cases h
    · exact h
  | x :: l, T, t, ht, h => by
    rw [putAll]
    refine putAll_get f l _ t (by simpa using ht) ?_
    by_cases e : x = t
    · subst e
      exact .inr (by simp [ht])
    · rcases h with h | h
      · rcases List.mem_cons.1 h with h | h
        · exact absurd h.symm e
        · exact .inl h
      · exact .inr (by rw [← h]; simp [Array.getElem?_setIfInBounds_ne e])
def allIn (ops : Array Oper) (ws : List Nat) : Bool := (List.range ops.size).all fun j => match dstOf ops j with | some d => ws.contains d | none => true
/-- THE LAW, the frame behind it told by the slots that are written. -/
theorem wp_region_rw {P : Program} (n : Nat) (l : List Rl) (ws : List Nat) {id : Nat} {os : List Oper} {Q : Exit → Act → World → Prop} {a : Act} {w : World} (hm : P.follows .mixedOrders = true) (hn : a.tmps.size = n) (hok : slotsOk os.toArray n = true) (hws : allIn os.toArray ws = true)
    (steps : AllFrom (Stp P os.toArray a w.drew l) 0 os)
    (fin : ∀ (f : Nat → Value) (w' : World), Gr w.drew w' → (∀ j d, dstOf os.toArray j = some d → relOf l j w' (f d)) → Q .normal ⟨putAll f ws a.tmps, a.defers⟩ w') :
    (Code.region id os.toArray true).wp P Q a w := by
  refine wp_region_rl n l hm hn hok steps (fun f w' g hF hD => ?_)
  have e : ((List.range n).map f).toArray = putAll f ws a.tmps := by
    apply Array.ext
    · rw [putAll_size, hn]; simp
    · intro t h1 h2
      have ht : t < n := by simpa using h1
      have h3 := putAll_get f ws a.tmps t (by rw [hn]; exact ht) (by
        by_cases hw : writes os.toArray t = true
        · left
          obtain ⟨j, hj, hd⟩ := List.any_eq_true.1 hw
          have hd := beq_iff_eq.1 hd
          have := List.all_eq_true.1 hws j hj
          rw [hd] at this
          simpa using this
        · right
          exact (hF t (by simpa using hw)).symm)
      have h4 : (putAll f ws a.tmps)[t] = f t := by
        rw [← h3]; simp [h2]
      rw [h4]; simp
  rw [e]
  exact fin f w' g hD
end Go.Proofs.Ytcffinkkfdfcaaa

/- What body.putFirst lays: data's bytes in the first version. Conditions: data that may be; texts that can be read. -/
namespace Go.Proofs.Ytcffinkkfdfcaaa
open Go Go.RowKit

theorem nm2 (n : Nat) : numLI n 2 = numL n 2 := by unfold numLI; rw [if_pos (by decide)]; rfl
theorem nm4 (n : Nat) : numLI n 4 = numL n 4 := by unfold numLI; rw [if_pos (by decide)]; rfl
theorem nm8 (n : Nat) : numLI n 8 = numL n 8 := by unfold numLI; rw [if_pos (by decide)]; rfl
def U16 (n : Nat) : Prop := n < 65536
theorem U16.u64 {n : Nat} (h : U16 n) : U64 n := by unfold U16 at h; unfold U64; omega
def hd4 (st ec ak th : Nat) : Nat → List UInt8
  | 0 => []
  | 1 => numL st 2
  | 2 => numL st 2 ++ numL ec 2
  | 3 => numL st 2 ++ numL ec 2 ++ numL ak 8
  | _ => numL st 2 ++ numL ec 2 ++ numL ak 8 ++ numL th 8
theorem hd4_len (st ec ak th k : Nat) : (hd4 st ec ak th k).length ≤ 20 := by
  match k with
  | 0 => simp [hd4]
  | 1 => simp [hd4, numL_length]
  | 2 => simp [hd4, numL_length]
  | 3 => simp [hd4, numL_length]
  | k + 4 => simp [hd4, numL_length]
theorem hd4_1 (st ec ak th : Nat) : hd4 st ec ak th 0 ++ numL st 2 = hd4 st ec ak th 1 := List.nil_append _
theorem hd4_2 (st ec ak th : Nat) : hd4 st ec ak th 1 ++ numL ec 2 = hd4 st ec ak th 2 := by unfold hd4; rfl
theorem hd4_3 (st ec ak th : Nat) : hd4 st ec ak th 2 ++ numL ak 8 = hd4 st ec ak th 3 := by unfold hd4; rfl
theorem hd4_4 (st ec ak th : Nat) : hd4 st ec ak th 3 ++ numL th 8 = hd4 st ec ak th 4 := by unfold hd4; rfl
theorem u16_64 {e : Nat} (he : U16 e) : IntKind.u64.wrap (e : Int) = (e : Int) := by
  unfold U16 at he
  unfold IntKind.wrap
  simp [IntKind.bits, IntKind.signed]
  omega
theorem ix4_0 (a0 b0 a1 b1 a2 b2 a3 b3 : Int) (w : World) : (Instr.index 123 (.agg #[.int .u64 a0, .int .u64 b0, .int .u64 a1, .int .u64 b1, .int .u64 a2, .int .u64 b2, .int .u64 a3, .int .u64 b3]) (.int .i64 0)).run Try.prog w = .ok (.agg #[.int .u64 a0, .int .u64 b0]) w := by kernel_rfl
theorem ix4_1 (a0 b0 a1 b1 a2 b2 a3 b3 : Int) (w : World) : (Instr.index 123 (.agg #[.int .u64 a0, .int .u64 b0, .int .u64 a1, .int .u64 b1, .int .u64 a2, .int .u64 b2, .int .u64 a3, .int .u64 b3]) (.int .i64 1)).run Try.prog w = .ok (.agg #[.int .u64 a1, .int .u64 b1]) w := by kernel_rfl
theorem ix4_2 (a0 b0 a1 b1 a2 b2 a3 b3 : Int) (w : World) : (Instr.index 123 (.agg #[.int .u64 a0, .int .u64 b0, .int .u64 a1, .int .u64 b1, .int .u64 a2, .int .u64 b2, .int .u64 a3, .int .u64 b3]) (.int .i64 2)).run Try.prog w = .ok (.agg #[.int .u64 a2, .int .u64 b2]) w := by kernel_rfl
theorem ix4_3 (a0 b0 a1 b1 a2 b2 a3 b3 : Int) (w : World) : (Instr.index 123 (.agg #[.int .u64 a0, .int .u64 b0, .int .u64 a1, .int .u64 b1, .int .u64 a2, .int .u64 b2, .int .u64 a3, .int .u64 b3]) (.int .i64 3)).run Try.prog w = .ok (.agg #[.int .u64 a3, .int .u64 b3]) w := by kernel_rfl
/-- Data in a block of its own. -/
def D9 (w : World) (g : Nat) (cs : Array Value) : Prop := w.heap[g]? = some (.cells cs 29 (0, 0))
theorem D9.below {w w' : World} {g B : Nat} {cs : Array Value} (h : D9 w g cs) (hb : Below B w w') (hg : g < B) : D9 w' g cs := (hb.block g hg).trans h
theorem D9.cell {w : World} {g : Nat} {cs : Array Value} (h : D9 w g cs) (i : Nat) {v : Value} (hv : cs[i]? = some v) : w.cell? ⟨g, i, none⟩ = some v := by rw [heap_cell h]; exact hv
/-- 'append(v, xs...)' on bytes, as a step of a region that draws. -/
theorem step_apB {ops : Array Oper} {o : Oper} {a : Act} {w : World} {K : Act → World → Prop} {Q : Exit → Act → World → Prop} {E : Prop} (hgd : o.guard = none) (s x : Operand)
    (ho : o.op = .call { callee := .builtin .append, args := #[s, x], argTypes := #[25, 25] })
    (B : Nat) (v : Value) (bs : List UInt8) (hs : a.eval s = v) (hown : OwnB w B v bs)
    (A : Option Addr) (m c : Nat) (ns : List UInt8) (hx : a.eval x = .slice A m c) (hm : ns.length = m) (hr : Rd w A (ns.map bv))
    (hlen : bs.length + m ≤ 140737488355328) (hB : B ≤ w.heap.size)
    (h : ∀ v' w', Hid (OwnB w' B v' (bs ++ ns)) → Below B w w' → w.grownBy w' v.ownBlock → K (a.put o.dst v') w') :
    if Region.wanted o (yielded ops a.tmps) = true then Oper.wp Try.prog o a w K Q else E := by
  rw [if_pos (wanted_none hgd)]
  obtain ⟨i0, hi, hz0, hz1, hz2⟩ := info_parts info_u8
  obtain ⟨v', w', hrun, h2, h3, h4⟩ := run_app (P := Try.prog) w B 25 o.type 5 i0 (.int .u8 0) 1 Try.underlying25 hi hz0 hz1 hz2 rfl v (bs.map bv) hown A m c (ns.map bv) (by simpa using hm) hr (bv_one _) (by simp only [List.length_map, maxLen]; omega) (by simp only [List.length_map]; omega) hB
  unfold Oper.wp execOp
  simp only [ho, resolve, invoke, builtin, Sem.run_bind, Sem.run_pure, Result.andThen_ok, List.map_toArray, List.map_cons, List.map_nil, hs, hx, hrun]
  exact h v' w' (Lib.hid (by simpa [OwnB] using h2)) ((Below.refl B w).grown h3 hB (fun k e => (Own.lt hown k e).1)) h3
theorem u32w {e : Nat} (he : e < 4294967296) : IntKind.u64.wrap (e : Int) = (e : Int) := by
  unfold IntKind.wrap
  simp [IntKind.bits, IntKind.signed]
  omega
theorem lo_bw {n : Nat} (h : n < 256) : Value.int .u8 (n : Int) = bv (lo n) := by unfold bv; rw [lo_nat, Nat.mod_eq_of_lt h]
theorem u8w {n : Nat} (h : n < 256) : IntKind.u8.wrap (n : Int) = (n : Int) := by
  unfold IntKind.wrap
  simp [IntKind.bits, IntKind.signed]
  omega
theorem keep1 {g i : Nat} {v : Value} {a b : World} (h : a.cell? ⟨g, i, none⟩ = some v) (hb : Below (g + 1) a b) : b.cell? ⟨g, i, none⟩ = some v := (hb.cell (p := ⟨g, i, none⟩) (Nat.lt_succ_self _)).trans h
theorem keep3 {g : Nat} {u v x : Value} {a b : World} (h : a.cell? ⟨g, 6, none⟩ = some u ∧ a.cell? ⟨g, 7, none⟩ = some v ∧ a.cell? ⟨g, 8, none⟩ = some x) (hb : Below (g + 1) a b) : b.cell? ⟨g, 6, none⟩ = some u ∧ b.cell? ⟨g, 7, none⟩ = some v ∧ b.cell? ⟨g, 8, none⟩ = some x := ⟨keep1 h.1 hb, keep1 h.2.1 hb, keep1 h.2.2 hb⟩
set_option maxRecDepth 100000 in
set_option maxHeartbeats 8000000 in
theorem putFirst_c (st ec ak th : Nat) (has : Bool) (id : Nat) (ix ct : Int) (A : Option Addr) (n c : Nat) (bs : List UInt8) (w : World) (h1 : U16 st) (h2 : U16 ec) (h3 : U64 ak) (h4 : U64 th) (h5 : id < 4294967296) (hn : bs.length = n) (hr : Rd w A (bs.map bv)) (hl : n ≤ 140737488351232) (hm : dataB has id ix ct n = true) :
    Calls Try.prog 33 #[.agg #[.int .u16 (st : Int), .int .u16 (ec : Int), .int .u64 (ak : Int), .int .u64 (th : Int), .bool has, .int .u32 (id : Int), .int .i64 ix, .int .i64 ct, .slice A n c]] w fun r w' => ∃ v, r = .returned v ∧ OwnB w' w.heap.size v (firstL ⟨st, ec, ak, th, has, ⟨id, ix, ct, bs⟩⟩) ∧ Below w.heap.size w w' := by
  have HN := Lib.hid hn
  have HR := Lib.hid hr
  have HM := Lib.hid hm
  have U1 := Lib.hid h1
  have U2 := Lib.hid h2
  have U3 := Lib.hid h3
  have U4 := Lib.hid h4
  have U5 := Lib.hid h5
  clear hn hr hm h1 h2 h3 h4 h5
  obtain ⟨W0, eW⟩ : ∃ W0, W0 = w.alloc (.cells #[.int .u16 (st : Int), .int .u16 (ec : Int), .int .u64 (ak : Int), .int .u64 (th : Int), .bool has, .int .u32 (id : Int), .int .i64 ix, .int .i64 ct, .slice A n c] 29) := ⟨_, rfl⟩
  have HD : Hid (D9 W0 w.heap.size #[.int .u16 (st : Int), .int .u16 (ec : Int), .int .u64 (ak : Int), .int .u64 (th : Int), .bool has, .int .u32 (id : Int), .int .i64 ix, .int .i64 ct, .slice A n c]) := Lib.hid (by rw [eW]; exact heap_alloc_new w _)
  have HB : Hid (Below w.heap.size w W0) := Lib.hid (by rw [eW]; exact (Below.refl _ _).alloc (Nat.le_refl _) _)
  have HS : Hid (W0.heap.size = w.heap.size + 1) := Lib.hid (by rw [eW]; simp)
  have EW := Lib.hid eW; clear eW
  have hw1 := u16_64 U1.out
  have hw2 := u16_64 U2.out
  obtain ⟨F, eF⟩ : ∃ F, F = firstL ⟨st, ec, ak, th, has, ⟨id, ix, ct, bs⟩⟩ := ⟨_, rfl⟩
  rw [← eF]
  have EF := Lib.hid eF
  clear eF
  go_enter Try.func33, Try.ntmps33
  go_wp2_with (fail)
  rw [← EW.out]
  clear hw1 hw2
  go_loopw [21, 3] (fun i v wr => ∃ (k : Nat), k ≤ 4 ∧ i = .int .i64 k ∧ Hid (OwnB wr (w.heap.size + 1) v (hd4 st ec ak th k)) ∧ Hid (Below (w.heap.size + 1) W0 wr)) (fun i _ _ => 4 - (intOf i).toNat)
  case atStart => exact ⟨0, by omega, rfl, Lib.hid (Own.nil_ _ _ _), Lib.hid (Below.refl _ _)⟩
  case round =>
    obtain ⟨k, hk, rfl, HO, HK⟩ := hrel
    have ks := HK.out.size
    rw [HS.out] at ks
    match k, hk with
    | 0, _ =>
      have i0 := fun w => ix4_0 (st : Int) 2 (ec : Int) 2 (ak : Int) 8 (th : Int) 8 w
      go_wp2_with (fail)
      refine (Num_c st 2 _ (U1.out.u64)).mono ?_
      rintro _ w2 ⟨v2, rfl, ho2, hb2⟩
      rw [nm2] at ho2
      obtain ⟨A2, c2, rfl, _, _, r2, _⟩ := OwnB.form ho2
      rw [numL_length]
      have R2 := Lib.hid r2
      have ks1 : w.heap.size + 1 ≤ wr.heap.size := ks
      have hb4 : Below wr.heap.size wr w2 := (((Below.refl wr.heap.size wr).alloc (Nat.le_refl _) _).trans (hb2.mono (by simp)))
      have hb3 : Below (w.heap.size + 1) wr w2 := hb4.mono ks1
      have HO2 := Lib.hid (Own.below HO.out hb4)
      have HK2 := Lib.hid (HK.out.trans hb3)
      clear r2 ho2 hb2 hb3 hb4 HO HK
      have s2 : w.heap.size + 1 ≤ w2.heap.size := by have := HK2.out.size; rw [HS.out] at this; exact this
      go_wp2_with (first | (at_builtin; refine wpList_appB _ rfl (.tmp 24) (.tmp 30) rfl (w.heap.size + 1) _ _ rfl HO2.out A2 2 c2 (numL st 2) rfl (numL_length _ _) R2.out (by have := hd4_len st ec ak th 0; omega) s2 ?_; intro v4 w4 h4 hg4 _; have HO4 := Lib.hid h4; have HK4 := Lib.hid (HK2.out.grown hg4 s2 (fun q e => (Own.lt HO2.out q e).1)); clear h4 hg4))
      go_roundw
      case rel => exact ⟨1, by omega, rfl, Lib.hid (by rw [← hd4_1]; exact HO4.out), HK4⟩
      case measure => simp [intOf]
    | 1, _ =>
      have i1 := fun w => ix4_1 (st : Int) 2 (ec : Int) 2 (ak : Int) 8 (th : Int) 8 w
      go_wp2_with (fail)
      refine (Num_c ec 2 _ (U2.out.u64)).mono ?_
      rintro _ w2 ⟨v2, rfl, ho2, hb2⟩
      rw [nm2] at ho2
      obtain ⟨A2, c2, rfl, _, _, r2, _⟩ := OwnB.form ho2
      rw [numL_length]
      have R2 := Lib.hid r2
      have ks1 : w.heap.size + 1 ≤ wr.heap.size := ks
      have hb4 : Below wr.heap.size wr w2 := (((Below.refl wr.heap.size wr).alloc (Nat.le_refl _) _).trans (hb2.mono (by simp)))
      have hb3 : Below (w.heap.size + 1) wr w2 := hb4.mono ks1
      have HO2 := Lib.hid (Own.below HO.out hb4)
      have HK2 := Lib.hid (HK.out.trans hb3)
      clear r2 ho2 hb2 hb3 hb4 HO HK
      have s2 : w.heap.size + 1 ≤ w2.heap.size := by have := HK2.out.size; rw [HS.out] at this; exact this
      go_wp2_with (first | (at_builtin; refine wpList_appB _ rfl (.tmp 24) (.tmp 30) rfl (w.heap.size + 1) _ _ rfl HO2.out A2 2 c2 (numL ec 2) rfl (numL_length _ _) R2.out (by have := hd4_len st ec ak th 1; omega) s2 ?_; intro v4 w4 h4 hg4 _; have HO4 := Lib.hid h4; have HK4 := Lib.hid (HK2.out.grown hg4 s2 (fun q e => (Own.lt HO2.out q e).1)); clear h4 hg4))
      go_roundw
      case rel => exact ⟨2, by omega, rfl, Lib.hid (by rw [← hd4_2]; exact HO4.out), HK4⟩
      case measure => simp [intOf]
    | 2, _ =>
      have i2 := fun w => ix4_2 (st : Int) 2 (ec : Int) 2 (ak : Int) 8 (th : Int) 8 w
      go_wp2_with (fail)
      refine (Num_c ak 8 _ (U3.out)).mono ?_
      rintro _ w2 ⟨v2, rfl, ho2, hb2⟩
      rw [nm8] at ho2
      obtain ⟨A2, c2, rfl, _, _, r2, _⟩ := OwnB.form ho2
      rw [numL_length]
      have R2 := Lib.hid r2
      have ks1 : w.heap.size + 1 ≤ wr.heap.size := ks
      have hb4 : Below wr.heap.size wr w2 := (((Below.refl wr.heap.size wr).alloc (Nat.le_refl _) _).trans (hb2.mono (by simp)))
      have hb3 : Below (w.heap.size + 1) wr w2 := hb4.mono ks1
      have HO2 := Lib.hid (Own.below HO.out hb4)
      have HK2 := Lib.hid (HK.out.trans hb3)
      clear r2 ho2 hb2 hb3 hb4 HO HK
      have s2 : w.heap.size + 1 ≤ w2.heap.size := by have := HK2.out.size; rw [HS.out] at this; exact this
      go_wp2_with (first | (at_builtin; refine wpList_appB _ rfl (.tmp 24) (.tmp 30) rfl (w.heap.size + 1) _ _ rfl HO2.out A2 8 c2 (numL ak 8) rfl (numL_length _ _) R2.out (by have := hd4_len st ec ak th 2; omega) s2 ?_; intro v4 w4 h4 hg4 _; have HO4 := Lib.hid h4; have HK4 := Lib.hid (HK2.out.grown hg4 s2 (fun q e => (Own.lt HO2.out q e).1)); clear h4 hg4))
      go_roundw
      case rel => exact ⟨3, by omega, rfl, Lib.hid (by rw [← hd4_3]; exact HO4.out), HK4⟩
      case measure => simp [intOf]
    | 3, _ =>
      have i3 := fun w => ix4_3 (st : Int) 2 (ec : Int) 2 (ak : Int) 8 (th : Int) 8 w
      go_wp2_with (fail)
      refine (Num_c th 8 _ (U4.out)).mono ?_
      rintro _ w2 ⟨v2, rfl, ho2, hb2⟩
      rw [nm8] at ho2
      obtain ⟨A2, c2, rfl, _, _, r2, _⟩ := OwnB.form ho2
      rw [numL_length]
      have R2 := Lib.hid r2
      have ks1 : w.heap.size + 1 ≤ wr.heap.size := ks
      have hb4 : Below wr.heap.size wr w2 := (((Below.refl wr.heap.size wr).alloc (Nat.le_refl _) _).trans (hb2.mono (by simp)))
      have hb3 : Below (w.heap.size + 1) wr w2 := hb4.mono ks1
      have HO2 := Lib.hid (Own.below HO.out hb4)
      have HK2 := Lib.hid (HK.out.trans hb3)
      clear r2 ho2 hb2 hb3 hb4 HO HK
      have s2 : w.heap.size + 1 ≤ w2.heap.size := by have := HK2.out.size; rw [HS.out] at this; exact this
      go_wp2_with (first | (at_builtin; refine wpList_appB _ rfl (.tmp 24) (.tmp 30) rfl (w.heap.size + 1) _ _ rfl HO2.out A2 8 c2 (numL th 8) rfl (numL_length _ _) R2.out (by have := hd4_len st ec ak th 3; omega) s2 ?_; intro v4 w4 h4 hg4 _; have HO4 := Lib.hid h4; have HK4 := Lib.hid (HK2.out.grown hg4 s2 (fun q e => (Own.lt HO2.out q e).1)); clear h4 hg4))
      go_roundw
      case rel => exact ⟨4, by omega, rfl, Lib.hid (by rw [← hd4_4]; exact HO4.out), HK4⟩
      case measure => simp [intOf]
    | 4, _ =>
      have HD2 := Lib.hid (HD.out.below HK.out (Nat.lt_succ_self _))
      have HB2 := Lib.hid (HB.out.trans (HK.out.mono (Nat.le_succ _)))
      clear HD HB HK EW
      have x4 := HD2.out.cell 4 rfl
      obtain ⟨P, eP⟩ : ∃ P, P = hd4 st ec ak th 4 := ⟨_, rfl⟩
      have hP : P.length ≤ 20 := by rw [eP]; exact hd4_len st ec ak th 4
      rw [← eP] at HO
      have EP := Lib.hid (eP.trans rfl : P = headD ⟨st, ec, ak, th, has, ⟨id, ix, ct, bs⟩⟩)
      clear eP
      cases has with
      | false =>
        go_wp2_with (first | (at_builtin; refine wpList_appB1 _ rfl (.tmp 36) (.tmp 37) rfl (w.heap.size + 1) _ _ rfl HO.out _ rfl 0 rfl (by omega) ks ?_; intro v4 w4 h4 hg4 _; have HO4 := Lib.hid h4; have al := (Below.refl (w.heap.size + 1) wr).alloc ks (.cells #[.int .u8 0] 5); have HK4 := Lib.hid (al.grown hg4 (Nat.le_trans ks al.size) (fun q e => (Own.lt HO.out q e).1)); clear h4 hg4 al))
        go_ret
        refine ⟨_, rfl, ?_, HB2.out.trans (HK4.out.mono (Nat.le_succ _))⟩
        have e : F = P ++ [0] := by rw [EF.out, EP.out]; rfl
        rw [e]
        exact Own.low HO4.out (Nat.le_succ _)
      | true =>
        obtain ⟨q0, q1, q2, q3, -⟩ : partP ix ct n := of_decide_eq_true HM.out
        obtain ⟨X, rfl⟩ : ∃ X : Nat, ix = (X : Int) := ⟨ix.toNat, by omega⟩
        obtain ⟨Y, rfl⟩ : ∃ Y : Nat, ct = (Y : Int) := ⟨ct.toNat, by omega⟩
        have hX : X < 256 := by omega
        have hY : Y < 256 := by omega
        have HWX := Lib.hid (u8w hX)
        have HWY := Lib.hid (u8w hY)
        have HLX := Lib.hid (lo_bw hX)
        have HLY := Lib.hid (lo_bw hY)
        clear q0 q1 q2 q3 hX hY
        have x5 := HD2.out.cell 5 rfl
        have hw5 := u32w U5.out
        have hu5 : U64 id := by have := U5.out; unfold U64; omega
        have HU5 := Lib.hid hu5
        clear hu5
        have O1 : Hid (OwnB (wr.alloc (.cells #[.int .u8 1] 5)) (w.heap.size + 1) _ P) := Lib.hid (Own.alloc HO.out _)
        have R1 : Hid (Rd (wr.alloc (.cells #[.int .u8 1] 5)) (some ⟨wr.heap.size, 0, none⟩) ([(1 : UInt8)].map bv)) := Lib.hid (.inr ⟨wr.heap.size, 0, rfl, by simp, fun k hk => by
          have : k = 0 := by simp at hk; omega
          subst this
          exact cell_of_row _ _ 0 _ _ (0, 0) (heap_alloc_new wr _)⟩)
        have B1 : Hid (Below (w.heap.size + 1) wr (wr.alloc (.cells #[.int .u8 1] 5))) := Lib.hid ((Below.refl _ _).alloc ks _)
        go_wp2_with (fail)
        clear x4
        go_region_held3 (fun w' => w'.cell? ⟨w.heap.size, 5, none⟩ = some (.int .u32 (id : Int))) (first | exact x5 | exact keep1 (by with_reducible assumption) (by with_reducible assumption) | (with_reducible assumption) | exact keep1 x5 B1.out | exact keep1 x5 (below_drewN B1.out 1)) (first
          | ((with_reducible refine step_apB rfl (.tmp 39) (.tmp 40) rfl (w.heap.size + 1) _ P rfl ?_ (some ⟨wr.heap.size, 0, none⟩) 1 1 [1] rfl rfl ?_ (by omega) ?_ ?_); (first | exact O1.out | exact Own.drewN O1.out 1); (first | exact R1.out | exact R1.out.drewN 1); (exact Nat.le_trans ks B1.out.size); intro v4 w4 HO4 hk4 hg4; have HK4 := Lib.hid ((show Below (w.heap.size + 1) wr _ from by first | exact B1.out | exact below_drewN B1.out 1).trans hk4); have s4 : w.heap.size + 1 ≤ w4.heap.size := Nat.le_trans ks HK4.out.size)
          | (go_at_call 34; (with_reducible refine (Num_c id 4 _ HU5.out).mono ?_); rintro _ w5 ⟨v5, rfl, ho5, hb5⟩; rw [nm4] at ho5; obtain ⟨A5, c5, rfl, _, _, r5, _⟩ := OwnB.form ho5; rw [numL_length]; have R5 := Lib.hid r5; clear r5 ho5; have hk5 : Below (w.heap.size + 1) _ w5 := hb5.mono s4; have HO5 : Hid (OwnB w5 (w.heap.size + 1) v4 (P ++ [1])) := Lib.hid (Own.below HO4.out hb5); have HK5 := Lib.hid (HK4.out.trans hk5); clear hb5; have s5 : w.heap.size + 1 ≤ w5.heap.size := Nat.le_trans ks HK5.out.size)
          | ((with_reducible refine step_apB rfl (.tmp 41) (.tmp 46) rfl (w.heap.size + 1) v4 (P ++ [1]) rfl HO5.out A5 4 c5 (numL id 4) rfl (numL_length _ _) R5.out (by simp; omega) s5 ?_); intro v6 w6 HO6 hk6 hg6; have HK6 := Lib.hid (HK5.out.trans hk6); have s6 : w.heap.size + 1 ≤ w6.heap.size := Nat.le_trans ks HK6.out.size))
        have HO6' : Hid (OwnB w6 (w.heap.size + 1) v6 (P ++ [1] ++ numL id 4)) := Lib.hid HO6.out
        have D6 := HD2.out.below HK6.out (Nat.lt_succ_self _)
        have y6 := D6.cell 6 rfl
        have y7 := D6.cell 7 rfl
        have y8 := D6.cell 8 rfl
        have wx := HWX.out
        have wy := HWY.out
        have B6 := Lib.hid (HB2.out.trans (HK6.out.mono (Nat.le_succ _)))
        clear D6 HO6 HO4 HO5 HK4 HK5 R5 R1 O1 B1 HO x5 hw5 hk4 hk5 hk6 hg4 hg6 HD2 HB2 s4 s5
        obtain ⟨P6, eP6⟩ : ∃ P6, P6 = P ++ [1] ++ numL id 4 := ⟨_, rfl⟩
        have hP6 : P6.length ≤ 25 := by rw [eP6]; simp [numL_length]; omega
        rw [← eP6] at HO6'
        have EP6 := Lib.hid eP6
        clear eP6
        have O6 : Hid (OwnB (w6.alloc (.cells #[.int .u8 (X : Int), .int .u8 (Y : Int)] 5)) (w.heap.size + 1) v6 P6) := Lib.hid (Own.alloc HO6'.out _)
        have R6 : Hid (Rd (w6.alloc (.cells #[.int .u8 (X : Int), .int .u8 (Y : Int)] 5)) (some ⟨w6.heap.size, 0, none⟩) ([lo X, lo Y].map bv)) := Lib.hid (.inr ⟨w6.heap.size, 0, rfl, by simp, fun k hk => by
          rw [HLX.out, HLY.out, Nat.zero_add, cell_of_row _ _ k _ _ (0, 0) (heap_alloc_new w6 _)]
          have : k = 0 ∨ k = 1 := by simp at hk; omega
          rcases this with rfl | rfl <;> rfl⟩)
        have B1 : Hid (Below (w.heap.size + 1) w6 (w6.alloc (.cells #[.int .u8 (X : Int), .int .u8 (Y : Int)] 5))) := Lib.hid ((Below.refl _ _).alloc s6 _)
        have RB : Hid (∀ w', Below (w.heap.size + 1) w6 w' → Rd w' A (bs.map bv)) := Lib.hid (fun w' h => HR.out.below (B6.out.trans (h.mono (Nat.le_succ _))))
        have HL := Lib.hid hl
        clear hl
        go_wp2_with (fail)
        go_region_held3 (fun w' => w'.cell? ⟨w.heap.size, 6, none⟩ = some (.int .i64 (X : Int)) ∧ w'.cell? ⟨w.heap.size, 7, none⟩ = some (.int .i64 (Y : Int)) ∧ w'.cell? ⟨w.heap.size, 8, none⟩ = some (.slice A n c)) (first | exact ⟨y6, y7, y8⟩ | (with_reducible assumption) | exact keep3 ⟨y6, y7, y8⟩ B1.out | exact keep3 ⟨y6, y7, y8⟩ (below_drewN B1.out 1) | exact keep3 (by with_reducible assumption) (by with_reducible assumption)) (first
          | ((with_reducible refine step_apB rfl (.tmp 48) (.tmp 57) rfl (w.heap.size + 1) v6 P6 rfl ?_ (some ⟨w6.heap.size, 0, none⟩) 2 2 [lo X, lo Y] rfl rfl ?_ (by omega) ?_ ?_); (first | exact O6.out | exact Own.drewN O6.out 1); (first | exact R6.out | exact R6.out.drewN 1); (exact Nat.le_trans s6 B1.out.size); intro v7 w7 HO7 hk7 hg7; have HK7 := Lib.hid ((show Below (w.heap.size + 1) w6 _ from by first | exact B1.out | exact below_drewN B1.out 1).trans hk7); have s7 : w.heap.size + 1 ≤ w7.heap.size := Nat.le_trans s6 HK7.out.size)
          | ((with_reducible refine step_apB rfl (.tmp 58) (.tmp 61) rfl (w.heap.size + 1) v7 (P6 ++ [lo X, lo Y]) rfl HO7.out A n c bs rfl HN.out (RB.out _ HK7.out) (by have := HL.out; simp; omega) s7 ?_); intro v8 w8 HO8 hk8 hg8; have HK8 := Lib.hid (HK7.out.trans hk8)))
        go_wp2_with (fail)
        go_ret
        refine ⟨_, rfl, ?_, B6.out.trans (HK8.out.mono (Nat.le_succ _))⟩
        have e : F = P6 ++ [lo X, lo Y] ++ bs := by rw [EF.out, EP6.out, EP.out]; rfl
        rw [e]
        exact Own.low HO8.out (Nat.le_succ _)
    | k + 5, hk => exact absurd hk (by omega)
end Go.Proofs.Ytcffinkkfdfcaaa
