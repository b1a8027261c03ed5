/- Parts one behind the other: A sum as one value: held against another one; the two sums of the chapter's example, worked out; Copy and Same of the first reference: bytes copied, bytes held against each other; What the laws on sums call: the fixed example, the size, all held against all; The reference's Same of items: the same items are the same; What slices.Clone, keys.clone and the reference's Copy answer of events: the same events in memory of one's own; What keys.May and the reference's May answer: whether an event may be; What the layer wire's and its reference's Num answer: a number by so many bytes, the highest first; What keys.numbers.put and the reference's lay answer: a number in a version's way; and which event may not be; The bytes of a batch of events, in plain words; What an inbox and a nil queue answer; What tlv.lay answers: a list's bytes; What the reference's row answers; What the reference's Small answers: true only of few items whose bytes are few; The faults of a row of items, in plain words; What the closure within tlv.Check answers: the first fault of a list, and how many items were gone through; What tlv.Check answers. Conditions: as told at each. -/
import Derived.Test.YtcffinkkfdfcaaaPBodyGets1
import Derived.DeepKeys
import Derived.Lib.SlBytesConst
import Derived.Lib.SmallJoins
import Derived.Laws.EntriesVeiled

/- A sum as one value: held against another one; the two sums of the chapter's example, worked out. Conditions: none. -/
namespace Go.Proofs.Ytcffinkkfdfcaaa
open Go Go.RowKit

def bl (b : UInt8) : Lit := .int .u8 (b.toNat : Int)
theorem bl_inj {x y : UInt8} (h : bl x = bl y) : x = y := by
  simp only [bl, Lit.int.injEq, true_and] at h
  exact UInt8.toNat_inj.1 (by omega)
theorem bl_map {a b : List UInt8} (h : a.map bl = b.map bl) : a = b := by
  induction a generalizing b with
  | nil => cases b with
    | nil => rfl
    | cons y b => simp at h
  | cons x a ih => cases b with
    | nil => simp at h
    | cons y b =>
      simp only [List.map_cons, List.cons.injEq] at h
      rw [bl_inj h.1, ih h.2]
theorem mapM_range {α : Type} (n : Nat) (f : Nat → Option α) (g : Nat → α) (h : ∀ i, i < n → f i = some (g i)) : (List.range n).mapM f = some ((List.range n).map g) := by
  have go : ∀ (is : List Nat), (∀ i ∈ is, i < n) → is.mapM f = some (is.map g) := by
    intro is
    induction is with
    | nil => intro _; rfl
    | cons i is ih =>
      intro hi
      rw [List.mapM_cons, h i (hi i (by simp)), ih (fun j hj => hi j (by simp [hj]))]
      rfl
  exact go _ (fun i hi => List.mem_range.1 hi)
theorem flat1 {α : Type} (g : Nat → α) (is : List Nat) : (is.map fun i => [g i]).flatten = is.map g := by
  induction is with
  | nil => rfl
  | cons i is ih => rw [List.map_cons, List.flatten_cons, ih]; rfl
theorem cells_a32 : Try.prog.cellsOf 47 = 32 := by kernel_rfl
theorem cells_u8 : Try.prog.cellsOf 5 = 1 := by kernel_rfl
theorem key_a32 : Try.prog.keyTypeAt 2 47 = true := by kernel_rfl
theorem guard_a32 : Try.prog.eqGuardType Try.prog.depth 47 = false := by kernel_rfl
theorem keyLits_a32 (l : List UInt8) (h : l.length = 32) : Try.prog.keyLits 2 47 (l.map bv) = some (l.map bl) := by
  unfold Program.keyLits
  rw [Try.underlying47]
  simp only [List.length_map, h, cells_a32, cells_u8, if_true]
  rw [mapM_range 32 _ (fun i => [bl (getB l i)]) (fun i hi => ?_)]
  · rw [Option.map_some]
    congr 1
    rw [flat1 (fun i => bl (getB l i))]
    apply List.ext_getElem (by simp [h])
    intro i h1 h2
    simp only [List.getElem_map, List.getElem_range]
    simp at h2
    simp [getB, List.getD, h2]
  · unfold Program.keyLits
    rw [Try.underlying5]
    have hi' : i < (l.map bv).length := by simp [h, hi]
    rw [Nat.mul_one, List.drop_eq_getElem_cons hi', List.take_succ_cons, List.take_zero]
    have hb := (l[i]'(by simpa using hi')).toNat_lt
    have hw : (Lit.int .u8 ((l[i]'(by simpa using hi')).toNat : Int)).wf = true := by
      simp [Lit.wf, IntKind.min, IntKind.max, IntKind.signed, IntKind.bits] at hb ⊢; omega
    simp only [List.getElem_map, bv]
    simp [hw, getB, List.getD, bl, h, hi]
set_option maxRecDepth 100000 in
theorem run_eqA (w : World) (a b : List UInt8) (ha : a.length = 32) (hb : b.length = 32) :
    (Op.equalIn 10000 47 (.agg (a.map bv).toArray) (.agg (b.map bv).toArray)).run Try.prog w = .ok (decide (a = b)) w := by
  have fa : (Value.agg (a.map bv).toArray).formed Try.prog 47 = true := by simp [Value.formed, Try.underlying47, cells_a32, ha]
  have fb : (Value.agg (b.map bv).toArray).formed Try.prog 47 = true := by simp [Value.formed, Try.underlying47, cells_a32, hb]
  obtain ⟨r, hr, hiff⟩ := run_equalIn_deep (P := Try.prog) 9998 2 47 key_a32 w 2 2 _ _ (a.map bl) (b.map bl) fa fb (by simpa [Value.cells] using keyLits_a32 a ha) (by simpa [Value.cells] using keyLits_a32 b hb)
  rw [show 10000 = 9998 + 2 from rfl, hr]
  congr 1
  rw [Bool.eq_iff_iff, hiff, decide_eq_true_iff]
  exact ⟨bl_map, fun h => by rw [h]⟩

/-- The sum of bytes, as one value. -/
def sumV (b : List UInt8) : Value := .agg ((sumL b).map bv).toArray
theorem run_eq_sumV (w : World) (a b : List UInt8) : (binOp .eql 47 (sumV a) (sumV b)).run Try.prog w = .ok (.bool (decide (sumL a = sumL b))) w := by
  unfold sumV
  rw [run_eql_struct, run_eqA w _ _ (sumL_len a) (sumL_len b)]
  rfl
theorem run_guard_sumV (w : World) (op : BinOp) (x y : Operand) (a b : List UInt8) : (eqGuard op 47 x y (sumV a) (sumV b)).run Try.prog w = .ok () w := by
  unfold sumV
  exact run_eqGuard_agg w op _ x y _ _ guard_a32
set_option maxRecDepth 100000 in
theorem sum_none : (sumL [])[0]? = some 0xe3 ∧ (sumL [])[31]? = some 0x55 := by decide +kernel
set_option maxRecDepth 100000 in
theorem sum_abc : (sumL [97, 98, 99])[0]? = some 0xba ∧ (sumL [97, 98, 99])[1]? = some 0x78 ∧ (sumL [97, 98, 99])[31]? = some 0xad := by decide +kernel
end Go.Proofs.Ytcffinkkfdfcaaa

/- Copy and Same of the first reference: bytes copied, bytes held against each other. Conditions: lengths that fit. -/
namespace Go.Proofs.Ytcffinkkfdfcaaa
open Go Go.RowKit

def sameB (xs ys : List UInt8) : Bool := decide (xs = ys)
/-! ### Copy -/
set_option maxRecDepth 100000 in
set_option maxHeartbeats 400000 in
theorem Copy_c (A : Option Addr) (n c : Nat) (bs : List UInt8) (w : World) (hn : bs.length = n) (hr : Rd w A (bs.map bv)) (hl : n ≤ 140737488355328) :
    Calls Try.prog 10 #[.slice A n c] w fun e w' => ∃ v, e = .returned v ∧ OwnB w' w.heap.size v bs ∧ Below w.heap.size w w' := by
  have HN := Lib.hid hn; clear hn
  go_enter Try.func10, Try.ntmps10
  go_wp2_with (first | (at_make; refine wpList_makeB _ rfl (.tmp 5) (.tmp 5) rfl _ _ _ _ n rfl rfl rfl rfl hl ?_))
  intro w1 h1 h2 h3
  go_wp2_with (with_reducible refine wpList_copyB _ rfl (.tmp 7) (.tmp 8) rfl w.heap.size w.heap.size n n _ rfl h1 A n c bs rfl HN.out (hr.below h2) ?_; intro w2 h4 h5 _; have H4 := Lib.hid h4; clear h4)
  go_wp2
  go_ret
  refine ⟨_, rfl, ?_, h2.trans h5⟩
  have e : List.take n bs ++ List.drop n (List.replicate n 0) = bs := by
    rw [List.take_of_length_le (by rw [HN.out]; exact Nat.le_refl _), List.drop_of_length_le (by simp), List.append_nil]
  have h4 := H4.out
  rw [e] at h4
  exact h4

/-! ### Same -/
theorem take_succ_eq {xs ys : List UInt8} {k : Nat} (h : xs.take k = ys.take k) (hx : k < xs.length) (hy : k < ys.length) (he : xs[k] = ys[k]) : xs.take (k + 1) = ys.take (k + 1) := by
  rw [List.take_succ_eq_append_getElem hx, List.take_succ_eq_append_getElem hy, h, he]
theorem bv_bne {x y : UInt8} : (((x.toNat : Int) != (y.toNat : Int)) = true) ↔ x ≠ y := by
  rw [bne_iff_ne]
  constructor
  · rintro h rfl; exact h rfl
  · intro h e; exact h (UInt8.toNat_inj.1 (by omega))
theorem bv_bne_f {x y : UInt8} : (((x.toNat : Int) != (y.toNat : Int)) = false) ↔ x = y := by
  constructor
  · intro h
    apply Classical.byContradiction
    intro hn
    rw [bv_bne.2 hn] at h
    cases h
  · rintro rfl; simp

set_option maxRecDepth 100000 in
set_option maxHeartbeats 400000 in
theorem Same_c (A1 A2 : Option Addr) (n1 n2 c1 c2 : Nat) (xs ys : List UInt8) (w : World) (l1 : xs.length = n1) (l2 : ys.length = n2) (h1 : Rd w A1 (xs.map bv)) (h2 : Rd w A2 (ys.map bv)) (m1 : n1 ≤ maxLen) :
    Calls Try.prog 13 #[.slice A1 n1 c1, .slice A2 n2 c2] w fun e w' => e = .returned (.bool (sameB xs ys)) ∧ ∃ q, w' = w.drewN q := by
  unfold maxLen at m1
  by_cases hne : n1 = n2
  · subst hne
    rcases Nat.eq_zero_or_pos n1 with h0 | h0
    · subst h0
      have e1 : sameB xs ys = true := by rw [List.eq_nil_of_length_eq_zero l1, List.eq_nil_of_length_eq_zero l2]; rfl
      rw [e1]
      go_enter Try.func13, Try.ntmps13
      go_wp2
      go_loopw [13] (fun i wr => i = .int .i64 (0 : Nat) ∧ wr = w) (fun i _ => 0)
      case atStart => exact ⟨rfl, rfl⟩
      case round =>
        obtain ⟨rfl, rfl⟩ := hrel
        go_wp2
        go_ret
        exact ⟨rfl, 0, rfl⟩
    · obtain ⟨b1, o1, rfl, _, g1⟩ := h1.addrB (by omega)
      obtain ⟨b2, o2, rfl, _, g2⟩ := h2.addrB (by omega)
      have H1 : Hid (∀ k (h : k < xs.length), w.cell? ⟨b1, o1 + k, none⟩ = some (bv xs[k])) := g1
      have H2 : Hid (∀ k (h : k < ys.length), w.cell? ⟨b2, o2 + k, none⟩ = some (bv ys[k])) := g2
      clear g1 g2 h1 h2
      have L1 := Lib.hid l1; clear l1
      have L2 := Lib.hid l2; clear l2
      go_enter Try.func13, Try.ntmps13
      go_wp2
      go_loopw [13] (fun i wr => ∃ k : Nat, k ≤ n1 ∧ i = .int .i64 k ∧ (∃ q, wr = w.drewN q) ∧ xs.take k = ys.take k) (fun i _ => n1 - (intOf i).toNat)
      case atStart => exact ⟨0, Nat.zero_le _, rfl, ⟨0, rfl⟩, rfl⟩
      case round =>
        obtain ⟨k, hk, rfl, ⟨q, rfl⟩, ht⟩ := hrel
        have HT := Lib.hid ht; clear ht
        by_cases hlt : k < n1
        · have hx : k < xs.length := by rw [L1.out]; exact hlt
          have hy : k < ys.length := by rw [L2.out]; exact hlt
          obtain ⟨x, ex⟩ : ∃ x, x = xs[k] := ⟨_, rfl⟩
          obtain ⟨y, ey⟩ : ∃ y, y = ys[k] := ⟨_, rfl⟩
          have c1 : w.cell? ⟨b1, o1 + k, none⟩ = some (.int .u8 (x.toNat : Int)) := by rw [ex]; exact H1.out k hx
          have c2 : w.cell? ⟨b2, o2 + k, none⟩ = some (.int .u8 (y.toNat : Int)) := by rw [ey]; exact H2.out k hy
          have EX := Lib.hid ex; clear ex
          have EY := Lib.hid ey; clear ey
          by_cases hxy : x = y
          · have hb := bv_bne_f.2 hxy
            have HXY := Lib.hid hxy; clear hxy
            go_wp2
            go_quiet (fail)
            go_wp2
            go_roundw
            case rel => exact ⟨k + 1, by omega, by go_num, ⟨_, rfl⟩, take_succ_eq HT.out (by rw [L1.out]; exact hlt) (by rw [L2.out]; exact hlt) (by rw [← EX.out, ← EY.out]; exact HXY.out)⟩
            case measure => simp [intOf]; omega
          · have hb := bv_bne.2 hxy
            have HXY := Lib.hid hxy; clear hxy
            have e1 : sameB xs ys = false := by
              unfold sameB
              refine decide_eq_false fun e => HXY.out ?_
              subst e
              rw [EX.out, EY.out]
            go_wp2
            go_quiet (fail)
            go_wp2
            go_ret
            exact ⟨by rw [e1]; rfl, _, World.drewN_drewN _ _ _⟩
        · obtain rfl : k = n1 := by omega
          have e1 : sameB xs ys = true := by
            unfold sameB
            refine decide_eq_true ?_
            have := HT.out
            rw [List.take_of_length_le (by rw [L1.out]; exact Nat.le_refl _), List.take_of_length_le (by rw [L2.out]; exact Nat.le_refl _)] at this
            exact this
          go_wp2
          go_ret
          exact ⟨by rw [e1]; rfl, _, rfl⟩
  · have hb : ((n1 : Int) != (n2 : Int)) = true := by rw [bne_iff_ne]; omega
    have e1 : sameB xs ys = false := by
      unfold sameB
      refine decide_eq_false fun e => hne ?_
      rw [← l1, ← l2, e]
    rw [e1]
    clear e1
    have L1 := Lib.hid l1; clear l1
    have L2 := Lib.hid l2; clear l2
    go_enter Try.func13, Try.ntmps13
    go_wp2
    go_ret
    exact ⟨rfl, 0, rfl⟩
theorem sameB_true {xs ys : List UInt8} (h : xs = ys) : sameB xs ys = true := decide_eq_true h
theorem Same_t (A1 A2 : Option Addr) (n1 n2 c1 c2 : Nat) (xs : List UInt8) (w : World) (l1 : xs.length = n1) (l2 : xs.length = n2) (h1 : Rd w A1 (xs.map bv)) (h2 : Rd w A2 (xs.map bv)) (m1 : n1 ≤ maxLen) :
    Calls Try.prog 13 #[.slice A1 n1 c1, .slice A2 n2 c2] w fun e w' => e = .returned (.bool true) ∧ ∃ q, w' = w.drewN q := by
  have h := Same_c A1 A2 n1 n2 c1 c2 xs xs w l1 l2 h1 h2 m1
  rw [sameB_true rfl] at h
  exact h
end Go.Proofs.Ytcffinkkfdfcaaa

/- What the laws on sums call: the fixed example, the size, all held against all. Conditions: the table stands. -/
namespace Go.Proofs.Ytcffinkkfdfcaaa
open Go Go.RowKit
attribute [local go_sem] bv_store bv_cells no_cells bv_cellsOf run_eq_sumV run_guard_sumV

theorem sumV_agg (b : List UInt8) : sumV b = .agg ((sumL b).map bv).toArray := rfl
theorem get_of (l : List UInt8) (i : Nat) (x : UInt8) (h : l[i]? = some x) : getB l i = x := by simp [getB, List.getD, h]
theorem zeroA32 (w : World) : Bs (w.alloc (.cells #[.int .u8 0, .int .u8 0, .int .u8 0, .int .u8 0, .int .u8 0, .int .u8 0, .int .u8 0, .int .u8 0, .int .u8 0, .int .u8 0, .int .u8 0, .int .u8 0, .int .u8 0, .int .u8 0, .int .u8 0, .int .u8 0, .int .u8 0, .int .u8 0, .int .u8 0, .int .u8 0, .int .u8 0, .int .u8 0, .int .u8 0, .int .u8 0, .int .u8 0, .int .u8 0, .int .u8 0, .int .u8 0, .int .u8 0, .int .u8 0, .int .u8 0, .int .u8 0] 47)) w.heap.size 47 (List.replicate 32 0) := heap_alloc_new w _
theorem z32_len : (List.replicate 32 (0 : UInt8)).length = 32 := rfl

theorem conv_const (w : World) (C : Array Value) (n c : Nat) : (convert 25 25 (.slice (some ⟨w.heap.size, 0, none⟩) n c)).run Try.prog (w.alloc (.cells C 5)) = .ok (.slice (some ⟨w.heap.size, 0, none⟩) n c) (w.alloc (.cells C 5 (C.size, C.size + 1))) :=
  Lib.run_convert_bytes_const w 25 5 C n c Try.underlying25 Try.underlying5
theorem Rd.litM (w : World) (vs : List Value) (t : TypeId) (fr : Nat × Nat) : Rd (w.alloc (.cells vs.toArray t fr)) (some ⟨w.heap.size, 0, none⟩) vs := by
  refine .inr ⟨w.heap.size, 0, rfl, by simp, fun k hk => ?_⟩
  rw [Nat.zero_add, World.cell?_alloc_mark]
  simp

/-- A sum stored in a new array. -/
theorem wpList_putSum (w : World) {ops : Array Oper} {rest : List Oper} {o : Oper} {a : Act} {Q : Exit → Act → World → Prop} (hgd : o.guard = none) (x y : Operand) (ho : o.op = .store 47 x y)
    (b : List UInt8) (hx : a.eval x = .pointer (some ⟨w.heap.size, 0, none⟩)) (hy : a.eval y = sumV b)
    (h : ∀ w', Bs w' w.heap.size 47 (sumL b) → Below w.heap.size w w' → wpList Try.prog ops Q rest (a.put o.dst undef) w') : wpList Try.prog ops Q (o :: rest) a (w.alloc (.cells #[.int .u8 0, .int .u8 0, .int .u8 0, .int .u8 0, .int .u8 0, .int .u8 0, .int .u8 0, .int .u8 0, .int .u8 0, .int .u8 0, .int .u8 0, .int .u8 0, .int .u8 0, .int .u8 0, .int .u8 0, .int .u8 0, .int .u8 0, .int .u8 0, .int .u8 0, .int .u8 0, .int .u8 0, .int .u8 0, .int .u8 0, .int .u8 0, .int .u8 0, .int .u8 0, .int .u8 0, .int .u8 0, .int .u8 0, .int .u8 0, .int .u8 0, .int .u8 0] 47)) := by
  refine wpList_storeA _ hgd x y ho w.heap.size _ hx hy 47 (sumL b) (List.replicate 32 0) rfl (zeroA32 w) (sumL_len b) z32_len fun w' h1 h2 => h w' h1 ?_
  exact ((Below.refl _ _).alloc (Nat.le_refl _) _).grown h2 (by simp) (fun k e => by injection e with e; omega)

theorem RdS_one (w : World) (A : Option Addr) (n c : Nat) (b : List UInt8) (t : TypeId) (hn : b.length = n) (hr : Rd w A (b.map bv)) (h1 : n ≤ c) (h2 : c ≤ maxLen) :
    RdS (w.alloc (.cells #[.slice A n c] t)) (some ⟨w.heap.size, 0, none⟩) [b] := by
  refine .inr ⟨w.heap.size, 0, rfl, by simp, fun k hk => ?_⟩
  obtain rfl : k = 0 := by simp at hk; omega
  refine ⟨A, c, ?_, hr.alloc _, by simpa [hn] using h1, h2⟩
  rw [cell_of_row _ _ 0 _ _ (0, 0) (heap_alloc_new w _)]
  simp [hn]
attribute [local go_sem] conv_const

/-! ### The size -/
def SzOk (bss : List (List UInt8)) (e : Ending) : Prop := ∃ r : Int, e = .returned (.int .i64 r) ∧ 0 ≤ r ∧ r ≤ 9000000000000000000 ∧ (r ≤ 16384 → bss.flatten.length ≤ 16384)
/-! ### All held against all -/
theorem Same_q (A1 A2 : Option Addr) (n c1 c2 : Nat) (xs : List UInt8) (w : World) (l1 : xs.length = n) (h1 : Rd w A1 (xs.map bv)) (h2 : Rd w A2 (xs.map bv)) (m1 : n ≤ maxLen) (q m : Nat) :
    Calls Try.prog 13 #[.slice A1 n c1, .slice A2 n c2] (w.drewN (q + m)) fun e w' => e = .returned (.bool true) ∧ ∃ k, w' = w.drewN (q + k) :=
  (Same_t A1 A2 n n c1 c2 xs (w.drewN (q + m)) l1 l1 (h1.drewN _) (h2.drewN _) m1).mono fun _ _ ⟨he, q', hw⟩ => ⟨he, m + q', by rw [hw, World.drewN_drewN, Nat.add_assoc]⟩
/-- A literal slice of slices in a new block. -/
theorem RdS_lit (w : World) (ps : List (Option Addr × Nat × Nat)) (bss : List (List UInt8)) (t : TypeId) (hl : ps.length = bss.length)
    (h : ∀ x ∈ ps.zip bss, x.2.length = x.1.2.1 ∧ Rd w x.1.1 (x.2.map bv) ∧ x.1.2.1 ≤ x.1.2.2 ∧ x.1.2.2 ≤ maxLen) :
    RdS (w.alloc (.cells (ps.map fun p => Value.slice p.1 p.2.1 p.2.2).toArray t)) (some ⟨w.heap.size, 0, none⟩) bss := by
  refine .inr ⟨w.heap.size, 0, rfl, by simp, fun k hk => ?_⟩
  have hk' : k < ps.length := by omega
  have hz : k < (ps.zip bss).length := by simp; omega
  obtain ⟨h1, h2, h3, h4⟩ := h _ (List.getElem_mem hz)
  simp only [List.getElem_zip] at h1 h2 h3 h4
  refine ⟨ps[k].1, ps[k].2.2, ?_, h2.alloc _, by omega, h4⟩
  rw [Nat.zero_add, cell_of_row _ _ k _ _ (0, 0) (heap_alloc_new w _), h1]
  simp [hk']
end Go.Proofs.Ytcffinkkfdfcaaa

/- The reference's Same of items: the same items are the same. Conditions: items that can be read. -/
namespace Go.Proofs.Ytcffinkkfdfcaaa
open Go Go.RowKit

/-- One item. -/
theorem FoR.one {ok : Nat → Prop} {w : World} {A : Option Addr} {i : Nat} {k : Int} {cr li : Bool} {bs : List UInt8} {sub rest : Fo} (h : FoR ok w A i (.cons k cr li bs sub rest)) : (∃ b off At n c As d, A = some ⟨b, off, none⟩ ∧ b < w.heap.size ∧ ok b ∧
      (w.cell? ⟨b, off + i * 5, none⟩ = some (.int .i64 k) ∧ w.cell? ⟨b, off + i * 5 + 1, none⟩ = some (.bool cr) ∧ w.cell? ⟨b, off + i * 5 + 2, none⟩ = some (.bool li) ∧
       w.cell? ⟨b, off + i * 5 + 3, none⟩ = some (.slice At n c) ∧ w.cell? ⟨b, off + i * 5 + 4, none⟩ = some (.slice As sub.len d)) ∧
      TxtR ok w At n c bs ∧ FoR ok w As 0 sub ∧ sub.len ≤ d ∧ d ≤ maxLen ∧ sub.len ≤ 2199023255488) ∧ FoR ok w A (i + 1) rest := h

end Go.Proofs.Ytcffinkkfdfcaaa

/- What slices.Clone, keys.clone and the reference's Copy answer of events: the same events in memory of one's own. Conditions: events that can be read; lengths that fit. -/
namespace Go.Proofs.Ytcffinkkfdfcaaa
open Go Go.RowKit

end Go.Proofs.Ytcffinkkfdfcaaa

/- What keys.May and the reference's May answer: whether an event may be. Conditions: none. -/
namespace Go.Proofs.Ytcffinkkfdfcaaa
open Go Go.RowKit

end Go.Proofs.Ytcffinkkfdfcaaa

/- What the layer wire's and its reference's Num answer: a number by so many bytes, the highest first. Conditions: a number of 64 bits. -/
namespace Go.Proofs.Ytcffinkkfdfcaaa
open Go Go.RowKit

/-! ### Num -/
theorem numL_end {n size : Nat} {f : Nat → UInt8} (hf : ∀ i, i < size → f i = lo (n / 256 ^ (size - 1 - i))) : (List.range size).map f = numL n size := by
  unfold numL
  exact List.map_congr_left fun i hi => hf i (List.mem_range.1 hi)
/-- What stands in the row when the places from k on are laid. -/
def numTail (n size k : Nat) : List UInt8 := List.replicate k 0 ++ (numL n size).drop k
theorem numTail_start (n size : Nat) : numTail n size size = List.replicate size 0 := by
  unfold numTail
  rw [List.drop_of_length_le (by rw [numL_length]; exact Nat.le_refl _), List.append_nil]
theorem numTail_zero (n size : Nat) : numTail n size 0 = numL n size := by simp [numTail]
theorem numTail_step {n size k : Nat} (hk : k < size) : (numTail n size (k + 1)).set k (lo (n / 256 ^ (size - 1 - k))) = numTail n size k := by
  unfold numTail
  have h1 : (numL n size).drop k = lo (n / 256 ^ (size - 1 - k)) :: (numL n size).drop (k + 1) := by
    rw [List.drop_eq_getElem_cons (by rw [numL_length]; exact hk)]
    simp [numL]
  rw [h1, List.replicate_succ', List.append_assoc, List.set_append_right _ _ (by simp)]
  simp
theorem numTail_length (n size k : Nat) (hk : k ≤ size) : (numTail n size k).length = size := by
  unfold numTail; rw [List.length_append, List.length_replicate, List.length_drop, numL_length]; omega

def numLI (n : Nat) (size : Int) : List UInt8 := if 1 ≤ size ∧ size ≤ 8 then numL n size.toNat else []

set_option maxRecDepth 100000 in
set_option maxHeartbeats 400000 in
theorem Num_c (n : Nat) (size : Int) (w : World) (_hn : U64 n) :
    Calls Try.prog 34 #[.int .u64 n, .int .i64 size] w fun e w' => ∃ v, e = .returned v ∧ OwnB w' w.heap.size v (numLI n size) ∧ Below w.heap.size w w' := by
  rcases Int.lt_or_le size 1 with h1 | h1
  · go_enter Try.func34, Try.ntmps34
    go_wp2
    go_ret
    refine ⟨_, rfl, ?_, Below.refl _ _⟩
    rw [numLI, if_neg (by omega)]; exact Own.nil_ _ _ _
  rcases Int.lt_or_le 8 size with h8 | h8
  · go_enter Try.func34, Try.ntmps34
    go_wp2
    go_ret
    refine ⟨_, rfl, ?_, Below.refl _ _⟩
    rw [numLI, if_neg (by omega)]; exact Own.nil_ _ _ _
  obtain ⟨s, rfl⟩ := Int.eq_ofNat_of_zero_le (show 0 ≤ size by omega)
  have hfin : numLI n (s : Int) = numL n s := by rw [numLI, if_pos ⟨h1, h8⟩, Int.toNat_natCast]
  have HF := Lib.hid hfin; clear hfin
  go_enter Try.func34, Try.ntmps34
  go_wp2_with (first | (at_make; refine wpList_makeB _ rfl (.tmp 13) (.tmp 13) rfl _ _ _ _ s rfl rfl rfl rfl (by omega) ?_))
  intro w1 ho1 hb1 _
  go_wp2
  go_loopw [0, 6] (fun m i wr => ∃ k : Nat, k ≤ s ∧ i = .int .i64 ((k : Int) - 1) ∧ m = .int .u64 ((n / 256 ^ (s - k) : Nat) : Int) ∧ OwnB wr w.heap.size (.slice (some ⟨w.heap.size, 0, none⟩) s s) (numTail n s k) ∧ Below w.heap.size w wr) (fun m i _ => (intOf i + 1).toNat)
  case atStart =>
    refine ⟨s, Nat.le_refl _, rfl, ?_, ?_, hb1⟩
    · rw [Nat.sub_self, Nat.pow_zero, Nat.div_one]
    · rw [numTail_start]; exact ho1
  case round =>
    obtain ⟨k, hk, rfl, rfl, hown, hb⟩ := hrel
    rcases Nat.eq_zero_or_pos k with h0 | h0
    · subst h0
      go_wp2
      go_ret
      refine ⟨_, rfl, ?_, hb⟩
      rw [HF.out, ← numTail_zero]; exact hown
    · obtain ⟨j, rfl⟩ : ∃ j, k = j + 1 := ⟨k - 1, by omega⟩
      have hcell := hown.cell j (by rw [numTail_length _ _ _ hk]; omega)
      have hfree := hown.free j
      obtain ⟨x, hx⟩ : ∃ x, x = n / 256 ^ (s - (j + 1)) := ⟨_, rfl⟩
      have hq : x / 256 = n / 256 ^ (s - j) := by
        rw [hx, Nat.div_div_eq_div_mul, ← Nat.pow_succ, show (s - (j + 1)).succ = s - j by omega]
      rw [← hx]
      have HX := Lib.hid hx; clear hx
      have HQ := Lib.hid hq; clear hq
      go_wp2
      go_roundw
      case rel =>
        refine ⟨j, by omega, rfl, by rw [← HQ.out]; try rfl, ?_, hb.setCell (Nat.le_refl _) _⟩
        rw [int_lo (x := (x : Int) % 256) (n := x) (by omega), ← numTail_step (by omega)]
        have h := hown.set j (lo x)
        rw [HX.out] at h ⊢
        rw [show s - 1 - j = s - (j + 1) by omega]
        exact h
      case measure => simp [intOf]

set_option maxRecDepth 100000 in
set_option maxHeartbeats 400000 in
theorem refNum_c (n : Nat) (size : Int) (w : World) (hn : U64 n) :
    Calls Try.prog 37 #[.int .u64 n, .int .i64 size] w fun e w' => ∃ v, e = .returned v ∧ OwnB w' w.heap.size v (numLI n size) ∧ Below w.heap.size w w' := by
  rcases Int.lt_or_le size 1 with h1 | h1
  · go_enter Try.func37, Try.ntmps37
    go_wp2
    go_ret
    refine ⟨_, rfl, ?_, Below.refl _ _⟩
    rw [numLI, if_neg (by omega)]; exact Own.nil_ _ _ _
  rcases Int.lt_or_le 8 size with h8 | h8
  · go_enter Try.func37, Try.ntmps37
    go_wp2
    go_ret
    refine ⟨_, rfl, ?_, Below.refl _ _⟩
    rw [numLI, if_neg (by omega)]; exact Own.nil_ _ _ _
  obtain ⟨s, rfl⟩ := Int.eq_ofNat_of_zero_le (show 0 ≤ size by omega)
  have hfin : numLI n (s : Int) = numL n s := by rw [numLI, if_pos ⟨h1, h8⟩, Int.toNat_natCast]
  have HF := Lib.hid hfin; clear hfin
  go_enter Try.func37, Try.ntmps37
  go_wp2_with (first | (at_make; refine wpList_makeB _ rfl (.tmp 13) (.tmp 13) rfl _ _ _ _ s rfl rfl rfl rfl (by omega) ?_))
  intro w1 ho1 hb1 _
  go_wp2
  go_loopw [0, 6] (fun m i wr => ∃ k : Nat, k ≤ s ∧ i = .int .i64 (k : Int) ∧ m = .int .u64 ((n / 256 ^ k : Nat) : Int) ∧ OwnB wr w.heap.size (.slice (some ⟨w.heap.size, 0, none⟩) s s) (numTail n s (s - k)) ∧ Below w.heap.size w wr) (fun m i _ => s - (intOf i).toNat)
  case atStart =>
    refine ⟨0, Nat.zero_le _, rfl, ?_, ?_, hb1⟩
    · rw [Nat.pow_zero, Nat.div_one]
    · rw [Nat.sub_zero, numTail_start]; exact ho1
  case round =>
    obtain ⟨k, hk, rfl, rfl, hown, hb⟩ := hrel
    rcases Nat.lt_or_ge k s with h0 | h0
    · obtain ⟨x, hx⟩ : ∃ x, x = n / 256 ^ k := ⟨_, rfl⟩
      have hu : U64 x := hn.le (by rw [hx]; exact Nat.div_le_self _ _)
      have hw : IntKind.u64.wrap ((x : Int) / 256) = (x : Int) / 256 := u64_div hu 256
      have hq : x / 256 = n / 256 ^ (k + 1) := by rw [hx, Nat.div_div_eq_div_mul, ← Nat.pow_succ]
      obtain ⟨old, hcell⟩ : ∃ old, wr.cell? ⟨w.heap.size, s - 1 - k, none⟩ = some old := ⟨_, hown.cell (s - 1 - k) (by rw [numTail_length _ _ _ (by omega)]; omega)⟩
      have hfree := hown.free (s - 1 - k)
      rw [← hx]
      have HX := Lib.hid hx; clear hx
      have HQ := Lib.hid hq; clear hq
      go_wp2
      go_roundw
      case rel =>
        refine ⟨k + 1, by omega, by go_num, by rw [← HQ.out]; try rfl, ?_, hb.setCell (Nat.le_refl _) _⟩
        rw [int_lo (x := (x : Int) % 256) (n := x) (by omega), ← numTail_step (by omega), show s - (k + 1) + 1 = s - k by omega, show s - 1 - (s - (k + 1)) = k by omega, ← HX.out, show s - (k + 1) = s - 1 - k by omega]
        exact hown.set _ _
      case measure => simp [intOf]; omega
    · obtain rfl : k = s := by omega
      go_wp2
      go_ret
      refine ⟨_, rfl, ?_, hb⟩
      rw [Nat.sub_self, numTail_zero] at hown
      rw [HF.out]; exact hown

end Go.Proofs.Ytcffinkkfdfcaaa

/- What keys.numbers.put and the reference's lay answer: a number in a version's way; and which event may not be. Conditions: events that can be read. -/
namespace Go.Proofs.Ytcffinkkfdfcaaa
open Go Go.RowKit

def putL (f : Bool) (n : Nat) (size : Int) : List UInt8 := if f then numLI n size else varL n

def mostI (k : Int) : Int := if k = 1 then 8 else if k = 2 then 64 else -1
/-- The first event that may not be; -1: there is none. -/
def badGo : Nat → List Ev → Int
  | _, [] => -1
  | k, e :: es => if e.may then badGo (k + 1) es else k
theorem badGo_neg : ∀ (es : List Ev) (k : Nat), (0 ≤ badGo k es) ↔ es.all Ev.may = false
  | [], k => by simp [badGo]
  | e :: es, k => by
    rw [badGo, List.all_cons]
    cases h : e.may
    · simp
    · simpa using badGo_neg es (k + 1)

end Go.Proofs.Ytcffinkkfdfcaaa

/- The bytes of a batch of events, in plain words. Conditions: none. -/
namespace Go.Proofs.Ytcffinkkfdfcaaa
open Go Go.RowKit

def evL (f : Bool) (e : Ev) : List UInt8 :=
  putL f e.k.toNat 1 ++ (if e.k = 1 ∨ e.k = 2 then putL f e.t.length 1 ++ e.t else putL f e.x.toNat 1 ++ putL f e.y.toNat 1 ++ (if e.k = 3 then putL f e.b.toNat 1 else []))
def evsL (f : Bool) (es : List Ev) : List UInt8 := (es.map (evL f)).flatten
def encL (f : Bool) (base : Nat) (es : List Ev) : List UInt8 := putL f base 8 ++ putL f es.length 1 ++ evsL f es
def encE (ver : Int) (base : Nat) (es : List Ev) : List UInt8 × Nat :=
  if ver < 1 ∨ 3 < ver ∨ es = [] ∨ es.all Ev.may = false then ([], 1) else if 16 < es.length then ([], 4) else (encL (decide (ver = 1)) base es, 0)
theorem numLI_le (n : Nat) (s : Int) : (numLI n s).length ≤ 8 := by
  unfold numLI
  split
  · rw [numL_length]; omega
  · simp
theorem putL_le (f : Bool) (n : Nat) (s : Int) (h : U64 n) : (putL f n s).length ≤ 10 := by
  unfold putL
  split
  · have := numLI_le n s; omega
  · exact varL_len10 h
theorem may_bounds {e : Ev} (h : e.may = true) : (e.k = 1 ∨ e.k = 2 ∨ e.k = 3 ∨ e.k = 4) ∧ e.t.length ≤ 64 ∧ 0 ≤ e.x ∧ e.x ≤ 80 ∧ 0 ≤ e.y ∧ e.y ≤ 24 ∧ 0 ≤ e.b ∧ e.b ≤ 255 := by
  have := of_decide_eq_true h
  unfold mayP at this
  omega
theorem u64_small {n : Nat} (h : n ≤ 1000000) : U64 n := by unfold U64; omega
theorem evL_le (f : Bool) (e : Ev) (h : e.may = true) : (evL f e).length ≤ 100 := by
  obtain ⟨h0, h1, h2, h3, h4, h5, h6, h7⟩ := may_bounds h
  have p0 := putL_le f e.k.toNat 1 (u64_small (by omega))
  have p1 := putL_le f e.t.length 1 (u64_small (by omega))
  have p2 := putL_le f e.x.toNat 1 (u64_small (by omega))
  have p3 := putL_le f e.y.toNat 1 (u64_small (by omega))
  have p4 := putL_le f e.b.toNat 1 (u64_small (by omega))
  unfold evL
  rw [List.length_append]
  split
  · rw [List.length_append]; omega
  · rw [List.length_append, List.length_append]
    split
    · omega
    · simp only [List.length_nil]; omega
theorem evsL_le (f : Bool) : ∀ (es : List Ev), es.all Ev.may = true → (evsL f es).length ≤ 100 * es.length
  | [], _ => by simp [evsL]
  | e :: es, h => by
    rw [List.all_cons, Bool.and_eq_true] at h
    have h1 := evL_le f e h.1
    have h2 := evsL_le f es h.2
    have e1 : evsL f (e :: es) = evL f e ++ evsL f es := rfl
    rw [e1, List.length_append, List.length_cons]
    omega
theorem evsL_take (f : Bool) (es : List Ev) (k : Nat) (h : k < es.length) : evsL f (es.take (k + 1)) = evsL f (es.take k) ++ evL f es[k] := by
  unfold evsL
  rw [List.take_succ_eq_append_getElem h, List.map_append, List.flatten_append, List.map_cons, List.map_nil, List.flatten_cons, List.flatten_nil, List.append_nil]
def preL (f : Bool) (base n : Nat) (es : List Ev) : List UInt8 := putL f base 8 ++ putL f n 1 ++ evsL f es
theorem preL_le (f : Bool) (base n : Nat) (es : List Ev) (hb : U64 base) (hn : n ≤ 16) (hm : es.all Ev.may = true) (hl : es.length ≤ 16) : (preL f base n es).length ≤ 2000 := by
  have p0 := putL_le f base 8 hb
  have p1 := putL_le f n 1 (u64_small (by omega))
  have p2 := evsL_le f es hm
  unfold preL
  rw [List.length_append, List.length_append]
  omega
theorem all_take {es : List Ev} (h : es.all Ev.may = true) (k : Nat) : (es.take k).all Ev.may = true := by
  rw [List.all_eq_true] at h ⊢
  intro e he
  exact h e (List.mem_of_mem_take he)
end Go.Proofs.Ytcffinkkfdfcaaa

/- What an inbox and a nil queue answer. Conditions: events that can be read; lengths that fit. -/
namespace Go.Proofs.Ytcffinkkfdfcaaa
open Go Go.RowKit

def U63 (n : Nat) : Prop := n < 9223372036854775808
theorem u64_wrapN {n : Nat} (h : U64 n) : IntKind.u64.wrap (n : Int) = (n : Int) := by
  unfold U64 at h
  unfold IntKind.wrap
  simp [IntKind.bits, IntKind.signed]
  omega
section
variable {w w' : World} {b got : Nat}
end
/-- What an inbox takes: the new ones, the error, how many came. -/
def tkR (got base : Nat) (es : List Ev) : List Ev × Nat × Nat :=
  if es = [] ∨ 16 < es.length then ([], 1, got) else if got < base then ([], 15, got) else if es.length ≤ got - base then ([], 16, got) else (es.drop (got - base), 0, got + (es.length - (got - base)))
theorem EvsR.cut {ok : Nat → Prop} {w : World} {A : Option Addr} {ds : List EvV} {es : List Ev} (h : EvsR ok w A ds es) {k c : Nat} (hk : k ≤ es.length) (hc : es.length ≤ c) : EvsR ok w (if c = k then A else A.map (fun x => x.add (k * 5))) (ds.drop k) (es.drop k) := by
  have hl := h.len
  have hcd : cellsV (ds.drop k) = (cellsV ds).drop (k * 5) := by
    have e : cellsV ds = cellsV (ds.take k) ++ cellsV (ds.drop k) := by rw [← cellsV_append, List.take_append_drop]
    rw [e, List.drop_left' (by rw [cellsV_length, List.length_take]; omega)]
  refine ⟨by rw [List.length_drop, List.length_drop, hl], ?_, fun h0 a e => ?_, fun i h1 h2 => ?_⟩
  · rw [hcd]
    rcases h.row with h2 | ⟨b, off, rfl, hb, hcc⟩
    · left; rw [h2]; simp
    · by_cases e : c = k
      · left
        apply List.eq_nil_of_length_eq_zero
        rw [List.length_drop, cellsV_length]; omega
      · rw [if_neg e]
        refine .inr ⟨b, off + k * 5, ?_, hb, fun j hj => ?_⟩
        · unfold Addr.add
          by_cases h0 : k * 5 = 0
          · have : k = 0 := by omega
            subst this; simp
          · simp [h0]
        · simp only [List.length_drop] at hj
          rw [Nat.add_assoc, hcc (k * 5 + j) (by omega)]
          simp
  · rw [List.length_drop] at h0
    split at e
    · exact h.ok_ (by omega) a e
    · obtain ⟨a', ha, rfl⟩ := Option.map_eq_some_iff.1 e
      have := h.ok_ (by omega) a' ha
      unfold Addr.add
      split <;> exact this
  · have h1' : k + i < ds.length := by rw [List.length_drop] at h1; omega
    have h2' : k + i < es.length := by omega
    have := h.each (k + i) h1' h2'
    rw [List.getElem_drop, List.getElem_drop]
    exact this

end Go.Proofs.Ytcffinkkfdfcaaa

/- What tlv.lay answers: a list's bytes. Conditions: kinds and bytes that may be; no more items than so many. -/
namespace Go.Proofs.Ytcffinkkfdfcaaa
open Go Go.RowKit

theorem Rd.grownS {w w' : World} {A : Option Addr} {vs : List Value} (h : Rd w A vs) {row : Option Nat} (hg : w.grownBy w' row) (hne : vs ≠ [] → ∀ b off, A = some ⟨b, off, none⟩ → row ≠ some b) : Rd w' A vs := by
  by_cases hv : vs = []
  · exact .inl hv
  · exact h.grown hg (hne hv)

set_option maxRecDepth 100000 in
set_option maxHeartbeats 4000000 in
theorem lay_c : ∀ (M : Nat) (f : Fo), f.size = M → f.good → f.size ≤ 100000 → ∀ (ok : Nat → Prop) (A : Option Addr) (n c : Nat) (w : World), f.len = n → FoR ok w A 0 f → n ≤ 2199023255488 →
    Calls Try.prog 62 #[.slice A n c] w fun r w' => ∃ v, r = .returned v ∧ OwnB w' w.heap.size v (layL f) ∧ Below w.heap.size w w' := by
  intro M
  induction M using Nat.strongRecOn with
  | _ M ih =>
    intro f hM hgood hsz ok A n c w hn h1 hl
    have IH := Lib.hid ih; clear ih
    have HN := Lib.hid hn; clear hn
    have H1 := Lib.hid h1; clear h1
    have HM := Lib.hid hM; clear hM
    have HG := Lib.hid hgood; clear hgood
    have HSZ := Lib.hid hsz; clear hsz
    have HLE : Hid ((layL f).length ≤ 4116 * 100000) := Lib.hid (by have := layL_le f HG.out HSZ.out; have := HSZ.out; omega)
    go_enter Try.func62, Try.ntmps62
    go_wp2_with (fail)
    go_loopw [3, 10] (fun v i wr => ∃ (k : Nat) (r : Fo) (P : List UInt8), i = .int .i64 k ∧ Hid (k + r.len = n) ∧ Hid (FoR ok w A k r) ∧ Hid r.good ∧ Hid (r.size ≤ f.size) ∧ Hid (OwnB wr w.heap.size v P) ∧ Hid (layL f = P ++ layL r) ∧ Below w.heap.size w wr) (fun _ i _ => n - (intOf i).toNat)
    case atStart => exact ⟨0, f, [], rfl, Lib.hid (by rw [HN.out]; omega), H1, HG, Lib.hid (Nat.le_refl _), Lib.hid (Own.nil_ _ _ _), Lib.hid rfl, Below.refl _ _⟩
    case round =>
      obtain ⟨k, r, P, rfl, HK, R1, HGr, HS, HO, HL, kb⟩ := hrel
      cases r with
      | nil =>
        have hk : k = n := HK.out
        have hk' : (n : Int) ≤ (k : Int) := by omega
        clear hk
        go_wp2_with (fail)
        go_ret
        exact ⟨_, rfl, by rw [HL.out, layL, List.append_nil]; exact HO.out, kb⟩
      | cons z cr li bs sub rest =>
        obtain ⟨⟨b1, o1, At1, m1, cm1, As1, e1, rfl, hb1, -, ⟨x0, x1, x2, x3, x4⟩, t1, s1, l1, l2, l3⟩, r1⟩ := R1.out.one
        obtain ⟨g1, g2, g3, g4, -, g5⟩ := t1
        obtain ⟨z1, z2, z3, zs, zr⟩ := HGr.out
        have hkn : k < n := by have := HK.out; simp only [Fo.len] at this; omega
        have hlt' : (k : Int) < (n : Int) := by omega
        have R1b := Lib.hid r1
        have S1 := Lib.hid s1
        have G1 := Lib.hid g1
        have G2 := Lib.hid g2
        have ZS := Lib.hid zs
        have ZR := Lib.hid zr
        have HSb : Hid (rest.size ≤ f.size) := Lib.hid (by have := HS.out; simp only [Fo.size] at this; omega)
        have HSs : Hid (sub.size < M ∧ sub.size ≤ 100000) := Lib.hid (by have := HS.out; have := HM.out; have := HSZ.out; simp only [Fo.size] at *; omega)
        have HKb : Hid (k + 1 + rest.len = n) := Lib.hid (by have := HK.out; simp only [Fo.len] at this; omega)
        obtain ⟨sl, esl⟩ : ∃ sl, sl = sub.len := ⟨_, rfl⟩
        rw [← esl] at x4 l1 l3
        have ESL := Lib.hid esl
        rw [← kb.cell (p := ⟨b1, _, none⟩) hb1] at x0 x1 x2 x3 x4
        have hPl : Hid (P.length ≤ 4116 * 100000) := Lib.hid (by have := HLE.out; rw [HL.out, List.length_append] at this; omega)
        have hbs : Hid (bs.length ≤ 4096) := Lib.hid z3
        have KB := Lib.hid kb
        have HB1 := Lib.hid hb1
        obtain ⟨wa, ewa⟩ : ∃ wa, wa = wr.alloc (.cells #[.int .i64 z, .bool cr, .bool li, .slice At1 m1 cm1, .slice As1 sl e1] 76) := ⟨_, rfl⟩
        have hba : Below wr.heap.size wr wa := by rw [ewa]; exact (Below.refl _ _).alloc (Nat.le_refl _) _
        have hka : Below w.heap.size w wa := kb.trans (hba.mono kb.size)
        have HBA := Lib.hid hba
        have HKA := Lib.hid hka
        have EWA := Lib.hid ewa
        clear g1 g2 r1 s1 zs zr HK HS esl R1 HGr z3 kb hb1 ewa hba hka g3 g4
        cases cr with
        | true =>
          cases li with
          | true =>
            obtain ⟨N, eN⟩ : ∃ N, N = numI z true true := ⟨_, rfl⟩
            have hN : (N : Int) = 4 * z + 2 + 1 := by rw [eN]; unfold numI; simp; omega
            have hN2 : N ≤ 4003 := by rw [eN]; exact numI_le _ _ z1 z2
            have wN : IntKind.u64.wrap (4 * z + 2 + 1) = (N : Int) := by rw [← hN]; exact u64_wrapN (by unfold U64; omega)
            have EN := Lib.hid eN
            clear eN hN
            go_wp2_with (fail)
            rw [← EWA.out]
            refine (IH.out sub.size HSs.out.1 sub rfl ZS.out HSs.out.2 ok As1 sl e1 wa ESL.out.symm (S1.out.below HKA.out) l3).mono ?_
            rintro r w1 ⟨vi, rfl, hoi, hbi⟩
            obtain ⟨Ai, ci, evi, i1, i2, i3, i4⟩ := OwnB.form hoi
            obtain ⟨I, eI⟩ : ∃ I, I = layL sub := ⟨_, rfl⟩
            have hIl : I.length ≤ 4116 * 100000 := by rw [eI]; have := layL_le sub ZS.out HSs.out.2; have := HSs.out.2; omega
            rw [← eI] at evi i1 i3
            obtain ⟨ni, eni⟩ : ∃ ni, ni = I.length := ⟨_, rfl⟩
            rw [← eni] at evi hIl
            subst evi
            have hsep : I.map bv ≠ [] → ∀ b off, Ai = some ⟨b, off, none⟩ → b < w1.heap.size ∧ ∀ j, u3.ownBlock = some j → j ≠ b := fun _ b off e => by
              have q := i4 _ e
              refine ⟨q.2.1, fun j hj => ?_⟩
              have := (Own.lt HO.out j hj).2
              have := HBA.out.size
              have : wa.heap.size ≤ b := q.1
              omega
            have hb1' : Below wr.heap.size wr w1 := HBA.out.trans (hbi.mono HBA.out.size)
            have EI := Lib.hid eI
            have ENI := Lib.hid eni
            clear hoi hbi eI i1 i2 i4 eni
            go_wp2_with (fail)
            refine (Var_c N w1 (by unfold U64; omega)).mono ?_
            rintro r w2 ⟨v2, rfl, ho2, hb2⟩
            obtain ⟨A2, c2, ev2, -, -, R2', -⟩ := OwnB.form ho2
            obtain ⟨n2, en2⟩ : ∃ n2, n2 = (varL N).length := ⟨_, rfl⟩
            have hn2 : n2 ≤ 10 := by rw [en2]; exact varL_10 (by omega)
            rw [← en2] at ev2
            subst ev2
            have R2 := Lib.hid R2'
            have EN2 := Lib.hid en2
            have HB2 := Lib.hid (hb1'.trans (hb2.mono hb1'.size))
            have HZ2 := Lib.hid hb2.size
            have HO2 := Lib.hid (Own.below HO.out HB2.out)
            have HK2 := Lib.hid (KB.out.trans (HB2.out.mono KB.out.size))
            have RI2 := Lib.hid (i3.below hb2)
            have SEP := Lib.hid hsep
            have hz2 : w.heap.size ≤ w2.heap.size := HK2.out.size
            have wni := u64_wrapN (n := ni) (by unfold U64; omega)
            clear ho2 hb2 R2' en2 i3 hsep
            go_wp2_with (at_builtin; refine wpList_appB _ rfl (.tmp 30) (.tmp 33) rfl w.heap.size _ P rfl HO2.out A2 n2 c2 (varL N) rfl EN2.out.symm R2.out (by have := hPl.out; omega) hz2 ?_; intro v3 w3 ho3 hg3 hv3; have HO3 := Lib.hid ho3; have HK3 := Lib.hid (HK2.out.grown hg3 HK2.out.size (fun j hj => (Own.lt HO2.out j hj).1)); have RI3 := Lib.hid (RI2.out.grownS hg3 (fun hne b off e ej => (SEP.out hne b off e).2 b ej rfl)); have HV3 : Hid (v3.ownBlock = u3.ownBlock ∨ v3.ownBlock = some w2.heap.size) := Lib.hid hv3; have HZ3 := Lib.hid hg3.size; clear ho3 hg3 hv3 hz2)
            refine (Var_c ni w3 (by unfold U64; omega)).mono ?_
            rintro r w4 ⟨v4, rfl, ho4, hb4⟩
            obtain ⟨A4, c4, ev4, -, -, R4', -⟩ := OwnB.form ho4
            obtain ⟨n4, en4⟩ : ∃ n4, n4 = (varL ni).length := ⟨_, rfl⟩
            have hn4 : n4 ≤ 10 := by rw [en4]; exact varL_10 (by omega)
            rw [← en4] at ev4
            subst ev4
            have R4 := Lib.hid R4'
            have EN4 := Lib.hid en4
            have HO4 := Lib.hid (Own.below HO3.out hb4)
            have HK4 := Lib.hid (HK3.out.trans (hb4.mono HK3.out.size))
            have RI4 := Lib.hid (RI3.out.below hb4)
            have hz4 : w.heap.size ≤ w4.heap.size := HK4.out.size
            have hP3 : Hid ((P ++ varL N).length ≤ 4116 * 100000 + 10) := Lib.hid (by rw [List.length_append, ← EN2.out]; have := hPl.out; omega)
            clear ho4 hb4 R4' en4 wni
            go_wp2_with (first
              | (at_builtin; refine wpList_appB _ rfl (.tmp 34) (.tmp 38) rfl w.heap.size _ (P ++ varL N) rfl HO4.out A4 n4 c4 (varL ni) rfl EN4.out.symm R4.out (by have := hP3.out; omega) hz4 ?_; intro v5 w5 ho5 hg5 hv5; have HO5 := Lib.hid ho5; have HK5 := Lib.hid (HK4.out.grown hg5 HK4.out.size (fun j hj => (Own.lt HO4.out j hj).1)); have RI5 := Lib.hid (RI4.out.grownS hg5 (fun hne b off e ej => Or.elim HV3.out (fun q => (SEP.out hne b off e).2 b (q.symm.trans ej) rfl) (fun q => by (have ej' := Option.some.inj (q.symm.trans ej); have := (SEP.out hne b off e).1; have := HZ2.out; omega)))); have hz5 : w.heap.size ≤ w5.heap.size := HK5.out.size; have hP5 : Hid ((P ++ varL N ++ varL ni).length ≤ 4116 * 100000 + 20) := Lib.hid (by rw [List.length_append, ← EN4.out]; have := hP3.out; omega); clear ho5 hg5 hv5 hz4)
              | (at_builtin; refine wpList_appB _ rfl (.tmp 39) (.tmp 40) rfl w.heap.size _ (P ++ varL N ++ varL ni) rfl HO5.out Ai ni ci I rfl ENI.out.symm RI5.out (by have := hP5.out; omega) hz5 ?_; intro v6 w6 ho6 hg6 _; have HO6 := Lib.hid ho6; have HK6 := Lib.hid (HK5.out.grown hg6 HK5.out.size (fun j hj => (Own.lt HO5.out j hj).1)); clear ho6 hg6))
            go_roundw
            case rel => exact ⟨k + 1, rest, P ++ varL N ++ varL ni ++ I, by go_num, HKb, R1b, ZR, HSb, HO6, Lib.hid (by rw [HL.out, layL, EN.out, ENI.out, EI.out]; simp only [List.append_assoc]; rfl), HK6.out⟩
            case measure => simp [intOf]; omega
          | false =>
            obtain ⟨N, eN⟩ : ∃ N, N = numI z true false := ⟨_, rfl⟩
            have hN : (N : Int) = 4 * z + 2 := by rw [eN]; unfold numI; simp; omega
            have hN2 : N ≤ 4003 := by rw [eN]; exact numI_le _ _ z1 z2
            have wN : IntKind.u64.wrap (4 * z + 2) = (N : Int) := by rw [← hN]; exact u64_wrapN (by unfold U64; omega)
            have EN := Lib.hid eN
            clear eN hN
            obtain ⟨w1, ew1⟩ : ∃ w1, w1 = wa := ⟨_, rfl⟩
            obtain ⟨I, eI⟩ : ∃ I, I = bs := ⟨_, rfl⟩
            have eni : m1 = I.length := by rw [eI]; exact G1.out.symm
            obtain ⟨Ai, eAi⟩ : ∃ Ai, Ai = At1 := ⟨_, rfl⟩
            have i3 : Rd w1 Ai (I.map bv) := by rw [ew1, eAi, eI]; exact G2.out.below HKA.out
            have hIl : m1 ≤ 4116 * 100000 := by rw [eni, eI]; have := hbs.out; omega
            have hsep : I.map bv ≠ [] → ∀ b off, Ai = some ⟨b, off, none⟩ → b < w1.heap.size ∧ ∀ j, u3.ownBlock = some j → j ≠ b := fun hne b off e => by
              rcases G2.out with h | ⟨b', off', e', hb', _⟩
              · exact absurd (by rw [eI]; exact h) hne
              · rw [eAi, e'] at e; injection e with e; injection e with e
                have := HKA.out.size
                refine ⟨by rw [ew1]; omega, fun j hj => ?_⟩
                have := (Own.lt HO.out j hj).1
                omega
            have hb1' : Below wr.heap.size wr w1 := by rw [ew1]; exact HBA.out
            have EI := Lib.hid eI
            have EW1 := Lib.hid ew1
            have EAI := Lib.hid eAi
            have ENI := Lib.hid eni
            clear eI ew1 eAi eni
            go_wp2_with (fail)
            rw [← EWA.out, ← EW1.out, ← EAI.out]
            refine (Var_c N w1 (by unfold U64; omega)).mono ?_
            rintro r w2 ⟨v2, rfl, ho2, hb2⟩
            obtain ⟨A2, c2, ev2, -, -, R2', -⟩ := OwnB.form ho2
            obtain ⟨n2, en2⟩ : ∃ n2, n2 = (varL N).length := ⟨_, rfl⟩
            have hn2 : n2 ≤ 10 := by rw [en2]; exact varL_10 (by omega)
            rw [← en2] at ev2
            subst ev2
            have R2 := Lib.hid R2'
            have EN2 := Lib.hid en2
            have HB2 := Lib.hid (hb1'.trans (hb2.mono hb1'.size))
            have HZ2 := Lib.hid hb2.size
            have HO2 := Lib.hid (Own.below HO.out HB2.out)
            have HK2 := Lib.hid (KB.out.trans (HB2.out.mono KB.out.size))
            have RI2 := Lib.hid (i3.below hb2)
            have SEP := Lib.hid hsep
            have hz2 : w.heap.size ≤ w2.heap.size := HK2.out.size
            have wni := u64_wrapN (n := m1) (by unfold U64; omega)
            clear ho2 hb2 R2' en2 i3 hsep
            go_wp2_with (at_builtin; refine wpList_appB _ rfl (.tmp 30) (.tmp 33) rfl w.heap.size _ P rfl HO2.out A2 n2 c2 (varL N) rfl EN2.out.symm R2.out (by have := hPl.out; omega) hz2 ?_; intro v3 w3 ho3 hg3 hv3; have HO3 := Lib.hid ho3; have HK3 := Lib.hid (HK2.out.grown hg3 HK2.out.size (fun j hj => (Own.lt HO2.out j hj).1)); have RI3 := Lib.hid (RI2.out.grownS hg3 (fun hne b off e ej => (SEP.out hne b off e).2 b ej rfl)); have HV3 : Hid (v3.ownBlock = u3.ownBlock ∨ v3.ownBlock = some w2.heap.size) := Lib.hid hv3; have HZ3 := Lib.hid hg3.size; clear ho3 hg3 hv3 hz2)
            refine (Var_c m1 w3 (by unfold U64; omega)).mono ?_
            rintro r w4 ⟨v4, rfl, ho4, hb4⟩
            obtain ⟨A4, c4, ev4, -, -, R4', -⟩ := OwnB.form ho4
            obtain ⟨n4, en4⟩ : ∃ n4, n4 = (varL m1).length := ⟨_, rfl⟩
            have hn4 : n4 ≤ 10 := by rw [en4]; exact varL_10 (by omega)
            rw [← en4] at ev4
            subst ev4
            have R4 := Lib.hid R4'
            have EN4 := Lib.hid en4
            have HO4 := Lib.hid (Own.below HO3.out hb4)
            have HK4 := Lib.hid (HK3.out.trans (hb4.mono HK3.out.size))
            have RI4 := Lib.hid (RI3.out.below hb4)
            have hz4 : w.heap.size ≤ w4.heap.size := HK4.out.size
            have hP3 : Hid ((P ++ varL N).length ≤ 4116 * 100000 + 10) := Lib.hid (by rw [List.length_append, ← EN2.out]; have := hPl.out; omega)
            clear ho4 hb4 R4' en4 wni
            go_wp2_with (first
              | (at_builtin; refine wpList_appB _ rfl (.tmp 34) (.tmp 38) rfl w.heap.size _ (P ++ varL N) rfl HO4.out A4 n4 c4 (varL m1) rfl EN4.out.symm R4.out (by have := hP3.out; omega) hz4 ?_; intro v5 w5 ho5 hg5 hv5; have HO5 := Lib.hid ho5; have HK5 := Lib.hid (HK4.out.grown hg5 HK4.out.size (fun j hj => (Own.lt HO4.out j hj).1)); have RI5 := Lib.hid (RI4.out.grownS hg5 (fun hne b off e ej => Or.elim HV3.out (fun q => (SEP.out hne b off e).2 b (q.symm.trans ej) rfl) (fun q => by (have ej' := Option.some.inj (q.symm.trans ej); have := (SEP.out hne b off e).1; have := HZ2.out; omega)))); have hz5 : w.heap.size ≤ w5.heap.size := HK5.out.size; have hP5 : Hid ((P ++ varL N ++ varL m1).length ≤ 4116 * 100000 + 20) := Lib.hid (by rw [List.length_append, ← EN4.out]; have := hP3.out; omega); clear ho5 hg5 hv5 hz4)
              | (at_builtin; refine wpList_appB _ rfl (.tmp 39) (.tmp 40) rfl w.heap.size _ (P ++ varL N ++ varL m1) rfl HO5.out Ai m1 cm1 I rfl ENI.out.symm RI5.out (by have := hP5.out; omega) hz5 ?_; intro v6 w6 ho6 hg6 _; have HO6 := Lib.hid ho6; have HK6 := Lib.hid (HK5.out.grown hg6 HK5.out.size (fun j hj => (Own.lt HO5.out j hj).1)); clear ho6 hg6))
            go_roundw
            case rel => exact ⟨k + 1, rest, P ++ varL N ++ varL m1 ++ I, by go_num, HKb, R1b, ZR, HSb, HO6, Lib.hid (by rw [HL.out, layL, EN.out, ENI.out, EI.out]; simp only [List.append_assoc]; rfl), HK6.out⟩
            case measure => simp [intOf]; omega
        | false =>
          cases li with
          | true =>
            obtain ⟨N, eN⟩ : ∃ N, N = numI z false true := ⟨_, rfl⟩
            have hN : (N : Int) = 4 * z + 1 := by rw [eN]; unfold numI; simp; omega
            have hN2 : N ≤ 4003 := by rw [eN]; exact numI_le _ _ z1 z2
            have wN : IntKind.u64.wrap (4 * z + 1) = (N : Int) := by rw [← hN]; exact u64_wrapN (by unfold U64; omega)
            have EN := Lib.hid eN
            clear eN hN
            go_wp2_with (fail)
            rw [← EWA.out]
            refine (IH.out sub.size HSs.out.1 sub rfl ZS.out HSs.out.2 ok As1 sl e1 wa ESL.out.symm (S1.out.below HKA.out) l3).mono ?_
            rintro r w1 ⟨vi, rfl, hoi, hbi⟩
            obtain ⟨Ai, ci, evi, i1, i2, i3, i4⟩ := OwnB.form hoi
            obtain ⟨I, eI⟩ : ∃ I, I = layL sub := ⟨_, rfl⟩
            have hIl : I.length ≤ 4116 * 100000 := by rw [eI]; have := layL_le sub ZS.out HSs.out.2; have := HSs.out.2; omega
            rw [← eI] at evi i1 i3
            obtain ⟨ni, eni⟩ : ∃ ni, ni = I.length := ⟨_, rfl⟩
            rw [← eni] at evi hIl
            subst evi
            have hsep : I.map bv ≠ [] → ∀ b off, Ai = some ⟨b, off, none⟩ → b < w1.heap.size ∧ ∀ j, u3.ownBlock = some j → j ≠ b := fun _ b off e => by
              have q := i4 _ e
              refine ⟨q.2.1, fun j hj => ?_⟩
              have := (Own.lt HO.out j hj).2
              have := HBA.out.size
              have : wa.heap.size ≤ b := q.1
              omega
            have hb1' : Below wr.heap.size wr w1 := HBA.out.trans (hbi.mono HBA.out.size)
            have EI := Lib.hid eI
            have ENI := Lib.hid eni
            clear hoi hbi eI i1 i2 i4 eni
            go_wp2_with (fail)
            refine (Var_c N w1 (by unfold U64; omega)).mono ?_
            rintro r w2 ⟨v2, rfl, ho2, hb2⟩
            obtain ⟨A2, c2, ev2, -, -, R2', -⟩ := OwnB.form ho2
            obtain ⟨n2, en2⟩ : ∃ n2, n2 = (varL N).length := ⟨_, rfl⟩
            have hn2 : n2 ≤ 10 := by rw [en2]; exact varL_10 (by omega)
            rw [← en2] at ev2
            subst ev2
            have R2 := Lib.hid R2'
            have EN2 := Lib.hid en2
            have HB2 := Lib.hid (hb1'.trans (hb2.mono hb1'.size))
            have HZ2 := Lib.hid hb2.size
            have HO2 := Lib.hid (Own.below HO.out HB2.out)
            have HK2 := Lib.hid (KB.out.trans (HB2.out.mono KB.out.size))
            have RI2 := Lib.hid (i3.below hb2)
            have SEP := Lib.hid hsep
            have hz2 : w.heap.size ≤ w2.heap.size := HK2.out.size
            have wni := u64_wrapN (n := ni) (by unfold U64; omega)
            clear ho2 hb2 R2' en2 i3 hsep
            go_wp2_with (at_builtin; refine wpList_appB _ rfl (.tmp 30) (.tmp 33) rfl w.heap.size _ P rfl HO2.out A2 n2 c2 (varL N) rfl EN2.out.symm R2.out (by have := hPl.out; omega) hz2 ?_; intro v3 w3 ho3 hg3 hv3; have HO3 := Lib.hid ho3; have HK3 := Lib.hid (HK2.out.grown hg3 HK2.out.size (fun j hj => (Own.lt HO2.out j hj).1)); have RI3 := Lib.hid (RI2.out.grownS hg3 (fun hne b off e ej => (SEP.out hne b off e).2 b ej rfl)); have HV3 : Hid (v3.ownBlock = u3.ownBlock ∨ v3.ownBlock = some w2.heap.size) := Lib.hid hv3; have HZ3 := Lib.hid hg3.size; clear ho3 hg3 hv3 hz2)
            refine (Var_c ni w3 (by unfold U64; omega)).mono ?_
            rintro r w4 ⟨v4, rfl, ho4, hb4⟩
            obtain ⟨A4, c4, ev4, -, -, R4', -⟩ := OwnB.form ho4
            obtain ⟨n4, en4⟩ : ∃ n4, n4 = (varL ni).length := ⟨_, rfl⟩
            have hn4 : n4 ≤ 10 := by rw [en4]; exact varL_10 (by omega)
            rw [← en4] at ev4
            subst ev4
            have R4 := Lib.hid R4'
            have EN4 := Lib.hid en4
            have HO4 := Lib.hid (Own.below HO3.out hb4)
            have HK4 := Lib.hid (HK3.out.trans (hb4.mono HK3.out.size))
            have RI4 := Lib.hid (RI3.out.below hb4)
            have hz4 : w.heap.size ≤ w4.heap.size := HK4.out.size
            have hP3 : Hid ((P ++ varL N).length ≤ 4116 * 100000 + 10) := Lib.hid (by rw [List.length_append, ← EN2.out]; have := hPl.out; omega)
            clear ho4 hb4 R4' en4 wni
            go_wp2_with (first
              | (at_builtin; refine wpList_appB _ rfl (.tmp 34) (.tmp 38) rfl w.heap.size _ (P ++ varL N) rfl HO4.out A4 n4 c4 (varL ni) rfl EN4.out.symm R4.out (by have := hP3.out; omega) hz4 ?_; intro v5 w5 ho5 hg5 hv5; have HO5 := Lib.hid ho5; have HK5 := Lib.hid (HK4.out.grown hg5 HK4.out.size (fun j hj => (Own.lt HO4.out j hj).1)); have RI5 := Lib.hid (RI4.out.grownS hg5 (fun hne b off e ej => Or.elim HV3.out (fun q => (SEP.out hne b off e).2 b (q.symm.trans ej) rfl) (fun q => by (have ej' := Option.some.inj (q.symm.trans ej); have := (SEP.out hne b off e).1; have := HZ2.out; omega)))); have hz5 : w.heap.size ≤ w5.heap.size := HK5.out.size; have hP5 : Hid ((P ++ varL N ++ varL ni).length ≤ 4116 * 100000 + 20) := Lib.hid (by rw [List.length_append, ← EN4.out]; have := hP3.out; omega); clear ho5 hg5 hv5 hz4)
              | (at_builtin; refine wpList_appB _ rfl (.tmp 39) (.tmp 40) rfl w.heap.size _ (P ++ varL N ++ varL ni) rfl HO5.out Ai ni ci I rfl ENI.out.symm RI5.out (by have := hP5.out; omega) hz5 ?_; intro v6 w6 ho6 hg6 _; have HO6 := Lib.hid ho6; have HK6 := Lib.hid (HK5.out.grown hg6 HK5.out.size (fun j hj => (Own.lt HO5.out j hj).1)); clear ho6 hg6))
            go_roundw
            case rel => exact ⟨k + 1, rest, P ++ varL N ++ varL ni ++ I, by go_num, HKb, R1b, ZR, HSb, HO6, Lib.hid (by rw [HL.out, layL, EN.out, ENI.out, EI.out]; simp only [List.append_assoc]; rfl), HK6.out⟩
            case measure => simp [intOf]; omega
          | false =>
            obtain ⟨N, eN⟩ : ∃ N, N = numI z false false := ⟨_, rfl⟩
            have hN : (N : Int) = 4 * z := by rw [eN]; unfold numI; simp; omega
            have hN2 : N ≤ 4003 := by rw [eN]; exact numI_le _ _ z1 z2
            have wN : IntKind.u64.wrap (4 * z) = (N : Int) := by rw [← hN]; exact u64_wrapN (by unfold U64; omega)
            have EN := Lib.hid eN
            clear eN hN
            obtain ⟨w1, ew1⟩ : ∃ w1, w1 = wa := ⟨_, rfl⟩
            obtain ⟨I, eI⟩ : ∃ I, I = bs := ⟨_, rfl⟩
            have eni : m1 = I.length := by rw [eI]; exact G1.out.symm
            obtain ⟨Ai, eAi⟩ : ∃ Ai, Ai = At1 := ⟨_, rfl⟩
            have i3 : Rd w1 Ai (I.map bv) := by rw [ew1, eAi, eI]; exact G2.out.below HKA.out
            have hIl : m1 ≤ 4116 * 100000 := by rw [eni, eI]; have := hbs.out; omega
            have hsep : I.map bv ≠ [] → ∀ b off, Ai = some ⟨b, off, none⟩ → b < w1.heap.size ∧ ∀ j, u3.ownBlock = some j → j ≠ b := fun hne b off e => by
              rcases G2.out with h | ⟨b', off', e', hb', _⟩
              · exact absurd (by rw [eI]; exact h) hne
              · rw [eAi, e'] at e; injection e with e; injection e with e
                have := HKA.out.size
                refine ⟨by rw [ew1]; omega, fun j hj => ?_⟩
                have := (Own.lt HO.out j hj).1
                omega
            have hb1' : Below wr.heap.size wr w1 := by rw [ew1]; exact HBA.out
            have EI := Lib.hid eI
            have EW1 := Lib.hid ew1
            have EAI := Lib.hid eAi
            have ENI := Lib.hid eni
            clear eI ew1 eAi eni
            go_wp2_with (fail)
            rw [← EWA.out, ← EW1.out, ← EAI.out]
            refine (Var_c N w1 (by unfold U64; omega)).mono ?_
            rintro r w2 ⟨v2, rfl, ho2, hb2⟩
            obtain ⟨A2, c2, ev2, -, -, R2', -⟩ := OwnB.form ho2
            obtain ⟨n2, en2⟩ : ∃ n2, n2 = (varL N).length := ⟨_, rfl⟩
            have hn2 : n2 ≤ 10 := by rw [en2]; exact varL_10 (by omega)
            rw [← en2] at ev2
            subst ev2
            have R2 := Lib.hid R2'
            have EN2 := Lib.hid en2
            have HB2 := Lib.hid (hb1'.trans (hb2.mono hb1'.size))
            have HZ2 := Lib.hid hb2.size
            have HO2 := Lib.hid (Own.below HO.out HB2.out)
            have HK2 := Lib.hid (KB.out.trans (HB2.out.mono KB.out.size))
            have RI2 := Lib.hid (i3.below hb2)
            have SEP := Lib.hid hsep
            have hz2 : w.heap.size ≤ w2.heap.size := HK2.out.size
            have wni := u64_wrapN (n := m1) (by unfold U64; omega)
            clear ho2 hb2 R2' en2 i3 hsep
            go_wp2_with (at_builtin; refine wpList_appB _ rfl (.tmp 30) (.tmp 33) rfl w.heap.size _ P rfl HO2.out A2 n2 c2 (varL N) rfl EN2.out.symm R2.out (by have := hPl.out; omega) hz2 ?_; intro v3 w3 ho3 hg3 hv3; have HO3 := Lib.hid ho3; have HK3 := Lib.hid (HK2.out.grown hg3 HK2.out.size (fun j hj => (Own.lt HO2.out j hj).1)); have RI3 := Lib.hid (RI2.out.grownS hg3 (fun hne b off e ej => (SEP.out hne b off e).2 b ej rfl)); have HV3 : Hid (v3.ownBlock = u3.ownBlock ∨ v3.ownBlock = some w2.heap.size) := Lib.hid hv3; have HZ3 := Lib.hid hg3.size; clear ho3 hg3 hv3 hz2)
            refine (Var_c m1 w3 (by unfold U64; omega)).mono ?_
            rintro r w4 ⟨v4, rfl, ho4, hb4⟩
            obtain ⟨A4, c4, ev4, -, -, R4', -⟩ := OwnB.form ho4
            obtain ⟨n4, en4⟩ : ∃ n4, n4 = (varL m1).length := ⟨_, rfl⟩
            have hn4 : n4 ≤ 10 := by rw [en4]; exact varL_10 (by omega)
            rw [← en4] at ev4
            subst ev4
            have R4 := Lib.hid R4'
            have EN4 := Lib.hid en4
            have HO4 := Lib.hid (Own.below HO3.out hb4)
            have HK4 := Lib.hid (HK3.out.trans (hb4.mono HK3.out.size))
            have RI4 := Lib.hid (RI3.out.below hb4)
            have hz4 : w.heap.size ≤ w4.heap.size := HK4.out.size
            have hP3 : Hid ((P ++ varL N).length ≤ 4116 * 100000 + 10) := Lib.hid (by rw [List.length_append, ← EN2.out]; have := hPl.out; omega)
            clear ho4 hb4 R4' en4 wni
            go_wp2_with (first
              | (at_builtin; refine wpList_appB _ rfl (.tmp 34) (.tmp 38) rfl w.heap.size _ (P ++ varL N) rfl HO4.out A4 n4 c4 (varL m1) rfl EN4.out.symm R4.out (by have := hP3.out; omega) hz4 ?_; intro v5 w5 ho5 hg5 hv5; have HO5 := Lib.hid ho5; have HK5 := Lib.hid (HK4.out.grown hg5 HK4.out.size (fun j hj => (Own.lt HO4.out j hj).1)); have RI5 := Lib.hid (RI4.out.grownS hg5 (fun hne b off e ej => Or.elim HV3.out (fun q => (SEP.out hne b off e).2 b (q.symm.trans ej) rfl) (fun q => by (have ej' := Option.some.inj (q.symm.trans ej); have := (SEP.out hne b off e).1; have := HZ2.out; omega)))); have hz5 : w.heap.size ≤ w5.heap.size := HK5.out.size; have hP5 : Hid ((P ++ varL N ++ varL m1).length ≤ 4116 * 100000 + 20) := Lib.hid (by rw [List.length_append, ← EN4.out]; have := hP3.out; omega); clear ho5 hg5 hv5 hz4)
              | (at_builtin; refine wpList_appB _ rfl (.tmp 39) (.tmp 40) rfl w.heap.size _ (P ++ varL N ++ varL m1) rfl HO5.out Ai m1 cm1 I rfl ENI.out.symm RI5.out (by have := hP5.out; omega) hz5 ?_; intro v6 w6 ho6 hg6 _; have HO6 := Lib.hid ho6; have HK6 := Lib.hid (HK5.out.grown hg6 HK5.out.size (fun j hj => (Own.lt HO5.out j hj).1)); clear ho6 hg6))
            go_roundw
            case rel => exact ⟨k + 1, rest, P ++ varL N ++ varL m1 ++ I, by go_num, HKb, R1b, ZR, HSb, HO6, Lib.hid (by rw [HL.out, layL, EN.out, ENI.out, EI.out]; simp only [List.append_assoc]; rfl), HK6.out⟩
            case measure => simp [intOf]; omega
end Go.Proofs.Ytcffinkkfdfcaaa

/- What the reference's row answers. Conditions: depth 1 to 5; from -1 to 400 wanted. -/
namespace Go.Proofs.Ytcffinkkfdfcaaa
open Go Go.RowKit
theorem rd_en (w : World) (x : EnV) (t : TypeId) : Rd (w.alloc (.cells #[.int .i64 x.k, .bool x.cr, .bool x.li, .slice x.A x.nb x.cb, .slice x.As x.ns x.cs, .int .i64 x.d, .int .i64 x.ah] t)) (some ⟨w.heap.size, 0, none⟩) (cellsE [x]) := by
  refine .inr ⟨w.heap.size, 0, rfl, by simp, fun j hj => ?_⟩
  rw [cell_of_row _ _ _ _ _ (0, 0) (heap_alloc_new w _)]
  rw [cellsE_length] at hj
  simp only [List.length_singleton] at hj
  have e : cellsE [x] = x.cells := by simp [cellsE]
  simp only [e, Nat.zero_add]
  have : j < 7 := by omega
  match j, this with
  | 0, _ => rfl
  | 1, _ => rfl
  | 2, _ => rfl
  | 3, _ => rfl
  | 4, _ => rfl
  | 5, _ => rfl
  | 6, _ => rfl
set_option maxRecDepth 100000 in
set_option maxHeartbeats 4000000 in
theorem row_c : ∀ (M : Nat) (f : Fo), f.size = M → ∀ (d m : Int), 1 ≤ d → d ≤ 5 → -1 ≤ m → m ≤ 400 → ∀ (ok : Nat → Prop) (A : Option Addr) (n c : Nat) (w : World), f.len = n → FoR ok w A 0 f → n ≤ 2199023255488 →
    Calls Try.prog 58 #[.slice A n c, .int .i64 d, .int .i64 m] w fun r w' => ∃ v ds, r = .returned v ∧ OwnE w' w.heap.size v ds ∧ ds.map EnV.en = rowR f d m ∧ Below w.heap.size w w' := by
  intro M
  induction M using Nat.strongRecOn with
  | _ M ih =>
    intro f hM d m hd1 hd5 hm1 hm4 ok A n c w hn h1 hl
    have IH := Lib.hid ih; clear ih
    have HN := Lib.hid hn; clear hn
    have H1 := Lib.hid h1; clear h1
    have HM := Lib.hid hM; clear hM
    go_enter Try.func58, Try.ntmps58
    go_wp2_with (fail)
    go_loopw [7, 8, 9] (fun v a i wr => ∃ (k : Nat) (r : Fo) (P : List En) (ds : List EnV) (ah : Int), a = .int .i64 ah ∧ i = .int .i64 k ∧ Hid (k + r.len = n) ∧ Hid (FoR ok w A k r) ∧ Hid (r.size ≤ f.size) ∧ Hid (OwnE wr w.heap.size v ds) ∧ Hid (ds.map EnV.en = P.take (m + 1).toNat) ∧ Hid (fullR f d 0 = P ++ fullR r d ah) ∧ Below w.heap.size w wr) (fun _ _ i _ => n - (intOf i).toNat)
    case atStart => exact ⟨0, f, [], [], 0, rfl, rfl, Lib.hid (by rw [HN.out]; omega), H1, Lib.hid (Nat.le_refl _), Lib.hid (World.ownsRow_made w #[] 0 (Nat.le_refl _) (Nat.zero_le _) rfl), Lib.hid (by rw [List.take_nil]; rfl), Lib.hid rfl, (Below.refl _ _).alloc (Nat.le_refl _) _⟩
    case round =>
      obtain ⟨k, r, P, ds, ah, rfl, rfl, HK, R1, HS, HO, HT, HF, kb⟩ := hrel
      cases r with
      | nil =>
        have hk : k = n := HK.out
        have hk' : (n : Int) ≤ (k : Int) := by omega
        clear hk
        go_wp2_with (fail)
        go_ret
        exact ⟨_, ds, rfl, HO.out, by rw [HT.out, rowR, HF.out, fullR, List.append_nil], kb⟩
      | cons z cr li bs sub rest =>
        obtain ⟨⟨b1, o1, At1, m1, cm1, As1, e1, rfl, hb1, -, ⟨x0, x1, x2, x3, x4⟩, t1, s1, l1, l2, l3⟩, r1⟩ := R1.out.one
        have X0 := Lib.hid x0
        have X4 := Lib.hid x4
        have HB1 := Lib.hid hb1
        have S1 := Lib.hid s1
        clear s1
        rw [← kb.cell (p := ⟨b1, _, none⟩) hb1] at x0 x1 x2 x3 x4
        have hkn : k < n := by have := HK.out; simp only [Fo.len] at this; omega
        have hlt' : (k : Int) < (n : Int) := by omega
        obtain ⟨Av, cv, ev, f1, f2, f3, f4, f5⟩ := OwnE.form HO.out
        obtain ⟨L, eL⟩ : ∃ L, L = ds.length := ⟨_, rfl⟩
        rw [← eL] at ev f1
        have hL4 : L ≤ 401 := by
          have h2 := congrArg List.length HT.out
          rw [List.length_map, List.length_take] at h2
          omega
        subst ev
        have EL := Lib.hid eL
        clear eL f2 f3 f5
        by_cases hLm : (L : Int) ≤ m
        · have HOa := Lib.hid (HO.out.below ((Below.refl wr.heap.size wr).alloc (Nat.le_refl _) (.cells #[.int .i64 z, .bool cr, .bool li, .slice At1 m1 cm1, .slice As1 sub.len e1, .int .i64 d, .int .i64 ah] 113)))
          have HKa := Lib.hid (kb.alloc kb.size (.cells #[.int .i64 z, .bool cr, .bool li, .slice At1 m1 cm1, .slice As1 sub.len e1, .int .i64 d, .int .i64 ah] 113))
          have hza := HKa.out.size
          have KB := Lib.hid kb
          by_cases h5 : d < 5
          · go_wp2_with (at_builtin; refine wpList_appEL _ rfl (.tmp 23) (.tmp 31) rfl w _ ds L rfl HOa.out EL.out.symm _ 1 1 [⟨z, cr, li, At1, m1, cm1, As1, sub.len, e1, d, ah⟩] rfl rfl (rd_en wr ⟨z, cr, li, At1, m1, cm1, As1, sub.len, e1, d, ah⟩ _) (by omega) HKa.out ?_; intro A3 c3 w3 ho3 hc3 hc4 hk3; have HO3 := Lib.hid ho3; have HK3 := Lib.hid hk3; have y0 : w3.cell? ⟨b1, o1 + k * 5, none⟩ = some (.int .i64 z) := (HK3.out.cell (p := ⟨b1, _, none⟩) HB1.out).trans X0.out; have y4 : w3.cell? ⟨b1, o1 + k * 5 + 4, none⟩ = some (.slice As1 sub.len e1) := (HK3.out.cell (p := ⟨b1, _, none⟩) HB1.out).trans X4.out; clear ho3 hk3 hza)
            have HSs : Hid (sub.size < M) := Lib.hid (by have a := HS.out; have b := HM.out; simp only [Fo.size] at a; omega)
            have q1 : 1 ≤ d + 1 := by clear f4 HO3 y0 y4 l2 hc4; omega
            have q2 : d + 1 ≤ 5 := by omega
            have q3 : -1 ≤ m - ((L : Int) + 1) := by omega
            have q4 : m - ((L : Int) + 1) ≤ 400 := by omega
            have q5 := IH.out sub.size HSs.out sub rfl (d + 1) (m - ((L : Int) + 1)) q1 q2 q3 q4
            have q6 := q5 ok As1 sub.len e1 w3 rfl (S1.out.below HK3.out) l3
            refine Calls.mono q6 ?_
            rintro _ w4 ⟨v4, ds4, rfl, ho4, ht4, hk4⟩
            obtain ⟨L4, eL4⟩ : ∃ L4, ds4.length = L4 := ⟨_, rfl⟩
            have h44 : L4 ≤ 402 := by
              have h2 := congrArg List.length ht4
              rw [List.length_map, rowR, List.length_take] at h2
              omega
            obtain ⟨A4, c4, rfl, h45, h46, R4⟩ := ho4.formL eL4
            have HT4 := Lib.hid ht4
            have HO4 := Lib.hid (HO3.out.below hk4)
            have HK4 := Lib.hid (HK3.out.trans (hk4.mono HK3.out.size))
            have EL4 := Lib.hid eL4
            have RD4 := Lib.hid R4
            have EL3 : Hid ((ds ++ [(⟨z, cr, li, At1, m1, cm1, As1, sub.len, e1, d, ah⟩ : EnV)]).length = L + 1) := Lib.hid (by rw [List.length_append, List.length_singleton, ← EL.out])
            clear ho4 ht4 hk4 eL4 R4
            go_wp2_with (at_builtin; refine wpList_appEL _ rfl (.tmp 40) (.tmp 52) rfl w _ _ (L + 1) rfl HO4.out EL3.out _ L4 c4 ds4 rfl EL4.out RD4.out (by omega) HK4.out ?_; intro A5 c5 w5 ho5 hc5 hc6 hk5; have HO5 := Lib.hid ho5; have HK5 := Lib.hid hk5; clear ho5 hk5)
            refine ⟨⟨k + 1, rest, P ++ (⟨z, cr, li, bs.length, sub.len, d, ah⟩ :: fullR sub (d + 1) 0), _, z, rfl, by rw [Int.natCast_add]; rfl, Lib.hid (by have := HK.out; simp only [Fo.len] at this; omega), Lib.hid r1, Lib.hid (by have := HS.out; simp only [Fo.size] at this; omega), HO5, Lib.hid ?_, Lib.hid ?_, HK5.out⟩, ?_⟩
            · have e := take_round (S := fullR sub (d + 1) 0) (T := fullR rest d z) (x := ⟨z, cr, li, bs.length, sub.len, d, ah⟩) HT.out (by rw [List.length_map, ← EL.out]; exact hLm)
              rw [← e.1, List.map_append, List.map_append, HT4.out, rowR]
              have e2 : ((List.map EnV.en ds ++ [(⟨z, cr, li, bs.length, sub.len, d, ah⟩ : En)]).length : Int) = (L : Int) + 1 := by rw [List.length_append, List.length_map, List.length_singleton, ← EL.out]; rfl
              rw [e2]
              rw [t1.1]; rfl
            · rw [HF.out, fullR, if_pos h5]; simp
            · show n - ((k : Int) + 1).toNat < n - (k : Int).toNat
              omega
          · have h5' : 5 ≤ d := by omega
            go_wp2_with (at_builtin; refine wpList_appEL _ rfl (.tmp 23) (.tmp 31) rfl w _ ds L rfl HOa.out EL.out.symm _ 1 1 [⟨z, cr, li, At1, m1, cm1, As1, sub.len, e1, d, ah⟩] rfl rfl (rd_en wr ⟨z, cr, li, At1, m1, cm1, As1, sub.len, e1, d, ah⟩ _) (by omega) HKa.out ?_; intro A3 c3 w3 ho3 hc3 hc4 hk3; have HO3 := Lib.hid ho3; have HK3 := Lib.hid hk3; have y0 : w3.cell? ⟨b1, o1 + k * 5, none⟩ = some (.int .i64 z) := (HK3.out.cell (p := ⟨b1, _, none⟩) HB1.out).trans X0.out; have y4 : w3.cell? ⟨b1, o1 + k * 5 + 4, none⟩ = some (.slice As1 sub.len e1) := (HK3.out.cell (p := ⟨b1, _, none⟩) HB1.out).trans X4.out; clear ho3 hk3 hza)
            refine ⟨⟨k + 1, rest, P ++ [⟨z, cr, li, bs.length, sub.len, d, ah⟩], _, z, rfl, by rw [Int.natCast_add]; rfl, Lib.hid (by have := HK.out; simp only [Fo.len] at this; omega), Lib.hid r1, Lib.hid (by have := HS.out; simp only [Fo.size] at this; omega), HO3, Lib.hid ?_, Lib.hid ?_, HK3.out⟩, ?_⟩
            · rw [← take_one HT.out (by rw [List.length_map, ← EL.out]; exact hLm), List.map_append]
              rw [t1.1]; rfl
            · rw [HF.out, fullR, if_neg h5]; simp
            · show n - ((k : Int) + 1).toNat < n - (k : Int).toNat
              omega
        · have hLm' : m < (L : Int) := by omega
          go_wp2_with (fail)
          go_ret
          exact ⟨_, rfl, ds, HO.out, by rw [HT.out, rowR, HF.out]; exact take_done rfl (by have e1 := EL.out; have := congrArg List.length HT.out; rw [List.length_map] at this; omega), kb⟩
end Go.Proofs.Ytcffinkkfdfcaaa

/- What the reference's Small answers: true only of few items whose bytes are few. Conditions: items that can be read. -/
namespace Go.Proofs.Ytcffinkkfdfcaaa
open Go Go.RowKit

theorem RdE_at {w : World} {A : Option Addr} {ds : List EnV} (h : Rd w A (cellsE ds)) (i : Nat) (hi : i < ds.length) : ∃ b off, A = some ⟨b, off, none⟩ ∧ b < w.heap.size ∧
    w.cell? ⟨b, off + i * 7, none⟩ = some (.int .i64 ds[i].k) ∧ w.cell? ⟨b, off + i * 7 + 1, none⟩ = some (.bool ds[i].cr) ∧ w.cell? ⟨b, off + i * 7 + 2, none⟩ = some (.bool ds[i].li) ∧
    w.cell? ⟨b, off + i * 7 + 3, none⟩ = some (.slice ds[i].A ds[i].nb ds[i].cb) ∧ w.cell? ⟨b, off + i * 7 + 4, none⟩ = some (.slice ds[i].As ds[i].ns ds[i].cs) ∧
    w.cell? ⟨b, off + i * 7 + 5, none⟩ = some (.int .i64 ds[i].d) ∧ w.cell? ⟨b, off + i * 7 + 6, none⟩ = some (.int .i64 ds[i].ah) := by
  rcases h with h | ⟨b, off, rfl, hb, h⟩
  · have := congrArg List.length h
    rw [cellsE_length] at this
    simp at this
    omega
  · have q : ∀ j, j < 7 → w.cell? ⟨b, off + i * 7 + j, none⟩ = (ds[i].cells)[j]? := fun j hj => by
      have hl : i * 7 + j < (cellsE ds).length := by rw [cellsE_length]; omega
      rw [Nat.add_assoc, h _ hl, ← List.getElem?_eq_getElem hl, cellsE_get ds i hi j hj]
    exact ⟨b, off, rfl, hb, (q 0 (by omega)).trans rfl, (q 1 (by omega)).trans rfl, (q 2 (by omega)).trans rfl, (q 3 (by omega)).trans rfl, (q 4 (by omega)).trans rfl, (q 5 (by omega)).trans rfl, (q 6 (by omega)).trans rfl⟩
theorem full_bounds {ok : Nat → Prop} {w : World} : ∀ (f : Fo) (A : Option Addr) (i : Nat) (d ah : Int), FoR ok w A i f → ∀ e ∈ fullR f d ah, e.nb ≤ 140737488355328 ∧ e.ns ≤ 2199023255488
  | .nil, _, _, _, _, _, e, he => by simp [fullR] at he
  | .cons k cr li bs sub rest, A, i, d, ah, h, e, he => by
    obtain ⟨⟨b1, o1, At1, m1, cm1, As1, e1, -, -, -, -, t1, s1, -, -, l3⟩, r1⟩ := h
    rw [fullR, List.mem_cons, List.mem_append] at he
    rcases he with rfl | he | he
    · exact ⟨by have := t1.2.2.2.2.2; rw [← t1.1] at this; exact this, l3⟩
    · by_cases h5 : d < 5
      · rw [if_pos h5] at he; exact full_bounds sub _ _ _ _ s1 e he
      · rw [if_neg h5] at he; simp at he
    · exact full_bounds rest _ _ _ _ r1 e he
/-- Bytes that fit, all told. -/
def Fo.fits : Fo → Prop
  | .nil => True
  | .cons _ _ _ bs sub rest => bs.length ≤ 131072 ∧ sub.fits ∧ rest.fits
theorem Fo.len0 {f : Fo} (h : f.len = 0) : f = .nil := by
  cases f with
  | nil => rfl
  | cons => simp [Fo.len] at h
theorem small_of : ∀ (f : Fo) (d ah : Int), d ≤ 5 → (∀ e ∈ fullR f d ah, e.nb ≤ 131072 ∧ (e.d = 5 → e.ns = 0)) → (fullR f d ah).length = f.size ∧ f.fits
  | .nil, _, _, _, _ => ⟨rfl, trivial⟩
  | .cons k cr li bs sub rest, d, ah, hd, h => by
    have h0 := h ⟨k, cr, li, bs.length, sub.len, d, ah⟩ (by rw [fullR]; exact .head _)
    have hr := small_of rest d k hd (fun e he => h e (by rw [fullR]; exact List.mem_cons_of_mem _ (List.mem_append.2 (.inr he))))
    by_cases h5 : d < 5
    · have hs := small_of sub (d + 1) 0 (by omega) (fun e he => h e (by rw [fullR, if_pos h5]; exact List.mem_cons_of_mem _ (List.mem_append.2 (.inl he))))
      exact ⟨by rw [fullR, if_pos h5, List.length_cons, List.length_append, hs.1, hr.1, Fo.size], h0.1, hs.2, hr.2⟩
    · have hd5 : d = 5 := by omega
      obtain rfl : sub = .nil := Fo.len0 (h0.2 hd5)
      exact ⟨by rw [fullR, if_neg h5, List.length_cons, List.length_append, hr.1]; simp [Fo.size], h0.1, trivial, hr.2⟩
/-- Few items, few bytes. -/
def SmallF (f : Fo) : Prop := f.size ≤ 400 ∧ f.fits
theorem small_row {f : Fo} {ds : List EnV} (h : ds.map EnV.en = rowR f 1 400) (h1 : ds.length ≤ 400) (h2 : ∀ (j : Nat) (hj : j < ds.length), ds[j].nb ≤ 131072 ∧ (ds[j].d = 5 → ds[j].ns = 0)) : SmallF f := by
  have hl := congrArg List.length h
  rw [List.length_map, rowR, List.length_take] at hl
  have e : rowR f 1 400 = fullR f 1 0 := by
    rw [rowR]
    refine List.take_of_length_le ?_
    have : ((400 : Int) + 1).toNat = 401 := rfl
    omega
  rw [e] at h
  have q := small_of f 1 0 (by omega) (fun x hx => by
    rw [← h] at hx
    obtain ⟨d, hd, rfl⟩ := List.mem_map.1 hx
    obtain ⟨j, hj, rfl⟩ := List.getElem_of_mem hd
    exact h2 j hj)
  refine ⟨?_, q.2⟩
  rw [← q.1, ← h, List.length_map]
  exact h1
set_option maxRecDepth 100000 in
set_option maxHeartbeats 4000000 in
theorem Small_c (f : Fo) (ok : Nat → Prop) (A : Option Addr) (n c : Nat) (w : World) (hn : f.len = n) (h1 : FoR ok w A 0 f) (hl : n ≤ 2199023255488) :
    Calls Try.prog 29 #[.slice A n c] w fun r w' => ∃ b, r = .returned (.bool b) ∧ (b = true → SmallF f) ∧ Below w.heap.size w w' := by
  have HN := Lib.hid hn; clear hn
  have H1 := Lib.hid h1; clear h1
  go_enter Try.func29, Try.ntmps29
  go_wp2_with (fail)
  refine Calls.mono (row_c f.size f rfl 1 400 (by omega) (by omega) (by omega) (by omega) ok A n c w HN.out H1.out hl) ?_
  rintro _ w1 ⟨v, ds, rfl, ho, hm, hk⟩
  obtain ⟨L, eL⟩ : ∃ L, ds.length = L := ⟨_, rfl⟩
  obtain ⟨Av, cv, rfl, f1, f2, f3⟩ := ho.formL eL
  have hb : ∀ (j : Nat) (hj : j < ds.length), ds[j].nb ≤ 140737488355328 ∧ ds[j].ns ≤ 2199023255488 := fun j hj =>
    full_bounds f A 0 1 0 H1.out _ (List.mem_of_mem_take (by rw [rowR] at hm; rw [← hm]; exact List.mem_map.2 ⟨_, List.getElem_mem hj, rfl⟩))
  have hL4 : L ≤ 401 := by
    have h2 := congrArg List.length hm
    rw [List.length_map, rowR, List.length_take, eL] at h2
    have : ((400 : Int) + 1).toNat = 401 := rfl
    omega
  have HM := Lib.hid hm
  have HB := Lib.hid hb
  have EL := Lib.hid eL
  have RD := Lib.hid f3
  have HK := Lib.hid hk
  have hz1 := Lib.hid hk.size
  clear ho hm hb eL f2 f3 hk
  go_wp2_with (fail)
  go_loopw [4, 5] (fun s i wr => ∃ (k t : Nat), s = .int .i64 t ∧ i = .int .i64 k ∧ k ≤ L ∧ t ≤ 131072 ∧ Hid (∀ (j : Nat) (hj : j < ds.length), j < k → ds[j].nb ≤ 131072 ∧ (ds[j].d = 5 → ds[j].ns = 0)) ∧ Below w1.heap.size w1 wr) (fun _ i _ => L - (intOf i).toNat)
  case atStart => exact ⟨0, 0, rfl, rfl, Nat.zero_le _, Nat.zero_le _, Lib.hid (fun j hj h0 => absurd h0 (Nat.not_lt_zero _)), Below.refl _ _⟩
  case round =>
    obtain ⟨k, t, rfl, rfl, hkL, ht, HP, kb⟩ := hrel
    by_cases hkl : k < L
    · obtain ⟨b1, o1, rfl, hb1, x0, x1, x2, x3, x4, x5, x6⟩ := RdE_at RD.out k (by rw [EL.out]; exact hkl)
      rw [← kb.cell (p := ⟨b1, _, none⟩) hb1] at x3 x4 x5
      obtain ⟨p1, p2⟩ := HB.out k (by rw [EL.out]; exact hkl)
      clear x0 x1 x2 x6
      obtain ⟨nb, enb⟩ : ∃ nb, nb = (ds[k]'(by rw [EL.out]; exact hkl)).nb := ⟨_, rfl⟩
      obtain ⟨ns, ens⟩ : ∃ ns, ns = (ds[k]'(by rw [EL.out]; exact hkl)).ns := ⟨_, rfl⟩
      obtain ⟨dd, edd⟩ : ∃ dd, dd = (ds[k]'(by rw [EL.out]; exact hkl)).d := ⟨_, rfl⟩
      rw [← enb] at x3 p1
      rw [← ens] at x4 p2
      rw [← edd] at x5
      have ENB := Lib.hid enb
      have ENS := Lib.hid ens
      have EDD := Lib.hid edd
      clear enb ens edd
      have KB := Lib.hid kb
      have hlt' : (k : Int) < (L : Int) := by omega
      by_cases hnb : 131072 < t + nb
      · have hnb' : (131072 : Int) < (t : Int) + nb := by omega
        go_wp2_with (fail)
        go_ret
        exact ⟨_, rfl, fun h => (by cases h), HK.out.trans (KB.out.mono HK.out.size)⟩
      · have hnb' : (t : Int) + nb ≤ 131072 := by omega
        have fin : Hid (ns = 0 ∨ dd ≠ 5) → Hid (∀ (j : Nat) (hj : j < ds.length), j < k + 1 → ds[j].nb ≤ 131072 ∧ (ds[j].d = 5 → ds[j].ns = 0)) := fun h0 => Lib.hid fun j hj h1 => by
          by_cases e : j = k
          · subst e
            rw [← ENB.out, ← ENS.out, ← EDD.out]
            exact ⟨by omega, fun e5 => h0.out.resolve_right (fun h => h e5)⟩
          · exact HP.out j hj (by omega)
        have FIN := Lib.hid fin
        clear fin
        by_cases hd5 : dd = 5
        · have ed : (dd == 5) = true := by rw [hd5]; rfl
          by_cases hns : ns = 0
          · have hns' : (ns : Int) ≤ 0 := by omega
            have FIN2 := FIN.out (Lib.hid (.inl hns))
            have hns2 := Lib.hid hns
            clear hns hd5
            go_wp2_with (fail)
            exact ⟨⟨k + 1, t + nb, by go_num, by go_num, by omega, by omega, FIN2, KB.out⟩, by simp [intOf]; omega⟩
          · have hns' : (0 : Int) < (ns : Int) := by omega
            clear hd5
            go_wp2_with (fail)
            go_ret
            exact ⟨_, rfl, fun h => (by cases h), HK.out.trans (KB.out.mono HK.out.size)⟩
        · have ed : (dd == 5) = false := by simpa using hd5
          have FIN2 := FIN.out (Lib.hid (.inr hd5))
          clear hd5
          go_wp2_with (fail)
          exact ⟨⟨k + 1, t + nb, by go_num, by go_num, by omega, by omega, FIN2, KB.out⟩, by simp [intOf]; omega⟩
    · have hkl' : (L : Int) ≤ (k : Int) := by omega
      go_wp2_with (fail)
      go_ret
      refine ⟨_, rfl, fun h => ?_, HK.out.trans (kb.mono HK.out.size)⟩
      have hL : (L : Int) ≤ 400 := of_decide_eq_true h
      exact small_row HM.out (by rw [EL.out]; omega) (fun j hj => HP.out j hj (by have := EL.out; omega))
end Go.Proofs.Ytcffinkkfdfcaaa

/- The faults of a row of items, in plain words. Conditions: none. -/
namespace Go.Proofs.Ytcffinkkfdfcaaa
open Go Go.RowKit

/-- The fault of one entry, the c-th: 0 is none. -/
def fe (c : Nat) (e : En) : Int :=
  if 64 ≤ c then 4 else if e.k < 1 ∨ 1000 < e.k ∨ e.k ≤ e.ah ∨ (0 < e.ns ∧ e.li = false) ∨ (0 < e.nb ∧ e.li = true) then 1 else if e.li = true ∧ e.d = 4 then 5 else if 4096 < e.nb then 4 else 0
/-- The first fault of a row whose first entry is the c-th. -/
def scanF : List En → Nat → Int
  | [], _ => 0
  | e :: r, c => if fe c e ≠ 0 then fe c e else scanF r (c + 1)
theorem scanF_append (xs ys : List En) : ∀ c, scanF (xs ++ ys) c = if scanF xs c ≠ 0 then scanF xs c else scanF ys (c + xs.length) := by
  induction xs with
  | nil => intro c; simp [scanF]
  | cons x xs ih =>
    intro c
    rw [List.cons_append, scanF, scanF, ih]
    by_cases h : fe c x = 0
    · simp only [h, ne_eq, not_true_eq_false, if_false, List.length_cons]
      rw [show c + 1 + xs.length = c + (xs.length + 1) by omega]
    · simp only [h, ne_eq, not_false_eq_true, if_true]
/-- Check's answer. -/
def checkF (f : Fo) : Int := if scanF (fullR f 1 0) 0 ≠ 0 then scanF (fullR f 1 0) 0 else if 4096 < (layL f).length then 4 else 0
theorem scanF_zero : ∀ (xs : List En) (c : Nat), scanF xs c = 0 → ∀ (j : Nat) (hj : j < xs.length), fe (c + j) xs[j] = 0
  | [], _, _, j, hj => by simp at hj
  | x :: xs, c, h, j, hj => by
    rw [scanF] at h
    by_cases h0 : fe c x = 0
    · rw [if_neg (by simp [h0])] at h
      match j, hj with
      | 0, _ => simpa using h0
      | j + 1, hj =>
        have := scanF_zero xs (c + 1) h j (by simpa using hj)
        rw [show c + (j + 1) = c + 1 + j by omega]
        simpa using this
    · rw [if_pos h0] at h; exact absurd h h0
/-- The first fault stands at the k-th entry. -/
theorem scanF_at : ∀ (xs : List En) (c k : Nat) (hk : k < xs.length), (∀ (j : Nat) (hj : j < xs.length), j < k → fe (c + j) xs[j] = 0) → fe (c + k) xs[k] ≠ 0 → scanF xs c = fe (c + k) xs[k]
  | [], _, k, hk, _, _ => by simp at hk
  | x :: xs, c, 0, _, _, h => by
    rw [scanF, if_pos (by simpa using h)]
    simp
  | x :: xs, c, k + 1, hk, h0, h => by
    have hx : fe c x = 0 := h0 0 (by simp) (by omega)
    rw [scanF, if_neg (by simp [hx])]
    have e : c + (k + 1) = c + 1 + k := by omega
    rw [e] at h ⊢
    have := scanF_at xs (c + 1) k (by simpa using hk) (fun j hj hjk => by
      have := h0 (j + 1) (by simp; omega) (by omega)
      rw [show c + (j + 1) = c + 1 + j by omega] at this
      simpa using this) (by simpa using h)
    rw [this]; simp
theorem scanF_none : ∀ (xs : List En) (c : Nat), (∀ (j : Nat) (hj : j < xs.length), fe (c + j) xs[j] = 0) → scanF xs c = 0
  | [], _, _ => rfl
  | x :: xs, c, h => by
    have hx : fe c x = 0 := h 0 (by simp)
    rw [scanF, if_neg (by simp [hx])]
    exact scanF_none xs (c + 1) (fun j hj => by
      have := h (j + 1) (by simp; omega)
      rw [show c + (j + 1) = c + 1 + j by omega] at this
      simpa using this)
theorem fe_64 {c : Nat} {e : En} (h : 64 ≤ c) : fe c e = 4 := by rw [fe, if_pos h]
theorem fe_1 {c : Nat} {e : En} (h : ¬ 64 ≤ c) (h1 : e.k < 1 ∨ 1000 < e.k ∨ e.k ≤ e.ah ∨ (0 < e.ns ∧ e.li = false) ∨ (0 < e.nb ∧ e.li = true)) : fe c e = 1 := by rw [fe, if_neg h, if_pos h1]
def En.fair (e : En) : Prop := 1 ≤ e.k ∧ e.k ≤ 1000 ∧ e.ah < e.k ∧ (e.li = false → e.ns = 0) ∧ (e.li = true → e.nb = 0)
theorem En.fair.not {e : En} (h : e.fair) : ¬ (e.k < 1 ∨ 1000 < e.k ∨ e.k ≤ e.ah ∨ (0 < e.ns ∧ e.li = false) ∨ (0 < e.nb ∧ e.li = true)) := by
  obtain ⟨h1, h2, h3, h4, h5⟩ := h
  rintro (h | h | h | ⟨h, g⟩ | ⟨h, g⟩)
  · omega
  · omega
  · omega
  · have := h4 g; omega
  · have := h5 g; omega
theorem fe_5 {c : Nat} {e : En} (h : ¬ 64 ≤ c) (h1 : e.fair) (h2 : e.li = true) (h3 : e.d = 4) : fe c e = 5 := by rw [fe, if_neg h, if_neg h1.not, if_pos ⟨h2, h3⟩]
theorem fe_4b {c : Nat} {e : En} (h : ¬ 64 ≤ c) (h1 : e.fair) (h2 : ¬ (e.li = true ∧ e.d = 4)) (h3 : 4096 < e.nb) : fe c e = 4 := by rw [fe, if_neg h, if_neg h1.not, if_neg h2, if_pos h3]
theorem fe_0 {c : Nat} {e : En} (h : ¬ 64 ≤ c) (h1 : e.fair) (h2 : ¬ (e.li = true ∧ e.d = 4)) (h3 : e.nb ≤ 4096) : fe c e = 0 := by rw [fe, if_neg h, if_neg h1.not, if_neg h2, if_neg (by omega)]
/-- What an entry without a fault is. -/
theorem fe_zero {c : Nat} {e : En} (h : fe c e = 0) : c < 64 ∧ 1 ≤ e.k ∧ e.k ≤ 1000 ∧ e.ah < e.k ∧ (e.li = false → e.ns = 0) ∧ (e.li = true → e.nb = 0) ∧ (e.li = true → e.d ≠ 4) ∧ e.nb ≤ 4096 := by
  unfold fe at h
  by_cases h1 : 64 ≤ c
  · rw [if_pos h1] at h; omega
  rw [if_neg h1] at h
  by_cases h2 : e.k < 1 ∨ 1000 < e.k ∨ e.k ≤ e.ah ∨ (0 < e.ns ∧ e.li = false) ∨ (0 < e.nb ∧ e.li = true)
  · rw [if_pos h2] at h; omega
  rw [if_neg h2] at h
  by_cases h3 : e.li = true ∧ e.d = 4
  · rw [if_pos h3] at h; omega
  rw [if_neg h3] at h
  by_cases h4 : 4096 < e.nb
  · rw [if_pos h4] at h; omega
  have a1 : ¬ e.k < 1 := fun h => h2 (.inl h)
  have a2 : ¬ 1000 < e.k := fun h => h2 (.inr (.inl h))
  have a3 : ¬ e.k ≤ e.ah := fun h => h2 (.inr (.inr (.inl h)))
  refine ⟨by omega, by omega, by omega, by omega, fun hl => ?_, fun hl => ?_, fun hl hd => h3 ⟨hl, hd⟩, by omega⟩
  · exact Nat.eq_zero_of_not_pos fun hp => h2 (.inr (.inr (.inr (.inl ⟨hp, hl⟩))))
  · exact Nat.eq_zero_of_not_pos fun hp => h2 (.inr (.inr (.inr (.inr ⟨hp, hl⟩))))
/-- A list without faults: its kinds and bytes may be, and all its items stand in the row. -/
theorem good_of : ∀ (f : Fo) (d ah : Int), d ≤ 4 → (∀ e ∈ fullR f d ah, ∃ c, fe c e = 0) → f.good ∧ (fullR f d ah).length = f.size
  | .nil, _, _, _, _ => ⟨trivial, rfl⟩
  | .cons k cr li bs sub rest, d, ah, hd, h => by
    obtain ⟨c, h0⟩ := h ⟨k, cr, li, bs.length, sub.len, d, ah⟩ (by rw [fullR]; exact .head _)
    obtain ⟨-, k1, k2, -, n1, -, n3, n4⟩ := fe_zero h0
    simp only at k1 k2 n1 n3 n4
    have hr := good_of rest d k hd (fun e he => h e (by rw [fullR]; exact List.mem_cons_of_mem _ (List.mem_append.2 (.inr he))))
    have hs : sub.good ∧ (fullR sub (d + 1) 0).length = sub.size := by
      by_cases h4 : d ≤ 3
      · exact good_of sub (d + 1) 0 (by omega) (fun e he => h e (by rw [fullR, if_pos (by omega)]; exact List.mem_cons_of_mem _ (List.mem_append.2 (.inl he))))
      · have : sub = .nil := by
          cases li with
          | true => exact absurd (show d = 4 by omega) (n3 rfl)
          | false => exact Fo.len0 (n1 rfl)
        subst this
        exact ⟨trivial, rfl⟩
    exact ⟨⟨k1, k2, n4, hs.1, hr.1⟩, by rw [fullR, if_pos (by omega), List.length_cons, List.length_append, hs.2, hr.2, Fo.size]⟩
/-- The first 66 entries decide. -/
theorem scan_take (xs : List En) : scanF (xs.take 66) 0 = scanF xs 0 := by
  by_cases h : xs.length ≤ 66
  · rw [List.take_of_length_le h]
  · have e : xs.take 66 ++ xs.drop 66 = xs := List.take_append_drop 66 xs
    conv => rhs; rw [← e]
    rw [scanF_append]
    by_cases h0 : scanF (xs.take 66) 0 = 0
    · have hl : (xs.take 66).length = 66 := by rw [List.length_take]; omega
      have := scanF_zero _ 0 h0 64 (by omega)
      rw [fe_64 (by omega)] at this
      omega
    · rw [if_pos h0]
theorem check_scan {f : Fo} (h : scanF (fullR f 1 0) 0 = 0) : f.good ∧ f.size ≤ 64 := by
  have hz := scanF_zero _ 0 h
  have q := good_of f 1 0 (by omega) (fun e he => by
    obtain ⟨j, hj, rfl⟩ := List.getElem_of_mem he
    exact ⟨0 + j, hz j hj⟩)
  refine ⟨q.1, ?_⟩
  rw [← q.2]
  by_cases h6 : (fullR f 1 0).length ≤ 64
  · exact h6
  · have := hz 64 (by omega)
    rw [fe_64 (by omega)] at this
    omega
end Go.Proofs.Ytcffinkkfdfcaaa

/- What the closure within tlv.Check answers: the first fault of a list, and how many items were gone through. Conditions: a list that can be read; depth 1 to 5. -/
namespace Go.Proofs.Ytcffinkkfdfcaaa
open Go Go.RowKit

theorem scan_step {f : Fo} {d : Int} {c c0 : Nat} {P R : List En} {x : En} (hF : fullR f d 0 = P ++ (x :: R)) (hz : scanF P c = 0) (hc : c0 = c + P.length) :
    (∀ u : Int, u ≠ 0 → fe c0 x = u → scanF (fullR f d 0) c = u) ∧ (fe c0 x = 0 → scanF (fullR f d 0) c = scanF R (c0 + 1)) := by
  have e : scanF (fullR f d 0) c = scanF (x :: R) c0 := by rw [hF, scanF_append, if_neg (by simp [hz]), hc]
  rw [e]
  refine ⟨fun u hu h => ?_, fun h => ?_⟩
  · rw [scanF, h, if_pos hu]
  · rw [scanF, h, if_neg (by simp)]
/-- Where the closure's count lies, and the closure itself. -/
structure Wk (w : World) (bc bw : Nat) (c : Nat) : Prop where
  c : w.heap[bc]? = some (.cells #[.int .i64 (c : Int)] 3 (0, 0))
  w : w.heap[bw]? = some (.cells #[.func (.func 86) #[] #[.pointer (some ⟨bc, 0, none⟩), .pointer (some ⟨bw, 0, none⟩)]] 145 (0, 0))
  n : bc ≠ bw
theorem Wk.far {w w' : World} {bc bw c : Nat} (h : Wk w bc bw c) (hb : Below w.heap.size w w') : Wk w' bc bw c := ⟨(hb.block _ (heap_lt h.c)).trans h.c, (hb.block _ (heap_lt h.w)).trans h.w, h.n⟩
theorem Wk.set {w : World} {bc bw c : Nat} (h : Wk w bc bw c) (c' : Nat) : Wk (w.setCell ⟨bc, 0, none⟩ (.int .i64 (c' : Int))) bc bw c' := ⟨by rw [heap_set h.c]; rfl, (heap_far _ (by exact fun e => h.n e.symm)).trans h.w, h.n⟩
theorem FoR.only {ok : Nat → Prop} {w w' : World} {f : Fo} {A : Option Addr} {i bc : Nat} (h : FoR ok w A i f) (hok : ∀ j, ok j → j ≠ bc) (hg : w.grownBy w' (some bc)) : FoR ok w' A i f :=
  FoR.frame (fun j hj hl => hg.block j hl (fun e => hok j hj (by injection e))) hg.size f A i h
/-- What the closure answers and leaves. -/
def WkP (bc bw c : Nat) (w : World) (C : Int) (L : Nat) (r : Ending) (w' : World) : Prop := ∃ c', r = .returned (.int .i64 C) ∧ (C = 0 → c' = c + L ∧ c' ≤ 64) ∧ Wk w' bc bw c' ∧ w.grownBy w' (some bc)
theorem WkP.of {bc bw c : Nat} {w w' : World} {C : Int} {L : Nat} {r : Ending} (c' : Nat) (h1 : r = .returned (.int .i64 C)) (h2 : C = 0 → c' = c + L ∧ c' ≤ 64) (h3 : Wk w' bc bw c') (h4 : w.grownBy w' (some bc)) : WkP bc bw c w C L r w' := ⟨c', h1, h2, h3, h4⟩
set_option maxRecDepth 100000 in
set_option maxHeartbeats 8000000 in
theorem walk_c : ∀ (M : Nat) (f : Fo), f.size = M → ∀ (d : Int) (c : Nat), 1 ≤ d → d ≤ 5 → (d = 5 → f = .nil) → c ≤ 64 → ∀ (ok : Nat → Prop) (A : Option Addr) (n cap : Nat) (w : World) (bc bw : Nat), f.len = n → FoR ok w A 0 f → (∀ j, ok j → j ≠ bc) → n ≤ 2199023255488 → Wk w bc bw c →
    Calls Try.prog 86 #[.slice A n cap, .int .i64 d, .pointer (some ⟨bc, 0, none⟩), .pointer (some ⟨bw, 0, none⟩)] w (WkP bc bw c w (scanF (fullR f d 0) c) (fullR f d 0).length) := by
  intro M
  induction M using Nat.strongRecOn with
  | _ M ih =>
    intro f hM d c hd1 hd5 hdn hc ok A n cap w bc bw hn h1 hok hl hw
    have IH := Lib.hid ih; clear ih
    have HN := Lib.hid hn; clear hn
    have H1 := Lib.hid h1; clear h1
    have HM := Lib.hid hM; clear hM
    have HW := Lib.hid hw; clear hw
    have HDN := Lib.hid hdn; clear hdn
    have HOK := Lib.hid hok; clear hok
    obtain ⟨C, hC⟩ : ∃ C, C = scanF (fullR f d 0) c := ⟨_, rfl⟩
    rw [← hC]
    have HC := Lib.hid hC; clear hC
    go_enter Try.func86, Try.ntmps86
    go_wp2_with (fail)
    go_loopw [7, 13] (fun a i wr => ∃ (k : Nat) (r : Fo) (P : List En) (c0 : Nat) (ah : Int), a = .int .i64 ah ∧ i = .int .i64 k ∧ 0 ≤ ah ∧ Hid (k + r.len = n) ∧ Hid (FoR ok w A k r) ∧ Hid (r.size ≤ f.size) ∧ Hid (fullR f d 0 = P ++ fullR r d ah) ∧ Hid (scanF P c = 0) ∧ Hid (c0 = c + P.length) ∧ c0 ≤ 64 ∧ Hid (Wk wr bc bw c0) ∧ Hid (w.grownBy wr (some bc))) (fun _ i _ => n - (intOf i).toNat)
    case atStart => exact ⟨0, f, [], c, 0, rfl, rfl, by omega, Lib.hid (by rw [HN.out]; omega), H1, Lib.hid (Nat.le_refl _), Lib.hid rfl, Lib.hid rfl, Lib.hid rfl, hc, HW, Lib.hid (World.grownBy.refl _ _)⟩
    case round =>
      obtain ⟨k, r, P, c0, ah, rfl, rfl, hah, HK, R1, HS, HF, HZ, HC0, hc0, HWr, HG⟩ := hrel
      cases r with
      | nil =>
        have hk : k = n := HK.out
        have hk' : (n : Int) ≤ (k : Int) := by omega
        clear hk
        have eF : fullR f d 0 = P := by rw [HF.out, fullR, List.append_nil]
        have e0 : C = 0 := by rw [HC.out, eF]; exact HZ.out
        have E0 := Lib.hid e0
        have EF := Lib.hid eF
        clear e0 eF
        go_wp2_with (fail)
        go_ret
        exact WkP.of c0 (by rw [E0.out]; rfl) (fun _ => ⟨by rw [EF.out]; exact HC0.out, hc0⟩) HWr.out HG.out
      | cons z cr li bs sub rest =>
        obtain ⟨⟨b1, o1, At1, m1, cm1, As1, e1, rfl, hb1, hb1k, ⟨x0, x1, x2, x3, x4⟩, t1, s1, l1, l2, l3⟩, r1⟩ := R1.out.one
        have hd4 : d ≤ 4 := by
          rcases Int.lt_or_le d 5 with h | h
          · omega
          · have e := HDN.out (by omega)
            subst e
            have := HS.out
            simp only [Fo.size] at this
            omega
        have hge := HG.out
        have hbl : wr.heap[b1]? = w.heap[b1]? := hge.block b1 hb1 (fun e => HOK.out b1 hb1k (by injection e))
        have hcell : ∀ q v, w.cell? ⟨b1, q, none⟩ = some v → wr.cell? ⟨b1, q, none⟩ = some v := fun q v hu => (World.cell?_of_block (w := w) (a := ⟨b1, q, none⟩) hbl).trans hu
        replace x0 := hcell _ _ x0
        replace x1 := hcell _ _ x1
        replace x2 := hcell _ _ x2
        replace x3 := hcell _ _ x3
        replace x4 := hcell _ _ x4
        have hkn : k < n := by have := HK.out; simp only [Fo.len] at this; omega
        have hlt' : (k : Int) < (n : Int) := by omega
        have S1 := Lib.hid s1
        have R1b := Lib.hid r1
        obtain ⟨sl, esl⟩ : ∃ sl, sl = sub.len := ⟨_, rfl⟩
        rw [← esl] at x4 l1 l3
        have ESL := Lib.hid esl
        have hFx : fullR f d 0 = P ++ ((⟨z, cr, li, bs.length, sub.len, d, ah⟩ : En) :: (fullR sub (d + 1) 0 ++ fullR rest d z)) := by rw [HF.out, fullR, if_pos (by omega)]
        have em : bs.length = m1 := t1.1
        rw [em, ← esl] at hFx
        have hst := scan_step hFx HZ.out HC0.out
        rw [← HC.out] at hst
        have RES := Lib.hid hst.1
        have NXT := Lib.hid hst.2
        have HFX := Lib.hid hFx
        have LM : (m1 : Int) ≤ 140737488355328 := by have := t1.2.2.2.2.2; omega
        -- the world of this round
        have cc : wr.cell? ⟨bc, 0, none⟩ = some (.int .i64 (c0 : Int)) := by rw [heap_cell HWr.out.c]; rfl
        have xw : wr.cell? ⟨bw, 0, none⟩ = some (.func (.func 86) #[] #[.pointer (some ⟨bc, 0, none⟩), .pointer (some ⟨bw, 0, none⟩)]) := by rw [heap_cell HWr.out.w]; rfl
        have nbw : bc ≠ bw := HWr.out.n
        have nwb : bw ≠ bc := fun e => nbw e.symm
        have cf : wr.frozen? ⟨bc, 0, none⟩ = false := heap_free HWr.out.c 0
        have hbcl : bc < wr.heap.size := heap_lt HWr.out.c
        have hbwl : bw < wr.heap.size := heap_lt HWr.out.w
        obtain ⟨wa, ewa⟩ : ∃ wa, wa = (wr.setCell ⟨bc, 0, none⟩ (.int .i64 ((c0 : Int) + 1))).alloc (.cells #[.int .i64 z, .bool cr, .bool li, .slice At1 m1 cm1, .slice As1 sl e1] 76) := ⟨_, rfl⟩
        have wka : Wk wa bc bw (c0 + 1) := by rw [ewa]; exact (HWr.out.set (c0 + 1)).far ((Below.refl _ _).alloc (Nat.le_refl _) _)
        have gra : w.grownBy wa (some bc) := only_trans hge (by rw [ewa]; exact only_trans (only_set bc 0 _) (grownBy_of_below ((Below.refl _ _).alloc (Nat.le_refl _) _) _))
        have ya : ∀ (j : Nat) (v : Value), (#[Value.int .i64 z, .bool cr, .bool li, .slice At1 m1 cm1, .slice As1 sl e1] : Array Value)[j]? = some v → wa.cell? ⟨wr.heap.size, j, none⟩ = some v := fun j v h => by
          have hs : (wr.setCell ⟨bc, 0, none⟩ (.int .i64 ((c0 : Int) + 1))).heap.size = wr.heap.size := by simp [World.setCell]
          rw [ewa, ← hs, cell_of_row _ _ _ _ _ (0, 0) (heap_alloc_new _ _)]; exact h
        have y0 := ya 0 _ rfl
        have y2 := ya 2 _ rfl
        have y3 := ya 3 _ rfl
        have y4 := ya 4 _ rfl
        have yc : wa.cell? ⟨bc, 0, none⟩ = some (.int .i64 ((c0 : Int) + 1)) := by rw [heap_cell wka.c]; rfl
        have yw : wa.cell? ⟨bw, 0, none⟩ = some (.func (.func 86) #[] #[.pointer (some ⟨bc, 0, none⟩), .pointer (some ⟨bw, 0, none⟩)]) := by rw [heap_cell wka.w]; rfl
        have WKA := Lib.hid wka
        have GRA := Lib.hid gra
        have EWA := Lib.hid ewa
        have HBCL := Lib.hid hbcl
        clear ya wka gra ewa hge hbl hcell hst hFx s1 r1 esl em t1 l1 hb1k hb1 R1
        have hlc : (c0 : Int) ≤ 64 := by omega
        by_cases h64 : 64 ≤ c0
        · have h64' : (64 : Int) ≤ (c0 : Int) := by omega
          have e := Lib.hid (RES.out 4 (by decide) (fe_64 h64))
          go_wp2_with (fail)
          go_ret
          exact WkP.of (c0 + 1) (by rw [e.out]; rfl) (fun h => absurd (e.out.symm.trans h) (by decide)) (by rw [← EWA.out]; exact WKA.out) (by rw [← EWA.out]; exact GRA.out)
        · have h64' : (c0 : Int) < 64 := by omega
          by_cases hC : z ≤ ah
          · have e := Lib.hid (RES.out 1 (by decide) (fe_1 h64 (.inr (.inr (.inl hC)))))
            go_wp2_with (fail)
            go_ret
            exact WkP.of (c0 + 1) (by rw [e.out]; rfl) (fun h => absurd (e.out.symm.trans h) (by decide)) (by rw [← EWA.out]; exact WKA.out) (by rw [← EWA.out]; exact GRA.out)
          · have hC' : ah < z := by omega
            by_cases hB : 1000 < z
            · have e := Lib.hid (RES.out 1 (by decide) (fe_1 h64 (.inr (.inl hB))))
              go_wp2_with (fail)
              go_ret
              exact WkP.of (c0 + 1) (by rw [e.out]; rfl) (fun h => absurd (e.out.symm.trans h) (by decide)) (by rw [← EWA.out]; exact WKA.out) (by rw [← EWA.out]; exact GRA.out)
            · have hB' : z ≤ 1000 := by omega
              cases li with
              | false =>
                by_cases hD : 0 < sl
                · have hD' : (0 : Int) < (sl : Int) := by omega
                  have e := Lib.hid (RES.out 1 (by decide) (fe_1 h64 (.inr (.inr (.inr (.inl ⟨hD, rfl⟩))))))
                  go_wp2_with (fail)
                  go_ret
                  exact WkP.of (c0 + 1) (by rw [e.out]; rfl) (fun h => absurd (e.out.symm.trans h) (by decide)) (by rw [← EWA.out]; exact WKA.out) (by rw [← EWA.out]; exact GRA.out)
                · have hD' : (sl : Int) ≤ 0 := by omega
                  have fa : Hid (En.fair ⟨z, cr, false, m1, sl, d, ah⟩) := Lib.hid ⟨by show 1 ≤ z; omega, hB', hC', fun _ => by show sl = 0; omega, fun h => by cases h⟩
                  by_cases hF : 4096 < m1
                  · have hF' : (4096 : Int) < (m1 : Int) := by omega
                    have e := Lib.hid (RES.out 4 (by decide) (fe_4b h64 fa.out (fun h => by cases h.1) hF))
                    go_wp2_with (fail)
                    go_ret
                    exact WkP.of (c0 + 1) (by rw [e.out]; rfl) (fun h => absurd (e.out.symm.trans h) (by decide)) (by rw [← EWA.out]; exact WKA.out) (by rw [← EWA.out]; exact GRA.out)
                  · have hF' : (m1 : Int) ≤ 4096 := by omega
                    have HSs : Hid (sub.size < M) := Lib.hid (by have a := HS.out; have b := HM.out; simp only [Fo.size] at a; omega)
                    have SA := Lib.hid (S1.out.only HOK.out GRA.out)
                    have nx := NXT.out (fe_0 h64 fa.out (fun h => by cases h.1) (by show m1 ≤ 4096; omega))
                    have NX := Lib.hid nx
                    clear nx
                    have HZ0 : Hid (0 ≤ z) := Lib.hid (by omega)
                    have q1 : 1 ≤ d + 1 := by omega
                    have q2 : d + 1 ≤ 5 := by omega
                    have q3 : Hid (d + 1 = 5 → sub = .nil) := Lib.hid (fun _ => Fo.len0 (by have := ESL.out; omega))
                    go_wp2_with (fail)
                    rw [← EWA.out]
                    refine (IH.out sub.size HSs.out sub rfl (d + 1) (c0 + 1) q1 q2 q3.out (by omega) ok As1 sl e1 wa bc bw ESL.out.symm SA.out HOK.out l3 WKA.out).mono ?_
                    rintro _ w1 ⟨c1, rfl, hc1, hw1, hg1⟩
                    obtain ⟨E1, eE1⟩ : ∃ E1, E1 = scanF (fullR sub (d + 1) 0) (c0 + 1) := ⟨_, rfl⟩
                    rw [← eE1] at hc1 ⊢
                    have EE1 := Lib.hid eE1
                    have HC1 := Lib.hid hc1
                    have W1 := Lib.hid hw1
                    have G1 := Lib.hid (only_trans GRA.out hg1)
                    have y0b : w1.cell? ⟨wr.heap.size, 0, none⟩ = some (.int .i64 z) := by
                      rw [World.cell?_of_block (w := wa) (a := ⟨wr.heap.size, 0, none⟩) (hg1.block _ (by rw [EWA.out]; simp [World.setCell]) (by intro e; injection e with e; have e2 : wr.heap.size = bc := e; have := HBCL.out; omega))]
                      exact y0
                    clear eE1 hc1 hw1 hg1
                    by_cases hE : E1 = 0
                    · have ed : (E1 != 0) = false := by rw [hE]; rfl
                      have HE := Lib.hid hE
                      clear hE
                      go_wp2_with (fail)
                      refine ⟨⟨k + 1, rest, P ++ ((⟨z, cr, false, m1, sl, d, ah⟩ : En) :: fullR sub (d + 1) 0), c1, z, rfl, by go_num, HZ0.out, Lib.hid (by have := HK.out; simp only [Fo.len] at this; omega), R1b, Lib.hid (by have := HS.out; simp only [Fo.size] at this; omega), Lib.hid ?_, Lib.hid ?_, Lib.hid ?_, (HC1.out HE.out).2, W1, G1⟩, by simp [intOf]; omega⟩
                      · rw [HFX.out]; simp
                      · rw [scanF_append, if_neg (by rw [HZ.out]; simp), ← HC0.out, scanF, fe_0 h64 fa.out (fun h => by cases h.1) (by show m1 ≤ 4096; omega), if_neg (by simp), ← EE1.out]
                        exact HE.out
                      · rw [(HC1.out HE.out).1, HC0.out, List.length_append, List.length_cons]; omega
                    · have ed : (E1 != 0) = true := by simpa using hE
                      have eC : C = E1 := by rw [NX.out, scanF_append, ← EE1.out, if_pos hE]
                      have EC := Lib.hid eC
                      have HE := Lib.hid hE
                      clear hE eC
                      go_wp2_with (fail)
                      go_ret
                      exact WkP.of c1 (by rw [EC.out]; rfl) (fun h => absurd (EC.out.symm.trans h) HE.out) W1.out G1.out
              | true =>
                by_cases hE : 0 < m1
                · have hE' : (0 : Int) < (m1 : Int) := by omega
                  have e := Lib.hid (RES.out 1 (by decide) (fe_1 h64 (.inr (.inr (.inr (.inr ⟨hE, rfl⟩))))))
                  go_wp2_with (fail)
                  go_ret
                  exact WkP.of (c0 + 1) (by rw [e.out]; rfl) (fun h => absurd (e.out.symm.trans h) (by decide)) (by rw [← EWA.out]; exact WKA.out) (by rw [← EWA.out]; exact GRA.out)
                · have hE' : (m1 : Int) ≤ 0 := by omega
                  have hF' : (m1 : Int) ≤ 4096 := by omega
                  have fa : Hid (En.fair ⟨z, cr, true, m1, sl, d, ah⟩) := Lib.hid ⟨by show 1 ≤ z; omega, hB', hC', (fun h => by cases h), fun _ => by show m1 = 0; omega⟩
                  by_cases hG : d = 4
                  · have hG' : (4 : Int) ≤ d := by omega
                    have e := Lib.hid (RES.out 5 (by decide) (fe_5 h64 fa.out rfl hG))
                    go_wp2_with (fail)
                    go_ret
                    exact WkP.of (c0 + 1) (by rw [e.out]; rfl) (fun h => absurd (e.out.symm.trans h) (by decide)) (by rw [← EWA.out]; exact WKA.out) (by rw [← EWA.out]; exact GRA.out)
                  · have hG' : d < 4 := by omega
                    have HSs : Hid (sub.size < M) := Lib.hid (by have a := HS.out; have b := HM.out; simp only [Fo.size] at a; omega)
                    have SA := Lib.hid (S1.out.only HOK.out GRA.out)
                    have nx := NXT.out (fe_0 h64 fa.out (fun h => by have : d = 4 := h.2; omega) (by show m1 ≤ 4096; omega))
                    have NX := Lib.hid nx
                    clear nx
                    have HZ0 : Hid (0 ≤ z) := Lib.hid (by omega)
                    have q1 : 1 ≤ d + 1 := by omega
                    have q2 : d + 1 ≤ 5 := by omega
                    have q3 : Hid (d + 1 = 5 → sub = .nil) := Lib.hid (fun h => by omega)
                    go_wp2_with (fail)
                    rw [← EWA.out]
                    refine (IH.out sub.size HSs.out sub rfl (d + 1) (c0 + 1) q1 q2 q3.out (by omega) ok As1 sl e1 wa bc bw ESL.out.symm SA.out HOK.out l3 WKA.out).mono ?_
                    rintro _ w1 ⟨c1, rfl, hc1, hw1, hg1⟩
                    obtain ⟨E1, eE1⟩ : ∃ E1, E1 = scanF (fullR sub (d + 1) 0) (c0 + 1) := ⟨_, rfl⟩
                    rw [← eE1] at hc1 ⊢
                    have EE1 := Lib.hid eE1
                    have HC1 := Lib.hid hc1
                    have W1 := Lib.hid hw1
                    have G1 := Lib.hid (only_trans GRA.out hg1)
                    have y0b : w1.cell? ⟨wr.heap.size, 0, none⟩ = some (.int .i64 z) := by
                      rw [World.cell?_of_block (w := wa) (a := ⟨wr.heap.size, 0, none⟩) (hg1.block _ (by rw [EWA.out]; simp [World.setCell]) (by intro e; injection e with e; have e2 : wr.heap.size = bc := e; have := HBCL.out; omega))]
                      exact y0
                    clear eE1 hc1 hw1 hg1
                    by_cases hE : E1 = 0
                    · have ed : (E1 != 0) = false := by rw [hE]; rfl
                      have HE := Lib.hid hE
                      clear hE
                      go_wp2_with (fail)
                      refine ⟨⟨k + 1, rest, P ++ ((⟨z, cr, true, m1, sl, d, ah⟩ : En) :: fullR sub (d + 1) 0), c1, z, rfl, by go_num, HZ0.out, Lib.hid (by have := HK.out; simp only [Fo.len] at this; omega), R1b, Lib.hid (by have := HS.out; simp only [Fo.size] at this; omega), Lib.hid ?_, Lib.hid ?_, Lib.hid ?_, (HC1.out HE.out).2, W1, G1⟩, by simp [intOf]; omega⟩
                      · rw [HFX.out]; simp
                      · rw [scanF_append, if_neg (by rw [HZ.out]; simp), ← HC0.out, scanF, fe_0 h64 fa.out (fun h => by have : d = 4 := h.2; omega) (by show m1 ≤ 4096; omega), if_neg (by simp), ← EE1.out]
                        exact HE.out
                      · rw [(HC1.out HE.out).1, HC0.out, List.length_append, List.length_cons]; omega
                    · have ed : (E1 != 0) = true := by simpa using hE
                      have eC : C = E1 := by rw [NX.out, scanF_append, ← EE1.out, if_pos hE]
                      have EC := Lib.hid eC
                      have HE := Lib.hid hE
                      clear hE eC
                      go_wp2_with (fail)
                      go_ret
                      exact WkP.of c1 (by rw [EC.out]; rfl) (fun h => absurd (EC.out.symm.trans h) HE.out) W1.out G1.out
end Go.Proofs.Ytcffinkkfdfcaaa

/- What tlv.Check answers. Conditions: items that can be read. -/
namespace Go.Proofs.Ytcffinkkfdfcaaa
open Go Go.RowKit

set_option maxRecDepth 100000 in
set_option maxHeartbeats 4000000 in
theorem Check_c (f : Fo) (ok : Nat → Prop) (A : Option Addr) (n c : Nat) (w : World) (hn : f.len = n) (h1 : FoR ok w A 0 f) (hl : n ≤ 2199023255488) :
    Calls Try.prog 61 #[.slice A n c] w fun r w' => r = .returned (.int .i64 (checkF f)) ∧ Below w.heap.size w w' := by
  have HN := Lib.hid hn; clear hn
  obtain ⟨C, hC⟩ : ∃ C, C = checkF f := ⟨_, rfl⟩
  rw [← hC]
  have HC := Lib.hid hC; clear hC
  have hmf : ∀ (fn : Fn) (first cap : Array Value) (w : World), (Instr.makeFunc fn first cap).run Try.prog w = .ok (.func fn first cap) w := fun _ _ _ _ => rfl
  have H1 := Lib.hid (FoR.weak (ok' := (· < w.heap.size)) (fun _ _ h => h) f A 0 h1); clear h1
  obtain ⟨w0, ew0⟩ : ∃ w0, w0 = (w.alloc (.cells #[.int .i64 0] 3)).alloc (.cells #[.nilFunc] 145) := ⟨_, rfl⟩
  have hs1 : (w.alloc (.cells #[.int .i64 0] 3)).heap.size = w.heap.size + 1 := by simp
  have g0 : w0.heap[w.heap.size]? = some (.cells #[.int .i64 0] 3 (0, 0)) := by rw [ew0, Below.heap_alloc _ _ _ (by simp), heap_alloc_new]
  have g1 : w0.heap[w.heap.size + 1]? = some (.cells #[.nilFunc] 145 (0, 0)) := by rw [ew0, ← hs1, heap_alloc_new]
  have kb0 : Below w.heap.size w w0 := by rw [ew0]; exact ((Below.refl _ _).alloc (Nat.le_refl _) _).alloc (by simp) _
  have y0 : ((w.alloc (.cells #[.int .i64 0] 3)).alloc (.cells #[.nilFunc] 145)).cell? ⟨w.heap.size + 1, 0, none⟩ = some .nilFunc := by rw [← ew0, heap_cell g1]; rfl
  have y1 : ((w.alloc (.cells #[.int .i64 0] 3)).alloc (.cells #[.nilFunc] 145)).frozen? ⟨w.heap.size + 1, 0, none⟩ = false := by rw [← ew0]; exact heap_free g1 0
  obtain ⟨wa, ewa⟩ : ∃ wa, wa = (w.alloc (.cells #[.int .i64 0] 3)).alloc (.cells #[.func (.func 86) #[] #[.pointer (some ⟨w.heap.size, 0, none⟩), .pointer (some ⟨w.heap.size + 1, 0, none⟩)]] 145) := ⟨_, rfl⟩
  have kb : Below w.heap.size w wa := by rw [ewa]; exact ((Below.refl _ _).alloc (Nat.le_refl _) _).alloc (by simp) _
  have wk : Wk wa w.heap.size (w.heap.size + 1) 0 := by
    rw [ewa]
    refine ⟨?_, ?_, by omega⟩
    · rw [Below.heap_alloc _ _ _ (by simp), heap_alloc_new]; rfl
    · rw [← hs1, heap_alloc_new]
  have WK := Lib.hid wk
  have KB := Lib.hid kb
  have EWA := Lib.hid ewa
  clear wk kb ewa hs1 g0 g1 kb0 ew0
  go_enter Try.func61, Try.ntmps61
  go_wp2_with (fail)

  rw [← EWA.out]
  refine (walk_c f.size f rfl 1 0 (by omega) (by omega) (fun h => by omega) (by omega) _ A n c wa _ _ HN.out (H1.out.below KB.out) (fun j hj => Nat.ne_of_lt hj) hl WK.out).mono ?_
  rintro _ w1 ⟨c1, rfl, hc1, hw1, hg1⟩
  have hk1 : Below w.heap.size w w1 := KB.out.grown hg1 KB.out.size (fun j hj => by injection hj with hj; omega)
  have K1 := Lib.hid hk1
  obtain ⟨E, eE⟩ : ∃ E, E = scanF (fullR f 1 0) 0 := ⟨_, rfl⟩
  rw [← eE]
  have EE := Lib.hid eE
  clear eE hc1 hw1 hg1 hk1
  by_cases hE : E = 0
  · have hz : scanF (fullR f 1 0) 0 = 0 := by rw [← EE.out]; exact hE
    obtain ⟨gd, sz⟩ := check_scan hz
    have HZ := Lib.hid hz
    have GD := Lib.hid gd
    have ed : (E != 0) = false := by rw [hE]; rfl
    clear hz gd hE
    go_wp2_with (fail)
    refine (lay_c f.size f rfl GD.out (by omega) _ A n c w1 HN.out (H1.out.below K1.out) hl).mono ?_
    rintro _ w2 ⟨v2, rfl, ho2, hk2⟩
    obtain ⟨A2, c2, rfl, -, -, -, -⟩ := OwnB.form ho2
    obtain ⟨l2, el2⟩ : ∃ l2, l2 = (layL f).length := ⟨_, rfl⟩
    rw [← el2]
    have EL2 := Lib.hid el2
    have K2 := Lib.hid (K1.out.trans (hk2.mono K1.out.size))
    clear el2 ho2 hk2
    by_cases h4 : 4096 < l2
    · have h4' : (4096 : Int) < (l2 : Int) := by omega
      have e := Lib.hid (show C = 4 by rw [HC.out, checkF, HZ.out, if_neg (by simp), if_pos (by rw [← EL2.out]; exact h4)])
      go_wp2_with (fail)
      go_ret
      exact ⟨by rw [e.out]; rfl, K2.out⟩
    · have h4' : (l2 : Int) ≤ 4096 := by omega
      have e := Lib.hid (show C = 0 by rw [HC.out, checkF, HZ.out, if_neg (by simp), if_neg (by rw [← EL2.out]; exact h4)])
      go_wp2_with (fail)
      go_ret
      exact ⟨by rw [e.out]; rfl, K2.out⟩
  · have ed : (E != 0) = true := by simpa using hE
    have e := Lib.hid (show C = E by rw [HC.out, checkF, ← EE.out, if_pos hE])
    clear hE
    go_wp2_with (fail)
    go_ret
    exact ⟨by rw [e.out]; rfl, K1.out⟩
end Go.Proofs.Ytcffinkkfdfcaaa
