/- Parts one behind the other: What the reference's Padded answers; A store of one cell, the world left open: what is known of the block goes on; What the reference's Sum answers: the same as sha.Sum; A sum as one value: held against another one; the two sums of the chapter's example, worked out; Copy and Same of the first reference: bytes copied, bytes held against each other; What the laws on sums call: the fixed example, the size, all held against all; The reference's Same of items: the same items are the same; Plain law: how numbers are laid as bytes; no program in sight; What the layer wire's and its reference's Var answer: a number laid by as few bytes as can be; What the layer wire's and its reference's Num answer: a number by so many bytes, the highest first; What the reader of the layer wire does: its small methods; What the reader of the layer wire does: Var; What the reader of the layer wire does: Num and Take; What the reader of the layer wire does: Take and Text; What the reference's reader does: the same as the layer's; Plain law: what is read as a number is just what is laid for it, and the other way round; What the reference's reader does: Var, Take, Text, End. Conditions: as told at each. -/
import Derived.Test.YtgnciejbhaebeaaPTlvUnknown1
import Derived.Deep.MidRow
import Derived.DeepKeys
import Derived.Lib.SlBytesConst
import Derived.Lib.SmallJoins
import Derived.WalkKit
import Derived.Laws.BitsAllLaws
import Derived.StillTailTactics

/- What the reference's Padded answers. Conditions: the length fits. -/
namespace Go.Proofs.Ytgnciejbhaebeaa
open Go Go.RowKit

theorem be8_val2 (n t : Nat) (h : t ≤ 7) (s : Nat) (hs : s = 56 - 8 * t) : Value.int .u8 ((n : Int) * 8 / 2 ^ s % 256) = bv (lo8 (8 * n / 256 ^ (7 - t))) := by
  unfold bv
  rw [lo8_nat, show (256 : Nat) ^ (7 - t) = 2 ^ s by rw [hs, show 56 - 8 * t = 8 * (7 - t) by omega, Nat.pow_mul], Nat.mul_comm 8 n]
  congr 1
def sliceLen2 : Value → Nat
  | .slice _ n _ => n
  | _ => 0

end Go.Proofs.Ytgnciejbhaebeaa

/- A store of one cell, the world left open: what is known of the block goes on. Conditions: none. -/
namespace Go.Proofs.Ytgnciejbhaebeaa
open Go Go.RowKit

theorem run_put1 {P : Program} (w : World) (b o : Nat) (ty : TypeId) (v : Value) (ht : w.there b o 1) (hi : (P.info? ty).map (·.size) = some 1) (h1 : v.oneCell' = true) :
    (storeVar ty ⟨b, o, none⟩ v).run P w = .ok () (w.setCells b o [v]) := by
  have := run_storeCells_cells (P := P) b o [v] 0 w (fun j hj => by simpa using (ht j (by simpa using hj)).1) (fun j hj => by simpa using (ht j (by simpa using hj)).2) (fun x hx => by simp at hx; subst hx; exact h1)
  have hc : v.cells = #[v] := by cases v <;> first | rfl | cases h1
  cases hq : P.info? ty with
  | none => simp [hq] at hi
  | some i =>
    have hs : i.size = 1 := by simpa [hq] using hi
    simp only [Nat.add_zero] at this
    simp [storeVar, sizeOf, typeInfo, hq, hc, hs, this]
theorem there_one {w : World} {g i : Nat} {cs : Array Value} {t : TypeId} (h : w.heap[g]? = some (.cells cs t (0, 0))) (hi : i < cs.size) : w.there g i 1 := by
  intro j hj
  obtain rfl : j = 0 := by omega
  rw [Nat.add_zero]
  exact ⟨by rw [heap_cell h, Array.getElem?_eq_getElem hi]; rfl, heap_free h i⟩
/-- A store of one cell into a block that is known whole. -/
theorem wpList_put1 {P : Program} (w : World) {ops : Array Oper} {rest : List Oper} {o : Oper} {a : Act} {Q : Exit → Act → World → Prop} (hgd : o.guard = none) (ty : TypeId) (x y : Operand) (ho : o.op = .store ty x y)
    (g i : Nat) (v : Value) (hx : a.eval x = .pointer (some ⟨g, i, none⟩)) (hy : a.eval y = v) (t : TypeId) (cs : Array Value) (hB : w.heap[g]? = some (.cells cs t (0, 0))) (hi : i < cs.size)
    (hs : (P.info? ty).map (·.size) = some 1) (h1 : v.oneCell' = true)
    (h : ∀ w', w'.heap[g]? = some (.cells (cs.setIfInBounds i v) t (0, 0)) → w.grownBy w' (some g) → wpList P ops Q rest (a.put o.dst undef) w') : wpList P ops Q (o :: rest) a w := by
  refine wpList_plain hgd fun K hK => ?_
  unfold Oper.wp execOp
  simp only [ho, hx, hy, Instr.storeAt, Instr.sureAddr, Sem.run_bind, Sem.run_pure, Result.andThen_ok, run_put1 w g i ty v (there_one hB hi) hs h1]
  refine hK _ _ (h _ ?_ ?_)
  · exact heap_set hB i v
  · exact only_set g i v
theorem info_b : (Try.prog.info? 5).map (·.size) = some 1 := by kernel_rfl
theorem wpList_putB (w : World) {ops : Array Oper} {rest : List Oper} {o : Oper} {a : Act} {Q : Exit → Act → World → Prop} (hgd : o.guard = none) (x y : Operand) (ho : o.op = .store 5 x y)
    (g i : Nat) (b : UInt8) (hx : a.eval x = .pointer (some ⟨g, i, none⟩)) (hy : a.eval y = bv b) (t : TypeId) (l : List UInt8) (hB : Bs w g t l) (hi : i < l.length)
    (h : ∀ w', Bs w' g t (l.set i b) → w.grownBy w' (some g) → wpList Try.prog ops Q rest (a.put o.dst undef) w') : wpList Try.prog ops Q (o :: rest) a w := by
  refine wpList_put1 w hgd 5 x y ho g i (bv b) hx hy t _ hB (by simpa using hi) info_b rfl fun w' h1 h2 => h w' ?_ h2
  unfold Bs
  rw [h1, List.map_set]
  simp
theorem far_cell {w w' : World} {r g i : Nat} {v : Value} (hg : w.grownBy w' (some r)) (hc : w.cell? ⟨g, i, none⟩ = some v) (hne : r ≠ g) : w'.cell? ⟨g, i, none⟩ = some v :=
  (World.cell?_of_block (w := w) (a := ⟨g, i, none⟩) (hg.block g (World.block_lt_of_cell? w ⟨g, i, none⟩ hc) (fun e => hne (by injection e with e; exact e.symm)))).trans hc
end Go.Proofs.Ytgnciejbhaebeaa

/- What the reference's Sum answers: the same as sha.Sum. Conditions: the parts' lengths fit. -/
namespace Go.Proofs.Ytgnciejbhaebeaa
open Go Go.RowKit
attribute [local go_sem] wv_store bv_store bv_conv wv_conv wv_cells bv_cells no_cells wv_cellsOf bv_cellsOf wv_quo24 wv_quo16 wv_quo8

theorem outP_four (h : List (BitVec 32)) (t : Nat) :
    (((((outP h (4 * t)).set (4 * t) (wb (getW h t >>> 24))).set (4 * t + 1) (wb (getW h t >>> 16))).set (4 * t + 2) (wb (getW h t >>> 8))).set (4 * t + 3) (wb (getW h t))) = outP h (4 * (t + 1)) := by
  rw [show 4 * (t + 1) = 4 * t + 1 + 1 + 1 + 1 by omega]
  simp only [outP, outB]
  rw [show 4 * t / 4 = t by omega, show (4 * t + 1) / 4 = t by omega, show (4 * t + 1 + 1) / 4 = t by omega, show (4 * t + 1 + 1 + 1) / 4 = t by omega]
  rw [show 24 - 8 * (4 * t % 4) = 24 by omega, show 24 - 8 * ((4 * t + 1) % 4) = 16 by omega, show 24 - 8 * ((4 * t + 1 + 1) % 4) = 8 by omega, show 24 - 8 * ((4 * t + 1 + 1 + 1) % 4) = 0 by omega]
  rw [BitVec.ushiftRight_zero]
theorem ownsNew (w : World) (o : Obj) : OwnB ((w.alloc o).alloc (.cells #[] 5)) (w.heap.size + 1) (.slice (some ⟨w.heap.size + 1, 0, none⟩) 0 0) ([] : List UInt8) := by
  have h : OwnB ((w.alloc o).alloc (.cells #[] 5)) (w.heap.size + 1) (.slice (some ⟨(w.alloc o).heap.size, 0, none⟩) 0 0) ([] : List UInt8) := World.ownsRow_made (w.alloc o) #[] 0 (by simp) (Nat.zero_le _) rfl
  rw [World.size_alloc] at h
  exact h
end Go.Proofs.Ytgnciejbhaebeaa

/- A sum as one value: held against another one; the two sums of the chapter's example, worked out. Conditions: none. -/
namespace Go.Proofs.Ytgnciejbhaebeaa
open Go Go.RowKit

def bl (b : UInt8) : Lit := .int .u8 (b.toNat : Int)
theorem bl_inj {x y : UInt8} (h : bl x = bl y) : x = y := by
  simp only [bl, Lit.int.injEq, true_and] at h
  exact UInt8.toNat_inj.1 (by omega)
theorem bl_map {a b : List UInt8} (h : a.map bl = b.map bl) : a = b := by
  induction a generalizing b with
  | nil => cases b with
    | nil => rfl
    | cons y b => simp at h
  | cons x a ih => cases b with
    | nil => simp at h
    | cons y b =>
      simp only [List.map_cons, List.cons.injEq] at h
      rw [bl_inj h.1, ih h.2]
theorem mapM_range {α : Type} (n : Nat) (f : Nat → Option α) (g : Nat → α) (h : ∀ i, i < n → f i = some (g i)) : (List.range n).mapM f = some ((List.range n).map g) := by
  have go : ∀ (is : List Nat), (∀ i ∈ is, i < n) → is.mapM f = some (is.map g) := by
    intro is
    induction is with
    | nil => intro _; rfl
    | cons i is ih =>
      intro hi
      rw [List.mapM_cons, h i (hi i (by simp)), ih (fun j hj => hi j (by simp [hj]))]
      rfl
  exact go _ (fun i hi => List.mem_range.1 hi)
theorem flat1 {α : Type} (g : Nat → α) (is : List Nat) : (is.map fun i => [g i]).flatten = is.map g := by
  induction is with
  | nil => rfl
  | cons i is ih => rw [List.map_cons, List.flatten_cons, ih]; rfl
theorem cells_u8 : Try.prog.cellsOf 5 = 1 := by kernel_rfl
/-- The sum of bytes, as one value. -/
def sumV (b : List UInt8) : Value := .agg ((sumL b).map bv).toArray
set_option maxRecDepth 100000 in
theorem sum_none : (sumL [])[0]? = some 0xe3 ∧ (sumL [])[31]? = some 0x55 := by decide +kernel
set_option maxRecDepth 100000 in
theorem sum_abc : (sumL [97, 98, 99])[0]? = some 0xba ∧ (sumL [97, 98, 99])[1]? = some 0x78 ∧ (sumL [97, 98, 99])[31]? = some 0xad := by decide +kernel
end Go.Proofs.Ytgnciejbhaebeaa

/- Copy and Same of the first reference: bytes copied, bytes held against each other. Conditions: lengths that fit. -/
namespace Go.Proofs.Ytgnciejbhaebeaa
open Go Go.RowKit

def sameB (xs ys : List UInt8) : Bool := decide (xs = ys)
/-! ### Copy -/
set_option maxRecDepth 100000 in
set_option maxHeartbeats 400000 in
theorem Copy_c (A : Option Addr) (n c : Nat) (bs : List UInt8) (w : World) (hn : bs.length = n) (hr : Rd w A (bs.map bv)) (hl : n ≤ 140737488355328) :
    Calls Try.prog 47 #[.slice A n c] w fun e w' => ∃ v, e = .returned v ∧ OwnB w' w.heap.size v bs ∧ Below w.heap.size w w' := by
  have HN := Lib.hid hn; clear hn
  go_enter Try.func47, Try.ntmps47
  go_wp2_with (first | (at_make; refine wpList_makeB _ rfl (.tmp 5) (.tmp 5) rfl _ _ _ _ n rfl rfl rfl rfl hl ?_))
  intro w1 h1 h2 h3
  go_wp2_with (with_reducible refine wpList_copyB _ rfl (.tmp 7) (.tmp 8) rfl w.heap.size w.heap.size n n _ rfl h1 A n c bs rfl HN.out (hr.below h2) ?_; intro w2 h4 h5 _; have H4 := Lib.hid h4; clear h4)
  go_wp2
  go_ret
  refine ⟨_, rfl, ?_, h2.trans h5⟩
  have e : List.take n bs ++ List.drop n (List.replicate n 0) = bs := by
    rw [List.take_of_length_le (by rw [HN.out]; exact Nat.le_refl _), List.drop_of_length_le (by simp), List.append_nil]
  have h4 := H4.out
  rw [e] at h4
  exact h4

/-! ### Same -/
theorem take_succ_eq {xs ys : List UInt8} {k : Nat} (h : xs.take k = ys.take k) (hx : k < xs.length) (hy : k < ys.length) (he : xs[k] = ys[k]) : xs.take (k + 1) = ys.take (k + 1) := by
  rw [List.take_succ_eq_append_getElem hx, List.take_succ_eq_append_getElem hy, h, he]
theorem bv_bne {x y : UInt8} : (((x.toNat : Int) != (y.toNat : Int)) = true) ↔ x ≠ y := by
  rw [bne_iff_ne]
  constructor
  · rintro h rfl; exact h rfl
  · intro h e; exact h (UInt8.toNat_inj.1 (by omega))
theorem bv_bne_f {x y : UInt8} : (((x.toNat : Int) != (y.toNat : Int)) = false) ↔ x = y := by
  constructor
  · intro h
    apply Classical.byContradiction
    intro hn
    rw [bv_bne.2 hn] at h
    cases h
  · rintro rfl; simp

set_option maxRecDepth 100000 in
set_option maxHeartbeats 400000 in
theorem Same_c (A1 A2 : Option Addr) (n1 n2 c1 c2 : Nat) (xs ys : List UInt8) (w : World) (l1 : xs.length = n1) (l2 : ys.length = n2) (h1 : Rd w A1 (xs.map bv)) (h2 : Rd w A2 (ys.map bv)) (m1 : n1 ≤ maxLen) :
    Calls Try.prog 21 #[.slice A1 n1 c1, .slice A2 n2 c2] w fun e w' => e = .returned (.bool (sameB xs ys)) ∧ ∃ q, w' = w.drewN q := by
  unfold maxLen at m1
  by_cases hne : n1 = n2
  · subst hne
    rcases Nat.eq_zero_or_pos n1 with h0 | h0
    · subst h0
      have e1 : sameB xs ys = true := by rw [List.eq_nil_of_length_eq_zero l1, List.eq_nil_of_length_eq_zero l2]; rfl
      rw [e1]
      go_enter Try.func21, Try.ntmps21
      go_wp2
      go_loopw [13] (fun i wr => i = .int .i64 (0 : Nat) ∧ wr = w) (fun i _ => 0)
      case atStart => exact ⟨rfl, rfl⟩
      case round =>
        obtain ⟨rfl, rfl⟩ := hrel
        go_wp2
        go_ret
        exact ⟨rfl, 0, rfl⟩
    · obtain ⟨b1, o1, rfl, _, g1⟩ := h1.addrB (by omega)
      obtain ⟨b2, o2, rfl, _, g2⟩ := h2.addrB (by omega)
      have H1 : Hid (∀ k (h : k < xs.length), w.cell? ⟨b1, o1 + k, none⟩ = some (bv xs[k])) := g1
      have H2 : Hid (∀ k (h : k < ys.length), w.cell? ⟨b2, o2 + k, none⟩ = some (bv ys[k])) := g2
      clear g1 g2 h1 h2
      have L1 := Lib.hid l1; clear l1
      have L2 := Lib.hid l2; clear l2
      go_enter Try.func21, Try.ntmps21
      go_wp2
      go_loopw [13] (fun i wr => ∃ k : Nat, k ≤ n1 ∧ i = .int .i64 k ∧ (∃ q, wr = w.drewN q) ∧ xs.take k = ys.take k) (fun i _ => n1 - (intOf i).toNat)
      case atStart => exact ⟨0, Nat.zero_le _, rfl, ⟨0, rfl⟩, rfl⟩
      case round =>
        obtain ⟨k, hk, rfl, ⟨q, rfl⟩, ht⟩ := hrel
        have HT := Lib.hid ht; clear ht
        by_cases hlt : k < n1
        · have hx : k < xs.length := by rw [L1.out]; exact hlt
          have hy : k < ys.length := by rw [L2.out]; exact hlt
          obtain ⟨x, ex⟩ : ∃ x, x = xs[k] := ⟨_, rfl⟩
          obtain ⟨y, ey⟩ : ∃ y, y = ys[k] := ⟨_, rfl⟩
          have c1 : w.cell? ⟨b1, o1 + k, none⟩ = some (.int .u8 (x.toNat : Int)) := by rw [ex]; exact H1.out k hx
          have c2 : w.cell? ⟨b2, o2 + k, none⟩ = some (.int .u8 (y.toNat : Int)) := by rw [ey]; exact H2.out k hy
          have EX := Lib.hid ex; clear ex
          have EY := Lib.hid ey; clear ey
          by_cases hxy : x = y
          · have hb := bv_bne_f.2 hxy
            have HXY := Lib.hid hxy; clear hxy
            go_wp2
            go_quiet (fail)
            go_wp2
            go_roundw
            case rel => exact ⟨k + 1, by omega, by go_num, ⟨_, rfl⟩, take_succ_eq HT.out (by rw [L1.out]; exact hlt) (by rw [L2.out]; exact hlt) (by rw [← EX.out, ← EY.out]; exact HXY.out)⟩
            case measure => simp [intOf]; omega
          · have hb := bv_bne.2 hxy
            have HXY := Lib.hid hxy; clear hxy
            have e1 : sameB xs ys = false := by
              unfold sameB
              refine decide_eq_false fun e => HXY.out ?_
              subst e
              rw [EX.out, EY.out]
            go_wp2
            go_quiet (fail)
            go_wp2
            go_ret
            exact ⟨by rw [e1]; rfl, _, World.drewN_drewN _ _ _⟩
        · obtain rfl : k = n1 := by omega
          have e1 : sameB xs ys = true := by
            unfold sameB
            refine decide_eq_true ?_
            have := HT.out
            rw [List.take_of_length_le (by rw [L1.out]; exact Nat.le_refl _), List.take_of_length_le (by rw [L2.out]; exact Nat.le_refl _)] at this
            exact this
          go_wp2
          go_ret
          exact ⟨by rw [e1]; rfl, _, rfl⟩
  · have hb : ((n1 : Int) != (n2 : Int)) = true := by rw [bne_iff_ne]; omega
    have e1 : sameB xs ys = false := by
      unfold sameB
      refine decide_eq_false fun e => hne ?_
      rw [← l1, ← l2, e]
    rw [e1]
    clear e1
    have L1 := Lib.hid l1; clear l1
    have L2 := Lib.hid l2; clear l2
    go_enter Try.func21, Try.ntmps21
    go_wp2
    go_ret
    exact ⟨rfl, 0, rfl⟩
theorem sameB_true {xs ys : List UInt8} (h : xs = ys) : sameB xs ys = true := decide_eq_true h
theorem Same_t (A1 A2 : Option Addr) (n1 n2 c1 c2 : Nat) (xs : List UInt8) (w : World) (l1 : xs.length = n1) (l2 : xs.length = n2) (h1 : Rd w A1 (xs.map bv)) (h2 : Rd w A2 (xs.map bv)) (m1 : n1 ≤ maxLen) :
    Calls Try.prog 21 #[.slice A1 n1 c1, .slice A2 n2 c2] w fun e w' => e = .returned (.bool true) ∧ ∃ q, w' = w.drewN q := by
  have h := Same_c A1 A2 n1 n2 c1 c2 xs xs w l1 l2 h1 h2 m1
  rw [sameB_true rfl] at h
  exact h
end Go.Proofs.Ytgnciejbhaebeaa

/- What the laws on sums call: the fixed example, the size, all held against all. Conditions: the table stands. -/
namespace Go.Proofs.Ytgnciejbhaebeaa
open Go Go.RowKit
theorem sumV_agg (b : List UInt8) : sumV b = .agg ((sumL b).map bv).toArray := rfl
theorem get_of (l : List UInt8) (i : Nat) (x : UInt8) (h : l[i]? = some x) : getB l i = x := by simp [getB, List.getD, h]
theorem z32_len : (List.replicate 32 (0 : UInt8)).length = 32 := rfl

theorem conv_const (w : World) (C : Array Value) (n c : Nat) : (convert 27 27 (.slice (some ⟨w.heap.size, 0, none⟩) n c)).run Try.prog (w.alloc (.cells C 5)) = .ok (.slice (some ⟨w.heap.size, 0, none⟩) n c) (w.alloc (.cells C 5 (C.size, C.size + 1))) :=
  Lib.run_convert_bytes_const w 27 5 C n c Try.underlying27 Try.underlying5
theorem Rd.litM (w : World) (vs : List Value) (t : TypeId) (fr : Nat × Nat) : Rd (w.alloc (.cells vs.toArray t fr)) (some ⟨w.heap.size, 0, none⟩) vs := by
  refine .inr ⟨w.heap.size, 0, rfl, by simp, fun k hk => ?_⟩
  rw [Nat.zero_add, World.cell?_alloc_mark]
  simp

theorem RdS_one (w : World) (A : Option Addr) (n c : Nat) (b : List UInt8) (t : TypeId) (hn : b.length = n) (hr : Rd w A (b.map bv)) (h1 : n ≤ c) (h2 : c ≤ maxLen) :
    RdS (w.alloc (.cells #[.slice A n c] t)) (some ⟨w.heap.size, 0, none⟩) [b] := by
  refine .inr ⟨w.heap.size, 0, rfl, by simp, fun k hk => ?_⟩
  obtain rfl : k = 0 := by simp at hk; omega
  refine ⟨A, c, ?_, hr.alloc _, by simpa [hn] using h1, h2⟩
  rw [cell_of_row _ _ 0 _ _ (0, 0) (heap_alloc_new w _)]
  simp [hn]
attribute [local go_sem] conv_const

/-! ### The size -/
def SzOk (bss : List (List UInt8)) (e : Ending) : Prop := ∃ r : Int, e = .returned (.int .i64 r) ∧ 0 ≤ r ∧ r ≤ 9000000000000000000 ∧ (r ≤ 16384 → bss.flatten.length ≤ 16384)
/-! ### All held against all -/
theorem Same_q (A1 A2 : Option Addr) (n c1 c2 : Nat) (xs : List UInt8) (w : World) (l1 : xs.length = n) (h1 : Rd w A1 (xs.map bv)) (h2 : Rd w A2 (xs.map bv)) (m1 : n ≤ maxLen) (q m : Nat) :
    Calls Try.prog 21 #[.slice A1 n c1, .slice A2 n c2] (w.drewN (q + m)) fun e w' => e = .returned (.bool true) ∧ ∃ k, w' = w.drewN (q + k) :=
  (Same_t A1 A2 n n c1 c2 xs (w.drewN (q + m)) l1 l1 (h1.drewN _) (h2.drewN _) m1).mono fun _ _ ⟨he, q', hw⟩ => ⟨he, m + q', by rw [hw, World.drewN_drewN, Nat.add_assoc]⟩
/-- A literal slice of slices in a new block. -/
theorem RdS_lit (w : World) (ps : List (Option Addr × Nat × Nat)) (bss : List (List UInt8)) (t : TypeId) (hl : ps.length = bss.length)
    (h : ∀ x ∈ ps.zip bss, x.2.length = x.1.2.1 ∧ Rd w x.1.1 (x.2.map bv) ∧ x.1.2.1 ≤ x.1.2.2 ∧ x.1.2.2 ≤ maxLen) :
    RdS (w.alloc (.cells (ps.map fun p => Value.slice p.1 p.2.1 p.2.2).toArray t)) (some ⟨w.heap.size, 0, none⟩) bss := by
  refine .inr ⟨w.heap.size, 0, rfl, by simp, fun k hk => ?_⟩
  have hk' : k < ps.length := by omega
  have hz : k < (ps.zip bss).length := by simp; omega
  obtain ⟨h1, h2, h3, h4⟩ := h _ (List.getElem_mem hz)
  simp only [List.getElem_zip] at h1 h2 h3 h4
  refine ⟨ps[k].1, ps[k].2.2, ?_, h2.alloc _, by omega, h4⟩
  rw [Nat.zero_add, cell_of_row _ _ k _ _ (0, 0) (heap_alloc_new w _), h1]
  simp [hk']
end Go.Proofs.Ytgnciejbhaebeaa

/- The reference's Same of items: the same items are the same. Conditions: items that can be read. -/
namespace Go.Proofs.Ytgnciejbhaebeaa
open Go Go.RowKit

/-- One item. -/
theorem FoR.one {ok : Nat → Prop} {w : World} {A : Option Addr} {i : Nat} {k : Int} {cr li : Bool} {bs : List UInt8} {sub rest : Fo} (h : FoR ok w A i (.cons k cr li bs sub rest)) : (∃ b off At n c As d, A = some ⟨b, off, none⟩ ∧ b < w.heap.size ∧ ok b ∧
      (w.cell? ⟨b, off + i * 5, none⟩ = some (.int .i64 k) ∧ w.cell? ⟨b, off + i * 5 + 1, none⟩ = some (.bool cr) ∧ w.cell? ⟨b, off + i * 5 + 2, none⟩ = some (.bool li) ∧
       w.cell? ⟨b, off + i * 5 + 3, none⟩ = some (.slice At n c) ∧ w.cell? ⟨b, off + i * 5 + 4, none⟩ = some (.slice As sub.len d)) ∧
      TxtR ok w At n c bs ∧ FoR ok w As 0 sub ∧ sub.len ≤ d ∧ d ≤ maxLen ∧ sub.len ≤ 2199023255488) ∧ FoR ok w A (i + 1) rest := h

set_option maxRecDepth 100000 in
set_option maxHeartbeats 4000000 in
theorem Same02_t : ∀ (M : Nat) (f : Fo), f.size ≤ M → ∀ (ok1 ok2 : Nat → Prop) (A1 A2 : Option Addr) (n c1 c2 : Nat) (w : World), f.len = n → FoR ok1 w A1 0 f → FoR ok2 w A2 0 f → n ≤ 2199023255488 →
    Calls Try.prog 46 #[.slice A1 n c1, .slice A2 n c2] w fun r w' => r = .returned (.bool true) ∧ ∃ q, w' = w.drewN q := by
  intro M
  induction M with
  | zero =>
    intro f hM ok1 ok2 A1 A2 n c1 c2 w hn h1 h2 hl
    cases f with
    | cons k cr li bs sub rest => simp [Fo.size] at hM
    | nil =>
      obtain rfl : n = 0 := hn.symm
      go_enter Try.func46, Try.ntmps46
      go_wp2_with (fail)
      go_loopw [13] (fun i wr => i = .int .i64 0 ∧ wr = w) (fun _ _ => 0)
      case atStart => exact ⟨rfl, rfl⟩
      case round =>
        obtain ⟨rfl, rfl⟩ := hrel
        go_wp2_with (fail)
        go_ret
        exact ⟨rfl, 0, rfl⟩
  | succ M ih =>
    intro f hM ok1 ok2 A1 A2 n c1 c2 w hn h1 h2 hl
    have IH := Lib.hid ih; clear ih
    have HN := Lib.hid hn; clear hn
    have H1 := Lib.hid h1; clear h1
    have H2 := Lib.hid h2; clear h2
    have HM := Lib.hid hM; clear hM
    have nn : ((n : Int) != (n : Int)) = false := by simp
    go_enter Try.func46, Try.ntmps46
    go_wp2_with (fail)
    go_loopw [13] (fun i wr => ∃ (k : Nat) (r : Fo), i = .int .i64 k ∧ Hid (k + r.len = n) ∧ Hid (FoR ok1 w A1 k r) ∧ Hid (FoR ok2 w A2 k r) ∧ Hid (r.size ≤ f.size) ∧ ∃ q, wr = w.drewN q) (fun i _ => n - (intOf i).toNat)
    case atStart => exact ⟨0, f, rfl, Lib.hid (by rw [HN.out]; omega), H1, H2, Lib.hid (Nat.le_refl _), 0, rfl⟩
    case round =>
      obtain ⟨k, r, rfl, HK, R1, R2, HS, q, rfl⟩ := hrel
      cases r with
      | nil =>
        have hk : k = n := HK.out
        have hk' : (n : Int) ≤ (k : Int) := by omega
        clear hk
        go_wp2_with (fail)
        go_ret
        exact ⟨rfl, q, rfl⟩
      | cons z cr li bs sub rest =>
        obtain ⟨⟨b1, o1, At1, m1, cm1, As1, e1, rfl, hb1, -, ⟨x0, x1, x2, x3, x4⟩, t1, s1, l1, l2, l3⟩, r1⟩ := R1.out.one
        obtain ⟨⟨b2, o2, At2, m2, cm2, As2, e2, rfl, hb2, -, ⟨y0, y1, y2, y3, y4⟩, t2, s2, -, -, -⟩, r2⟩ := R2.out.one
        obtain ⟨g1, g2, g3, g4, -, g5⟩ := t1
        obtain ⟨g1', g2', -, -, -, -⟩ := t2
        obtain rfl : m1 = m2 := g1.symm.trans g1'
        have hkn : k < n := by have := HK.out; simp only [Fo.len] at this; omega
        have hlt' : (k : Int) < (n : Int) := by omega
        have L1 := Lib.hid g1
        have Q : Hid (∀ q j, Calls Try.prog 46 #[.slice As1 sub.len e1, .slice As2 sub.len e2] (w.drewN (q + j)) fun e w' => e = .returned (.bool true) ∧ ∃ k, w' = w.drewN (q + k)) :=
          Lib.hid fun q j => (IH.out sub (by have := HS.out; have := HM.out; simp only [Fo.size] at *; omega) ok1 ok2 As1 As2 sub.len e1 e2 (w.drewN (q + j)) rfl (s1.drewN _) (s2.drewN _) l3).mono fun _ _ ⟨he, q', hw⟩ => ⟨he, j + q', by rw [hw, World.drewN_drewN, Nat.add_assoc]⟩
        have R1b := Lib.hid r1
        have R2b := Lib.hid r2
        obtain ⟨sl, esl⟩ : ∃ sl, sl = sub.len := ⟨_, rfl⟩
        rw [← esl] at x4 y4 Q
        have HSb : Hid (rest.size ≤ f.size) := Lib.hid (by have := HS.out; simp only [Fo.size] at this; omega)
        have HKb : Hid (k + 1 + rest.len = n) := Lib.hid (by have := HK.out; simp only [Fo.len] at this; omega)
        have n0 : (z != z) = false := by simp
        have n1 : (cr != cr) = false := by simp
        have n2 : (li != li) = false := by simp
        clear g1 g1' R1 R2 r1 r2 s1 s2 l1 l2 l3 HK HS esl
        go_wp2
        go_quiet (first
          | (go_at_call 21; exact Same_q At1 At2 m1 cm1 cm2 bs _ L1.out g2 g2' (by omega) _ _)
          | (go_at_call 46; exact Q.out _ _))
        go_wp2
        go_roundw
        case rel => exact ⟨k + 1, rest, by go_num, HKb, R1b, R2b, HSb, _, rfl⟩
        case measure => simp [intOf]; omega
end Go.Proofs.Ytgnciejbhaebeaa

/- Plain law: how numbers are laid as bytes; no program in sight. Conditions: none. -/
namespace Go.Proofs.Ytgnciejbhaebeaa
open Go Go.RowKit

/-- The lowest byte; a digit of 128 that is not the last. -/
def lo (n : Nat) : UInt8 := UInt8.ofNat n
def dig (n : Nat) : UInt8 := UInt8.ofNat (n % 128 + 128)
theorem lo_nat (n : Nat) : (lo n).toNat = n % 256 := by simp [lo]
theorem dig_nat (n : Nat) : (dig n).toNat = n % 128 + 128 := by
  simp only [dig, UInt8.toNat_ofNat']; omega
/-- A number by digits of 128, the lowest first. -/
def varL (n : Nat) : List UInt8 := if n < 128 then [lo n] else dig n :: varL (n / 128)
termination_by n
decreasing_by omega

theorem varL_lo {n : Nat} (h : n < 128) : varL n = [lo n] := by rw [varL, if_pos h]
theorem varL_hi {n : Nat} (h : 128 ≤ n) : varL n = dig n :: varL (n / 128) := by rw [varL, if_neg (by omega)]

theorem varL_len (k : Nat) : ∀ n, n < 128 ^ (k + 1) → (varL n).length ≤ k + 1 := by
  induction k with
  | zero => intro n h; rw [varL_lo (by simpa using h)]; simp
  | succ k ih =>
    intro n h
    by_cases h0 : n < 128
    · rw [varL_lo h0]; simp
    · rw [varL_hi (by omega), List.length_cons]
      have := ih (n / 128) (by rw [Nat.div_lt_iff_lt_mul (by decide)]; rw [Nat.pow_succ] at h; exact h)
      omega

def U64 (n : Nat) : Prop := n < 2 ^ 64
theorem U64.out {n : Nat} (h : U64 n) : n < 18446744073709551616 := h
theorem U64.le {n m : Nat} (h : U64 n) (hm : m ≤ n) : U64 m := Nat.lt_of_le_of_lt hm h
theorem u64_div {x : Nat} (h : U64 x) (d : Nat) : IntKind.u64.wrap ((x : Int) / (d : Int)) = (x : Int) / (d : Int) := by
  have h1 := h.out
  have h2 : x / d ≤ x := Nat.div_le_self _ _
  rw [← Int.natCast_ediv]
  generalize x / d = q at *
  simp only [IntKind.wrap_u64]; omega
theorem varL_len10 {n : Nat} (h : U64 n) : (varL n).length ≤ 10 := varL_len 9 n (Nat.lt_trans h (by decide))

theorem or128 (n : Nat) : (UInt8.ofNat n ||| 128) = dig n := by
  unfold dig
  apply UInt8.toNat_inj.1
  have h : ∀ a : Fin 256, a.val ||| 128 = a.val % 128 + 128 := by decide +kernel
  have h2 := h ⟨n % 256, by omega⟩
  simp only [] at h2
  simp only [UInt8.toNat_or, UInt8.toNat_ofNat']
  show n % 256 ||| 128 = _
  rw [h2]
  omega

/-- The size lowest bytes, the highest of them first. -/
def numL (n size : Nat) : List UInt8 := (List.range size).map fun i => lo (n / 256 ^ (size - 1 - i))
theorem numL_length (n size : Nat) : (numL n size).length = size := by simp [numL]

/-! ### Numbers read -/
inductive VR where
  | bad (e : Nat)
  | ok (n k : Nat)

/-- What bytes say as a number, the i-th of them first. -/
def varGo : List UInt8 → Nat → VR
  | [], _ => .bad 2
  | d :: l, i => if (i = 9 ∧ 1 < d.toNat) ∨ (0 < i ∧ d.toNat = 0) then .bad 3
    else if d.toNat < 128 then .ok d.toNat 1
    else match varGo l (i + 1) with
      | .bad e => .bad e
      | .ok n k => .ok (d.toNat % 128 + 128 * n) (k + 1)

def VR.after (x i : Nat) : VR → VR
  | .bad e => .bad e
  | .ok n k => .ok (x + 128 ^ i * n) (i + k)

theorem VR.after_zero (v : VR) : v.after 0 0 = v := by cases v <;> simp [VR.after]
theorem varGo_end {l : List UInt8} {i : Nat} (h : l.length ≤ i) (x : Nat) : (varGo (l.drop i) i).after x i = .bad 2 := by
  rw [List.drop_of_length_le h]; rfl
theorem varGo_form {l : List UInt8} {i : Nat} (h : i < l.length) (x : Nat) (hb : (i = 9 ∧ 1 < (l[i]).toNat) ∨ (0 < i ∧ (l[i]).toNat = 0)) : (varGo (l.drop i) i).after x i = .bad 3 := by
  rw [List.drop_eq_getElem_cons h, varGo, if_pos hb]; rfl
theorem varGo_last {l : List UInt8} {i : Nat} (h : i < l.length) (x : Nat) (hb : ¬ ((i = 9 ∧ 1 < (l[i]).toNat) ∨ (0 < i ∧ (l[i]).toNat = 0))) (hd : (l[i]).toNat < 128) :
    (varGo (l.drop i) i).after x i = .ok (x + 128 ^ i * (l[i]).toNat) (i + 1) := by
  rw [List.drop_eq_getElem_cons h, varGo, if_neg hb, if_pos hd]; rfl
theorem varGo_more {l : List UInt8} {i : Nat} (h : i < l.length) (x : Nat) (hb : ¬ ((i = 9 ∧ 1 < (l[i]).toNat) ∨ (0 < i ∧ (l[i]).toNat = 0))) (hd : 128 ≤ (l[i]).toNat) :
    (varGo (l.drop i) i).after x i = (varGo (l.drop (i + 1)) (i + 1)).after (x + 128 ^ i * ((l[i]).toNat % 128)) (i + 1) := by
  rw [List.drop_eq_getElem_cons h, varGo, if_neg hb, if_neg (by omega)]
  cases varGo (l.drop (i + 1)) (i + 1) with
  | bad e => rfl
  | ok n k =>
    simp only [VR.after, VR.ok.injEq]
    constructor
    · rw [Nat.mul_add, Nat.pow_succ, Nat.mul_assoc]; omega
    · omega

/-- The next digit is put by or. -/
theorem or_digit {x i d : Nat} (hx : x < 128 ^ i) : x ||| (d <<< (7 * i)) = x + 128 ^ i * d := by
  have e : 128 ^ i = 2 ^ (7 * i) := by rw [Nat.pow_mul]
  rw [e] at hx ⊢
  rw [Nat.shiftLeft_eq, Nat.or_comm, Nat.mul_comm d, ← Nat.two_pow_add_eq_or_of_lt hx]
  omega
theorem digit_lt {x i d : Nat} (hx : x < 128 ^ i) (hd : d < 128) : x + 128 ^ i * d < 128 ^ (i + 1) := by
  rw [Nat.pow_succ]
  have : 128 ^ i * d ≤ 128 ^ i * 127 := Nat.mul_le_mul_left _ (by omega)
  omega
theorem digit_u64 {x i d : Nat} (hi : i ≤ 9) (hx : x < 128 ^ i) (hd : d < 128) (h9 : i = 9 → d ≤ 1) : U64 (x + 128 ^ i * d) := by
  rcases Nat.lt_or_ge i 9 with h | h
  · exact Nat.lt_of_lt_of_le (digit_lt hx hd) (Nat.le_trans (Nat.pow_le_pow_right (by decide) (show i + 1 ≤ 9 by omega)) (by decide))
  · obtain rfl : i = 9 := by omega
    have := h9 rfl
    have h2 : 128 ^ 9 * d ≤ 128 ^ 9 * 1 := Nat.mul_le_mul_left _ this
    show _ < 2 ^ 64
    have h3 : (128 : Nat) ^ 9 + 128 ^ 9 * 1 ≤ 2 ^ 64 := by decide
    omega

def badD (i d : Nat) : Prop := (i = 9 ∧ 1 < d) ∨ (0 < i ∧ d = 0)
theorem varGo_form' {l : List UInt8} {i d : Nat} (h : i < l.length) (hd : d = (l[i]).toNat) (x : Nat) (hb : badD i d) : (varGo (l.drop i) i).after x i = .bad 3 := by
  subst hd; exact varGo_form h x hb
theorem varGo_last' {l : List UInt8} {i d : Nat} (h : i < l.length) (hd : d = (l[i]).toNat) (x : Nat) (hb : ¬ badD i d) (h8 : d < 128) : (varGo (l.drop i) i).after x i = .ok (x + 128 ^ i * (d % 128)) (i + 1) := by
  subst hd; rw [varGo_last h x hb h8, Nat.mod_eq_of_lt h8]
theorem varGo_more' {l : List UInt8} {i d : Nat} (h : i < l.length) (hd : d = (l[i]).toNat) (x : Nat) (hb : ¬ badD i d) (h8 : 128 ≤ d) : (varGo (l.drop i) i).after x i = (varGo (l.drop (i + 1)) (i + 1)).after (x + 128 ^ i * (d % 128)) (i + 1) := by
  subst hd; exact varGo_more h x hb h8

theorem and127 (d : Nat) (h : d < 256) : bits BinOp.and .u8 (d : Int) 127 = ((d : Int) % 128) := by
  rw [show (127 : Int) = ((127 : Nat) : Int) from rfl, u8_and_nat d 127 h (by decide)]
  rw [show (127 : Nat) = 2 ^ 7 - 1 from rfl, Nat.and_two_pow_sub_one_eq_mod]
  rfl
theorem or_walk {x k d : Nat} (hx : x < 128 ^ k) (hk : k ≤ 9) (h9 : k = 9 → d % 128 ≤ 1) (hu : U64 x) :
    bits BinOp.or .u64 (x : Int) (IntKind.u64.wrap ((d : Int) % 128 * 2 ^ (7 * k))) = ((x + 128 ^ k * (d % 128) : Nat) : Int) := by
  have h1 := digit_u64 (x := 0) hk (Nat.pow_pos (by decide)) (show d % 128 < 128 by omega) h9
  rw [Nat.zero_add] at h1
  have e : ((d : Int) % 128 * 2 ^ (7 * k)) = ((128 ^ k * (d % 128) : Nat) : Int) := by
    rw [show (128 : Nat) ^ k = 2 ^ (7 * k) by rw [Nat.pow_mul]]
    rw [Int.natCast_mul, Int.mul_comm]
    congr 1
  rw [e, IntWalk.u64_in _ ⟨by omega, by have := h1.out; omega⟩, u64_or_nat _ _ hu.out h1.out]
  congr 1
  have h2 := or_digit (d := d % 128) hx
  rw [Nat.shiftLeft_eq, Nat.mul_comm] at h2
  rw [show (128 : Nat) ^ k = 2 ^ (7 * k) by rw [Nat.pow_mul]] at h2 ⊢
  exact h2

/-- Bytes as a number, the highest first. -/
def beN (l : List UInt8) : Nat := l.foldl (fun a d => a * 256 + d.toNat) 0
theorem beN_snoc (l : List UInt8) (d : UInt8) : beN (l ++ [d]) = beN l * 256 + d.toNat := by simp [beN]
theorem beN_lt (l : List UInt8) : beN l < 256 ^ l.length := by
  rw [← List.reverse_reverse l]
  induction l.reverse with
  | nil => decide
  | cons d l ih =>
    rw [List.reverse_cons, beN_snoc, List.length_append, List.length_singleton, Nat.pow_succ]
    have := UInt8.toNat_lt d
    omega
theorem beN_u64 {l : List UInt8} (h : l.length ≤ 8) : U64 (beN l) :=
  Nat.lt_of_lt_of_le (beN_lt l) (Nat.le_trans (Nat.pow_le_pow_right (by decide) h) (by decide))
theorem or_byte (x d : Nat) (hd : d < 256) : (x * 256) ||| d = x * 256 + d := by
  rw [show (256 : Nat) = 2 ^ 8 from rfl, Nat.mul_comm] at *
  rw [Nat.two_pow_add_eq_or_of_lt hd]
theorem or_walk8 {x d : Nat} (hx : U64 (x * 256)) (hd : d < 256) : bits BinOp.or .u64 ((x : Int) * 256) (d : Int) = ((x * 256 + d : Nat) : Int) := by
  have h1 := u64_or_nat (x * 256) d hx.out (by omega)
  rw [Int.natCast_mul] at h1
  rw [show ((256 : Nat) : Int) = 256 from rfl] at h1
  rw [h1, or_byte x d hd]

theorem varGo_bd : ∀ (l : List UInt8) (i n k : Nat), i ≤ 9 → varGo l i = .ok n k → n < 2 ^ (64 - 7 * i) ∧ k ≤ l.length ∧ 1 ≤ k
  | [], _, _, _, _, h => by cases h
  | d :: l, i, n, k, hi, h => by
    rw [varGo] at h
    by_cases hb : (i = 9 ∧ 1 < d.toNat) ∨ (0 < i ∧ d.toNat = 0)
    · rw [if_pos hb] at h; cases h
    · rw [if_neg hb] at h
      by_cases h8 : d.toNat < 128
      · rw [if_pos h8] at h
        injection h with h1 h2
        subst h1; subst h2
        refine ⟨?_, by simp, by omega⟩
        rcases Nat.lt_or_ge i 9 with h9 | h9
        · exact Nat.lt_of_lt_of_le h8 (Nat.le_trans (show 128 ≤ 2 ^ 7 by decide) (Nat.pow_le_pow_right (by decide) (by omega)))
        · obtain rfl : i = 9 := by omega
          have : ¬ 1 < d.toNat := fun h => hb (.inl ⟨rfl, h⟩)
          show d.toNat < 2
          omega
      · rw [if_neg h8] at h
        have hi8 : i < 9 := by
          rcases Nat.lt_or_ge i 9 with h9 | h9
          · exact h9
          · exact absurd (.inl ⟨by omega, by omega⟩) hb
        cases hv : varGo l (i + 1) with
        | bad e => rw [hv] at h; cases h
        | ok n' k' =>
          rw [hv] at h
          injection h with h1 h2
          obtain ⟨g1, g2, g3⟩ := varGo_bd l (i + 1) n' k' (by omega) hv
          subst h1; subst h2
          refine ⟨?_, by simp; omega, by omega⟩
          have e : 2 ^ (64 - 7 * i) = 128 * 2 ^ (64 - 7 * (i + 1)) := by
            rw [show (128 : Nat) = 2 ^ 7 from rfl, ← Nat.pow_add]; congr 1; omega
          rw [e]
          omega
theorem varGo_u64 {l : List UInt8} {n k : Nat} (h : varGo l 0 = .ok n k) : U64 n ∧ k ≤ l.length ∧ 1 ≤ k := varGo_bd l 0 n k (by decide) h
theorem varGo_err {l : List UInt8} {i e : Nat} (h : varGo l i = .bad e) : e = 2 ∨ e = 3 := by
  induction l generalizing i with
  | nil => injection h with h; exact .inl h.symm
  | cons d l ih =>
    rw [varGo] at h
    split at h
    · injection h with h; exact .inr h.symm
    · split at h
      · cases h
      · cases hv : varGo l (i + 1) with
        | bad e' => rw [hv] at h; injection h with h; subst h; exact ih hv
        | ok _ _ => rw [hv] at h; cases h

end Go.Proofs.Ytgnciejbhaebeaa

/- What the layer wire's and its reference's Var answer: a number laid by as few bytes as can be. Conditions: a number of 64 bits. -/
namespace Go.Proofs.Ytgnciejbhaebeaa
open Go Go.RowKit

theorem varStep_hi {n x : Nat} {bs : List UInt8} (h : varL n = bs ++ varL x) (hx : 128 ≤ x) : varL n = (bs ++ [dig x]) ++ varL (x / 128) := by
  rw [h, varL_hi hx, List.append_assoc]; rfl
theorem varStep_len {n x : Nat} {bs : List UInt8} (hn : U64 n) (h : varL n = bs ++ varL x) : bs.length ≤ 10 := by
  have h1 := varL_len10 hn
  rw [h, List.length_append] at h1
  omega

theorem bits_or128 (x : Nat) : Value.int .u8 (bits BinOp.or .u8 (((x : Nat) : Int) % 256) 128) = bv (dig x) := by
  have h := u8_or_nat (x % 256) 128 (by omega) (by omega)
  rw [show ((x % 256 : Nat) : Int) = (x : Int) % 256 by omega] at h
  have h2 := congrArg UInt8.toNat (or128 x)
  simp only [UInt8.toNat_or, UInt8.toNat_ofNat'] at h2
  rw [show (128 : UInt8).toNat = 128 from rfl] at h2
  unfold bv
  rw [show ((128 : Int)) = ((128 : Nat) : Int) from rfl, h, show (256 : Nat) = 2 ^ 8 from rfl, h2]

theorem int_lo {x : Int} {n : Nat} (h : x = ((n % 256 : Nat) : Int)) : Value.int .u8 x = bv (lo n) := by rw [h, bv, lo_nat]

set_option maxRecDepth 100000 in
set_option maxHeartbeats 400000 in
theorem Var_c (n : Nat) (w : World) (hn : U64 n) :
    Calls Try.prog 84 #[.int .u64 n] w fun e w' => ∃ v, e = .returned v ∧ OwnB w' w.heap.size v (varL n) ∧ Below w.heap.size w w' := by
  go_enter Try.func84, Try.ntmps84
  go_wp2
  go_loopw [0, 3] (fun m v wr => ∃ (x : Nat) (bs : List UInt8), m = .int .u64 x ∧ varL n = bs ++ varL x ∧ U64 x ∧ OwnB wr w.heap.size v bs ∧ Below w.heap.size w wr) (fun m v _ => (intOf m).toNat)
  case atStart => exact ⟨n, [], rfl, rfl, hn, Own.nil_ _ _ _, Below.refl _ _⟩
  case round =>
    obtain ⟨x, bs, rfl, hv, hx, hown, hb⟩ := hrel
    have hl := varStep_len hn hv
    have hz := hb.size
    have HV := Lib.hid hv; clear hv
    rcases Int.lt_or_le (x : Int) 128 with hlt | hle
    · go_wp2_with (first | (at_builtin; refine wpList_appB1 _ rfl (.tmp 14) (.tmp 17) rfl w.heap.size _ bs rfl hown _ rfl (lo x) ?_ (by omega) (by omega) ?_))
      · exact int_lo (by omega)
      · intro v' w' h1 h2 _
        go_wp2
        go_ret
        refine ⟨_, rfl, ?_, ?_⟩
        · rw [HV.out, varL_lo (by omega)]; exact h1
        · exact (hb.alloc (by omega) _).grown h2 (by simp; omega) (fun k hk => (hown.lt k hk).1)
    · go_wp2_with (first | (at_builtin; refine wpList_appB1 _ rfl (.tmp 6) (.tmp 10) rfl w.heap.size _ bs rfl hown _ rfl (dig x) ?_ (by omega) (by omega) ?_))
      · exact bits_or128 x
      · intro v' w' h1 h2 _
        go_wp2
        go_roundw
        case rel => exact ⟨x / 128, _, by go_num, varStep_hi HV.out (by omega), hx.le (by omega), h1, (hb.alloc (by omega) _).grown h2 (by simp; omega) (fun k hk => (hown.lt k hk).1)⟩
        case measure => simp [intOf]; omega

/-! ### The reference's Var: the same by division -/
set_option maxRecDepth 100000 in
set_option maxHeartbeats 400000 in
theorem refVar_c (n : Nat) (w : World) (hn : U64 n) :
    Calls Try.prog 86 #[.int .u64 n] w fun e w' => ∃ v, e = .returned v ∧ OwnB w' w.heap.size v (varL n) ∧ Below w.heap.size w w' := by
  go_enter Try.func86, Try.ntmps86
  go_wp2
  go_loopw [0, 3] (fun m v wr => ∃ (x : Nat) (bs : List UInt8), m = .int .u64 x ∧ varL n = bs ++ varL x ∧ U64 x ∧ OwnB wr w.heap.size v bs ∧ Below w.heap.size w wr) (fun m v _ => (intOf m).toNat)
  case atStart => exact ⟨n, [], rfl, rfl, hn, World.ownsRow_made w #[] 0 (Nat.le_refl _) (Nat.zero_le _) rfl, (Below.refl _ _).alloc (Nat.le_refl _) _⟩
  case round =>
    obtain ⟨x, bs, rfl, hv, hx, hown, hb⟩ := hrel
    have hl := varStep_len hn hv
    have hz := hb.size
    have HV := Lib.hid hv; clear hv
    have hw : IntKind.u64.wrap ((x : Int) / 128) = (x : Int) / 128 := u64_div hx 128
    rcases Int.lt_or_le (x : Int) 128 with hlt | hle
    · have hq : (((x : Int) / 128) == 0) = true := by rw [beq_iff_eq]; omega
      go_wp2_with (first | (at_builtin; refine wpList_appB1 _ rfl (.tmp 8) (.tmp 11) rfl w.heap.size _ bs rfl hown _ rfl (lo x) ?_ (by omega) (by omega) ?_))
      · exact int_lo (by omega)
      · intro v' w' h1 h2 _
        go_wp2
        go_ret
        refine ⟨_, rfl, ?_, ?_⟩
        · rw [HV.out, varL_lo (by omega)]; exact h1
        · exact (hb.alloc (by omega) _).grown h2 (by simp; omega) (fun k hk => (hown.lt k hk).1)
    · have hq : (((x : Int) / 128) == 0) = false := by rw [beq_eq_false_iff_ne]; omega
      go_wp2_with (first | (at_builtin; refine wpList_appB1 _ rfl (.tmp 13) (.tmp 18) rfl w.heap.size _ bs rfl hown _ rfl (dig x) ?_ (by omega) (by omega) ?_))
      · unfold bv; rw [dig_nat]; congr 1
      · intro v' w' h1 h2 _
        go_wp2
        go_roundw
        case rel => exact ⟨x / 128, _, by go_num, varStep_hi HV.out (by omega), hx.le (by omega), h1, (hb.alloc (by omega) _).grown h2 (by simp; omega) (fun k hk => (hown.lt k hk).1)⟩
        case measure => simp [intOf]; omega
end Go.Proofs.Ytgnciejbhaebeaa

/- What the layer wire's and its reference's Num answer: a number by so many bytes, the highest first. Conditions: a number of 64 bits. -/
namespace Go.Proofs.Ytgnciejbhaebeaa
open Go Go.RowKit

/-! ### Num -/
theorem numL_end {n size : Nat} {f : Nat → UInt8} (hf : ∀ i, i < size → f i = lo (n / 256 ^ (size - 1 - i))) : (List.range size).map f = numL n size := by
  unfold numL
  exact List.map_congr_left fun i hi => hf i (List.mem_range.1 hi)
/-- What stands in the row when the places from k on are laid. -/
def numTail (n size k : Nat) : List UInt8 := List.replicate k 0 ++ (numL n size).drop k
theorem numTail_start (n size : Nat) : numTail n size size = List.replicate size 0 := by
  unfold numTail
  rw [List.drop_of_length_le (by rw [numL_length]; exact Nat.le_refl _), List.append_nil]
theorem numTail_zero (n size : Nat) : numTail n size 0 = numL n size := by simp [numTail]
theorem numTail_step {n size k : Nat} (hk : k < size) : (numTail n size (k + 1)).set k (lo (n / 256 ^ (size - 1 - k))) = numTail n size k := by
  unfold numTail
  have h1 : (numL n size).drop k = lo (n / 256 ^ (size - 1 - k)) :: (numL n size).drop (k + 1) := by
    rw [List.drop_eq_getElem_cons (by rw [numL_length]; exact hk)]
    simp [numL]
  rw [h1, List.replicate_succ', List.append_assoc, List.set_append_right _ _ (by simp)]
  simp
theorem numTail_length (n size k : Nat) (hk : k ≤ size) : (numTail n size k).length = size := by
  unfold numTail; rw [List.length_append, List.length_replicate, List.length_drop, numL_length]; omega

def numLI (n : Nat) (size : Int) : List UInt8 := if 1 ≤ size ∧ size ≤ 8 then numL n size.toNat else []

set_option maxRecDepth 100000 in
set_option maxHeartbeats 400000 in
theorem Num_c (n : Nat) (size : Int) (w : World) (_hn : U64 n) :
    Calls Try.prog 83 #[.int .u64 n, .int .i64 size] w fun e w' => ∃ v, e = .returned v ∧ OwnB w' w.heap.size v (numLI n size) ∧ Below w.heap.size w w' := by
  rcases Int.lt_or_le size 1 with h1 | h1
  · go_enter Try.func83, Try.ntmps83
    go_wp2
    go_ret
    refine ⟨_, rfl, ?_, Below.refl _ _⟩
    rw [numLI, if_neg (by omega)]; exact Own.nil_ _ _ _
  rcases Int.lt_or_le 8 size with h8 | h8
  · go_enter Try.func83, Try.ntmps83
    go_wp2
    go_ret
    refine ⟨_, rfl, ?_, Below.refl _ _⟩
    rw [numLI, if_neg (by omega)]; exact Own.nil_ _ _ _
  obtain ⟨s, rfl⟩ := Int.eq_ofNat_of_zero_le (show 0 ≤ size by omega)
  have hfin : numLI n (s : Int) = numL n s := by rw [numLI, if_pos ⟨h1, h8⟩, Int.toNat_natCast]
  have HF := Lib.hid hfin; clear hfin
  go_enter Try.func83, Try.ntmps83
  go_wp2_with (first | (at_make; refine wpList_makeB _ rfl (.tmp 13) (.tmp 13) rfl _ _ _ _ s rfl rfl rfl rfl (by omega) ?_))
  intro w1 ho1 hb1 _
  go_wp2
  go_loopw [0, 6] (fun m i wr => ∃ k : Nat, k ≤ s ∧ i = .int .i64 ((k : Int) - 1) ∧ m = .int .u64 ((n / 256 ^ (s - k) : Nat) : Int) ∧ OwnB wr w.heap.size (.slice (some ⟨w.heap.size, 0, none⟩) s s) (numTail n s k) ∧ Below w.heap.size w wr) (fun m i _ => (intOf i + 1).toNat)
  case atStart =>
    refine ⟨s, Nat.le_refl _, rfl, ?_, ?_, hb1⟩
    · rw [Nat.sub_self, Nat.pow_zero, Nat.div_one]
    · rw [numTail_start]; exact ho1
  case round =>
    obtain ⟨k, hk, rfl, rfl, hown, hb⟩ := hrel
    rcases Nat.eq_zero_or_pos k with h0 | h0
    · subst h0
      go_wp2
      go_ret
      refine ⟨_, rfl, ?_, hb⟩
      rw [HF.out, ← numTail_zero]; exact hown
    · obtain ⟨j, rfl⟩ : ∃ j, k = j + 1 := ⟨k - 1, by omega⟩
      have hcell := hown.cell j (by rw [numTail_length _ _ _ hk]; omega)
      have hfree := hown.free j
      obtain ⟨x, hx⟩ : ∃ x, x = n / 256 ^ (s - (j + 1)) := ⟨_, rfl⟩
      have hq : x / 256 = n / 256 ^ (s - j) := by
        rw [hx, Nat.div_div_eq_div_mul, ← Nat.pow_succ, show (s - (j + 1)).succ = s - j by omega]
      rw [← hx]
      have HX := Lib.hid hx; clear hx
      have HQ := Lib.hid hq; clear hq
      go_wp2
      go_roundw
      case rel =>
        refine ⟨j, by omega, rfl, by rw [← HQ.out]; try rfl, ?_, hb.setCell (Nat.le_refl _) _⟩
        rw [int_lo (x := (x : Int) % 256) (n := x) (by omega), ← numTail_step (by omega)]
        have h := hown.set j (lo x)
        rw [HX.out] at h ⊢
        rw [show s - 1 - j = s - (j + 1) by omega]
        exact h
      case measure => simp [intOf]

set_option maxRecDepth 100000 in
set_option maxHeartbeats 400000 in
theorem refNum_c (n : Nat) (size : Int) (w : World) (hn : U64 n) :
    Calls Try.prog 85 #[.int .u64 n, .int .i64 size] w fun e w' => ∃ v, e = .returned v ∧ OwnB w' w.heap.size v (numLI n size) ∧ Below w.heap.size w w' := by
  rcases Int.lt_or_le size 1 with h1 | h1
  · go_enter Try.func85, Try.ntmps85
    go_wp2
    go_ret
    refine ⟨_, rfl, ?_, Below.refl _ _⟩
    rw [numLI, if_neg (by omega)]; exact Own.nil_ _ _ _
  rcases Int.lt_or_le 8 size with h8 | h8
  · go_enter Try.func85, Try.ntmps85
    go_wp2
    go_ret
    refine ⟨_, rfl, ?_, Below.refl _ _⟩
    rw [numLI, if_neg (by omega)]; exact Own.nil_ _ _ _
  obtain ⟨s, rfl⟩ := Int.eq_ofNat_of_zero_le (show 0 ≤ size by omega)
  have hfin : numLI n (s : Int) = numL n s := by rw [numLI, if_pos ⟨h1, h8⟩, Int.toNat_natCast]
  have HF := Lib.hid hfin; clear hfin
  go_enter Try.func85, Try.ntmps85
  go_wp2_with (first | (at_make; refine wpList_makeB _ rfl (.tmp 13) (.tmp 13) rfl _ _ _ _ s rfl rfl rfl rfl (by omega) ?_))
  intro w1 ho1 hb1 _
  go_wp2
  go_loopw [0, 6] (fun m i wr => ∃ k : Nat, k ≤ s ∧ i = .int .i64 (k : Int) ∧ m = .int .u64 ((n / 256 ^ k : Nat) : Int) ∧ OwnB wr w.heap.size (.slice (some ⟨w.heap.size, 0, none⟩) s s) (numTail n s (s - k)) ∧ Below w.heap.size w wr) (fun m i _ => s - (intOf i).toNat)
  case atStart =>
    refine ⟨0, Nat.zero_le _, rfl, ?_, ?_, hb1⟩
    · rw [Nat.pow_zero, Nat.div_one]
    · rw [Nat.sub_zero, numTail_start]; exact ho1
  case round =>
    obtain ⟨k, hk, rfl, rfl, hown, hb⟩ := hrel
    rcases Nat.lt_or_ge k s with h0 | h0
    · obtain ⟨x, hx⟩ : ∃ x, x = n / 256 ^ k := ⟨_, rfl⟩
      have hu : U64 x := hn.le (by rw [hx]; exact Nat.div_le_self _ _)
      have hw : IntKind.u64.wrap ((x : Int) / 256) = (x : Int) / 256 := u64_div hu 256
      have hq : x / 256 = n / 256 ^ (k + 1) := by rw [hx, Nat.div_div_eq_div_mul, ← Nat.pow_succ]
      obtain ⟨old, hcell⟩ : ∃ old, wr.cell? ⟨w.heap.size, s - 1 - k, none⟩ = some old := ⟨_, hown.cell (s - 1 - k) (by rw [numTail_length _ _ _ (by omega)]; omega)⟩
      have hfree := hown.free (s - 1 - k)
      rw [← hx]
      have HX := Lib.hid hx; clear hx
      have HQ := Lib.hid hq; clear hq
      go_wp2
      go_roundw
      case rel =>
        refine ⟨k + 1, by omega, by go_num, by rw [← HQ.out]; try rfl, ?_, hb.setCell (Nat.le_refl _) _⟩
        rw [int_lo (x := (x : Int) % 256) (n := x) (by omega), ← numTail_step (by omega), show s - (k + 1) + 1 = s - k by omega, show s - 1 - (s - (k + 1)) = k by omega, ← HX.out, show s - (k + 1) = s - 1 - k by omega]
        exact hown.set _ _
      case measure => simp [intOf]; omega
    · obtain rfl : k = s := by omega
      go_wp2
      go_ret
      refine ⟨_, rfl, ?_, hb⟩
      rw [Nat.sub_self, numTail_zero] at hown
      rw [HF.out]; exact hown

end Go.Proofs.Ytgnciejbhaebeaa

/- What the reader of the layer wire does: its small methods. Conditions: a reader that lies in a block of its own. -/
namespace Go.Proofs.Ytgnciejbhaebeaa
open Go Go.RowKit

/-- A reader's state: its bytes, its place, its error; where its bytes lie (no word of the program's). -/
structure RS where
  b : List UInt8
  at_ : Nat
  err : Nat
  gA : Option Addr

/-- Block r holds the reader s. -/
def Rdr (w : World) (r : Nat) (s : RS) : Prop :=
  ∃ A c, w.heap[r]? = some (.cells #[.slice A s.b.length c, .int .i64 (s.at_ : Int), .int .i64 (s.err : Int)] 156 (0, 0)) ∧ Rd w A (s.b.map bv) ∧ (A = s.gA ∧ ∀ a, A = some a → a.block ≠ r) ∧
    s.b.length ≤ c ∧ c ≤ maxLen ∧ s.at_ ≤ s.b.length ∧ s.b.length ≤ 140737488355328

theorem Rdr.below {w w' : World} {r : Nat} {s : RS} (h : Rdr w r s) (hb : Below w.heap.size w w') : Rdr w' r s := by
  obtain ⟨A, c, h1, h2, h3⟩ := h
  exact ⟨A, c, (hb.block r (heap_lt h1)).trans h1, h2.below hb, h3⟩
theorem Rdr.drewN {w : World} {r : Nat} {s : RS} (h : Rdr w r s) (n : Nat) : Rdr (w.drewN n) r s := h
theorem Rdr.lt {w : World} {r : Nat} {s : RS} (h : Rdr w r s) : r < w.heap.size := by
  obtain ⟨A, c, h1, _⟩ := h; exact heap_lt h1

set_option maxRecDepth 100000 in
set_option maxHeartbeats 400000 in
theorem Rnew_c (A : Option Addr) (n c : Nat) (bs : List UInt8) (w : World) (hn : bs.length = n) (hr : Rd w A (bs.map bv)) (hl : n ≤ 140737488355328) :
    Calls Try.prog 74 #[.slice A n c] w fun e w' => ∃ r A', e = .returned (.pointer (some ⟨r, 0, none⟩)) ∧ w.heap.size ≤ r ∧ Rdr w' r ⟨bs, 0, 0, A'⟩ ∧ Below w.heap.size w w' ∧ ∀ a, A' = some a → w.heap.size ≤ a.block ∧ a.block < w'.heap.size := by
  have HN := Lib.hid hn; clear hn
  go_enter Try.func74, Try.ntmps74
  go_wp2_with (first | (at_builtin; refine wpList_cloneB _ rfl (.tmp 3) rfl A n c bs rfl HN.out hr hl ?_; intro A' c' w2 h1 h2 h3 h4 h5 h6; have H1 := Lib.hid h1; clear h1; have H5 := Lib.hid h5; clear h5; have H6 := Lib.hid h6; clear h6))
  go_ret
  have hz := h2.size
  refine ⟨_, A', rfl, hz, ⟨A', c', ?_, Rd.alloc H5.out _, ⟨rfl, ?_⟩, by simp [HN.out]; exact h3, h4, Nat.zero_le _, by simp [HN.out]; exact hl⟩, h2.alloc hz _, ?_⟩
  · rw [heap_alloc_new]; simp [HN.out]
  · intro a ha; have := (H6.out a ha).2; omega
  · intro a ha; have := H6.out a ha; simp only [World.size_alloc]; omega

/-- The reader's cells, for a walk. -/
theorem Rdr.open_ {w : World} {r : Nat} {s : RS} (h : Rdr w r s) : ∃ A c, (w.cell? ⟨r, 0, none⟩ = some (.slice A s.b.length c) ∧ w.cell? ⟨r, 1, none⟩ = some (.int .i64 (s.at_ : Int)) ∧ w.cell? ⟨r, 2, none⟩ = some (.int .i64 (s.err : Int))) ∧
    (w.frozen? ⟨r, 0, none⟩ = false ∧ w.frozen? ⟨r, 1, none⟩ = false ∧ w.frozen? ⟨r, 2, none⟩ = false) ∧ Rd w A (s.b.map bv) ∧ s.b.length ≤ c ∧ c ≤ maxLen ∧ s.at_ ≤ s.b.length ∧ s.b.length ≤ 140737488355328 := by
  obtain ⟨A, c, h1, h2, h3, h4, h5, h6, h7⟩ := h
  exact ⟨A, c, ⟨by rw [heap_cell h1]; rfl, by rw [heap_cell h1]; rfl, by rw [heap_cell h1]; rfl⟩, ⟨heap_free h1 _, heap_free h1 _, heap_free h1 _⟩, h2, h4, h5, h6, h7⟩
theorem Rdr.setErr {w : World} {r : Nat} {s : RS} (h : Rdr w r s) (e : Nat) : Rdr (w.setCell ⟨r, 2, none⟩ (.int .i64 (e : Int))) r { s with err := e } := by
  obtain ⟨A, c, h1, h2, h3, h4⟩ := h
  exact ⟨A, c, by rw [heap_set h1]; rfl, h2.far _ h3.2, h3, h4⟩
theorem Rdr.setAt {w : World} {r : Nat} {s : RS} (h : Rdr w r s) (k : Nat) (hk : k ≤ s.b.length) : Rdr (w.setCell ⟨r, 1, none⟩ (.int .i64 (k : Int))) r { s with at_ := k } := by
  obtain ⟨A, c, h1, h2, h3, h4, h5, _, h6⟩ := h
  exact ⟨A, c, by rw [heap_set h1]; rfl, h2.far _ h3.2, h3, h4, h5, hk, h6⟩
/-- A store elsewhere. -/
theorem Rdr.farSet {w : World} {r : Nat} {s : RS} (h : Rdr w r s) {p : Addr} (u : Value) (h1 : r ≠ p.block) (h2 : ∀ a, s.gA = some a → a.block ≠ p.block) : Rdr (w.setCell p u) r s := by
  obtain ⟨A, c, g1, g2, g3, g4⟩ := h
  exact ⟨A, c, (heap_far u h1).trans g1, g2.far _ (by rw [g3.1]; exact h2), g3, g4⟩

/-! ### Err, Left, End -/
set_option maxRecDepth 100000 in
set_option maxHeartbeats 400000 in
theorem Rerr_c (r : Nat) (s : RS) (w : World) (h : Rdr w r s) :
    Calls Try.prog 76 #[.pointer (some ⟨r, 0, none⟩)] w fun e w' => e = .returned (.int .i64 (s.err : Int)) ∧ w = w' := by
  obtain ⟨A, c, ⟨c0, c1, c2⟩, _, _⟩ := h.open_
  go_enter Try.func76, Try.ntmps76
  go_wp2
  go_ret
  exact ⟨rfl, rfl⟩

set_option maxRecDepth 100000 in
set_option maxHeartbeats 400000 in
theorem Rleft_c (r : Nat) (s : RS) (w : World) (h : Rdr w r s) :
    Calls Try.prog 78 #[.pointer (some ⟨r, 0, none⟩)] w fun e w' => e = .returned (.int .i64 ((s.b.length - s.at_ : Nat) : Int)) ∧ ∃ q, w' = w.drewN q := by
  obtain ⟨A, c, ⟨c0, c1, c2⟩, _, _, _, _, hk, hl⟩ := h.open_
  have e1 : ((s.b.length - s.at_ : Nat) : Int) = (s.b.length : Int) - (s.at_ : Int) := by omega
  rw [e1]
  clear e1
  go_enter Try.func78, Try.ntmps78
  go_wp2
  go_quiet (fail)
  go_wp2
  go_ret
  exact ⟨rfl, _, rfl⟩

def endR (s : RS) : Nat := if s.err = 0 ∧ s.at_ < s.b.length then 6 else s.err

end Go.Proofs.Ytgnciejbhaebeaa

/- What the reader of the layer wire does: Var. Conditions: a reader that lies in a block of its own. -/
namespace Go.Proofs.Ytgnciejbhaebeaa
open Go Go.RowKit

def varR (s : RS) : Nat × RS :=
  if s.err ≠ 0 then (0, s) else match varGo (s.b.drop s.at_) 0 with
    | .bad e => (0, { s with err := e })
    | .ok n k => (n, { s with at_ := s.at_ + k })

set_option maxRecDepth 100000 in
set_option maxHeartbeats 400000 in
theorem Rvar_c (r : Nat) (s : RS) (w : World) (h : Rdr w r s) :
    Calls Try.prog 87 #[.pointer (some ⟨r, 0, none⟩)] w fun e w' => e = .returned (.int .u64 ((varR s).1 : Int)) ∧ Rdr w' r (varR s).2 ∧ w.grownBy w' (some r) := by
  obtain ⟨A, c, ⟨c0, c1, c2⟩, ⟨f0, f1, f2⟩, hrd, hlc, hcm, hk, hl⟩ := h.open_
  by_cases h0 : s.err = 0
  · have hb : (((s.err : Nat) : Int) != 0) = false := by rw [bne_eq_false_iff_eq]; omega
    obtain ⟨l, el⟩ : ∃ l, l = s.b.drop s.at_ := ⟨_, rfl⟩
    have e1 : varR s = match varGo l 0 with
      | .bad e => (0, { s with err := e })
      | .ok n k => (n, { s with at_ := s.at_ + k }) := by rw [varR, if_neg (by omega), el]
    have hll : l.length + s.at_ = s.b.length := by rw [el, List.length_drop]; omega
    have hcell : ∀ i (hi : i < l.length), ∃ b off, A = some ⟨b, off, none⟩ ∧ w.cell? ⟨b, off + (s.at_ + i), none⟩ = some (.int .u8 ((l[i]).toNat : Int)) := by
      intro i hi
      obtain ⟨b, off, hA, _, hc⟩ := hrd.addrB (by omega)
      refine ⟨b, off, hA, ?_⟩
      rw [hc (s.at_ + i) (by omega)]
      subst el
      simp [bv]
    have HC := Lib.hid hcell; clear hcell
    have H1 := Lib.hid e1; clear e1
    have H0 := Lib.hid h0; clear h0
    clear el
    go_enter Try.func87, Try.ntmps87
    go_wp2
    go_loopw [3, 4] (fun n i wr => ∃ (x k : Nat), k ≤ 9 ∧ k ≤ l.length ∧ n = .int .u64 x ∧ i = .int .i64 k ∧ x < 128 ^ k ∧ varGo l 0 = (varGo (l.drop k) k).after x k ∧ ∃ q, wr = w.drewN q) (fun n i _ => 10 - (intOf i).toNat)
    case atStart => exact ⟨0, 0, by omega, by omega, rfl, rfl, by decide, by rw [VR.after_zero]; rfl, 0, rfl⟩
    case round =>
      obtain ⟨x, k, hk9, hkl, rfl, rfl, hx, hv, q, rfl⟩ := hrel
      have HV := Lib.hid hv; clear hv
      have HX := Lib.hid hx; clear hx
      rcases Nat.lt_or_ge k l.length with hlt | hge
      · have hu : (s.at_ : Int) + (k : Int) < (s.b.length : Int) := by omega
        obtain ⟨b, off, rfl, hc⟩ := HC.out k hlt
        obtain ⟨d, ed⟩ : ∃ d, d = (l[k]).toNat := ⟨_, rfl⟩
        have hd : d < 256 := by rw [ed]; exact UInt8.toNat_lt _
        rw [← ed] at hc
        have ED := Lib.hid ed; clear ed
        have hu2 : U64 x := by
          rcases Nat.eq_zero_or_pos k with h | h
          · have := HX.out; rw [h] at this; exact Nat.lt_of_lt_of_le this (by decide)
          · exact Nat.lt_of_lt_of_le HX.out (Nat.le_trans (Nat.pow_le_pow_right (by decide) hk9) (by decide))
        have ha := and127 d hd
        by_cases hbad : badD k d
        · have hv3 : varR s = (0, { s with err := 3 }) := by rw [H1.out, HV.out, varGo_form' hlt ED.out x hbad]
          have HV3 := Lib.hid hv3; clear hv3
          have fin : ∀ q', Rdr ((w.drewN q').setCell ⟨r, 2, none⟩ (.int .i64 3)) r (varR s).2 ∧ w.grownBy ((w.drewN q').setCell ⟨r, 2, none⟩ (.int .i64 3)) (some r) := fun q' => by
            rw [HV3.out]
            exact ⟨(h.drewN q').setErr 3, only_setD q' r 2 _⟩
          have FIN := Lib.hid fin; clear fin
          have go : ∀ (P : Prop), (P → True) := fun _ _ => trivial
          clear go
          rcases hbad with ⟨h9, h1⟩ | ⟨h9, h1⟩
          · have hb9 : (((k : Nat) : Int) == 9) = true := by rw [beq_iff_eq]; omega
            have H9 := Lib.hid h9; clear h9
            go_wp2
            go_quiet (fail)
            go_wp2
            go_quiet (fail)
            go_wp2
            go_ret
            exact ⟨by rw [HV3.out]; rfl, FIN.out _⟩
          · have hb9 : (((d : Nat) : Int) == 0) = true := by rw [beq_iff_eq]; omega
            have hb8 : decide ((1 : Int) < (d : Int)) = false := decide_eq_false (by omega)
            have HD1 := Lib.hid h1; clear h1
            go_wp2
            go_quiet (fail)
            go_wp2
            go_quiet (fail)
            go_wp2
            all_goals
              go_ret
              exact ⟨by rw [HV3.out]; rfl, FIN.out _⟩
        · have h9d : k = 9 → d % 128 ≤ 1 := by
            intro h; have : ¬ 1 < d := fun h1 => hbad (.inl ⟨h, h1⟩); omega
          obtain ⟨y, hy⟩ : ∃ y, y = x + 128 ^ k * (d % 128) := ⟨_, rfl⟩
          have hor := or_walk HX.out hk9 h9d hu2
          rw [← hy] at hor
          have hb1 : ¬ (k = 9 ∧ 1 < d) := fun h => hbad (.inl h)
          have hb2 : ¬ (0 < k ∧ d = 0) := fun h => hbad (.inr h)
          have HB := Lib.hid hbad; clear hbad
          have HY := Lib.hid hy; clear hy
          clear h9d
          rcases Nat.lt_or_ge d 128 with h8 | h8
          · have hv3 : varR s = (y, { s with at_ := s.at_ + (k + 1) }) := by rw [H1.out, HV.out, varGo_last' hlt ED.out x HB.out h8, HY.out]
            have HV3 := Lib.hid hv3; clear hv3
            have fin : ∀ q', Rdr ((w.drewN q').setCell ⟨r, 1, none⟩ (.int .i64 ((s.at_ : Int) + ((k : Int) + 1)))) r (varR s).2 ∧ w.grownBy ((w.drewN q').setCell ⟨r, 1, none⟩ (.int .i64 ((s.at_ : Int) + ((k : Int) + 1)))) (some r) := fun q' => by
              rw [HV3.out, show (s.at_ : Int) + ((k : Int) + 1) = ((s.at_ + (k + 1) : Nat) : Int) by omega]
              exact ⟨(h.drewN q').setAt _ (by omega), only_setD q' r 1 _⟩
            have FIN := Lib.hid fin; clear fin
            by_cases h9 : k = 9
            · have hb9 : (((k : Nat) : Int) == 9) = true := by rw [beq_iff_eq]; omega
              have hb0 : (((d : Nat) : Int) == 0) = false := by rw [beq_eq_false_iff_ne]; omega
              have hb8 : decide ((1 : Int) < (d : Int)) = false := decide_eq_false (by omega)
              clear hb1 hb2 h9
              go_wp2
              go_quiet (fail)
              go_wp2
              go_quiet (fail)
              go_wp2
              all_goals
                go_ret
                exact ⟨by rw [HV3.out]; rfl, FIN.out _⟩
            · have hb9 : (((k : Nat) : Int) == 9) = false := by rw [beq_eq_false_iff_ne]; omega
              rcases Nat.eq_zero_or_pos k with h0k | h0k
              · have hbk : decide ((0 : Int) < (k : Int)) = false := decide_eq_false (by omega)
                have hbn : ¬ 0 < k := by omega
                have H0K := Lib.hid h0k
                clear hb1 hb2 h9 h0k
                go_wp2
                go_quiet (fail)
                go_wp2
                go_quiet (fail)
                go_wp2
                all_goals
                  go_ret
                  exact ⟨by rw [HV3.out]; rfl, FIN.out _⟩
              · have hb0 : (((d : Nat) : Int) == 0) = false := by rw [beq_eq_false_iff_ne]; omega
                clear hb1 hb2 h9
                go_wp2
                go_quiet (fail)
                go_wp2
                go_quiet (fail)
                go_wp2
                all_goals
                  go_ret
                  exact ⟨by rw [HV3.out]; rfl, FIN.out _⟩
          · have hk9' : k < 9 := by
              rcases Nat.lt_or_ge k 9 with h | h
              · exact h
              · exact absurd ⟨by omega, by omega⟩ hb1
            have hrel : y < 128 ^ (k + 1) ∧ varGo l 0 = (varGo (l.drop (k + 1)) (k + 1)).after y (k + 1) := by
              refine ⟨by rw [HY.out]; exact digit_lt HX.out (by omega), ?_⟩
              rw [HV.out, varGo_more' hlt ED.out x HB.out h8, HY.out]
            have HR := Lib.hid hrel; clear hrel
            have hb9 : (((k : Nat) : Int) == 9) = false := by rw [beq_eq_false_iff_ne]; omega
            have hb0 : (((d : Nat) : Int) == 0) = false := by rw [beq_eq_false_iff_ne]; omega
            clear hb1 hb2
            go_wp2
            go_quiet (fail)
            go_wp2
            go_quiet (fail)
            go_wp2
            all_goals
              go_roundw
              case rel => exact ⟨y, k + 1, by omega, by omega, rfl, by go_num, HR.out.1, HR.out.2, _, rfl⟩
              case measure => simp [intOf]; omega
      · have hv3 : varR s = (0, { s with err := 2 }) := by rw [H1.out, HV.out, varGo_end hge]
        have HV3 := Lib.hid hv3; clear hv3
        have fin : ∀ q', Rdr ((w.drewN q').setCell ⟨r, 2, none⟩ (.int .i64 2)) r (varR s).2 ∧ w.grownBy ((w.drewN q').setCell ⟨r, 2, none⟩ (.int .i64 2)) (some r) := fun q' => by
          rw [HV3.out]
          exact ⟨(h.drewN q').setErr 2, only_setD q' r 2 _⟩
        have FIN := Lib.hid fin; clear fin
        have hu : (s.b.length : Int) ≤ (s.at_ : Int) + (k : Int) := by omega
        go_wp2
        go_quiet (fail)
        go_wp2
        go_ret
        exact ⟨by rw [HV3.out]; rfl, FIN.out _⟩
  · have hb : (((s.err : Nat) : Int) != 0) = true := by rw [bne_iff_ne]; omega
    have e1 : varR s = (0, s) := if_pos h0
    rw [e1]
    clear e1
    have H0 := Lib.hid h0; clear h0
    go_enter Try.func87, Try.ntmps87
    go_wp2
    go_ret
    exact ⟨rfl, h, World.grownBy.refl _ _⟩
end Go.Proofs.Ytgnciejbhaebeaa

/- What the reader of the layer wire does: Num and Take. Conditions: a reader that lies in a block of its own. -/
namespace Go.Proofs.Ytgnciejbhaebeaa
open Go Go.RowKit

def numR (s : RS) (size : Int) : Nat × RS :=
  if s.err ≠ 0 then (0, s) else if size < 1 ∨ 8 < size then (0, { s with err := 1 })
  else if (s.b.length : Int) - (s.at_ : Int) < size then (0, { s with err := 2 })
  else (beN ((s.b.drop s.at_).take size.toNat), { s with at_ := s.at_ + size.toNat })

theorem setErr_only {w : World} {r : Nat} {s : RS} (h : Rdr w r s) (q e : Nat) : Rdr ((w.drewN q).setCell ⟨r, 2, none⟩ (.int .i64 (e : Int))) r { s with err := e } ∧ w.grownBy ((w.drewN q).setCell ⟨r, 2, none⟩ (.int .i64 (e : Int))) (some r) :=
  ⟨(h.drewN q).setErr e, only_setD q r 2 _⟩

set_option maxRecDepth 100000 in
set_option maxHeartbeats 400000 in
theorem Rnum_c (r : Nat) (s : RS) (size : Int) (w : World) (h : Rdr w r s) (hs : (Lit.int .i64 size).wf = true) :
    Calls Try.prog 93 #[.pointer (some ⟨r, 0, none⟩), .int .i64 size] w fun e w' => e = .returned (.int .u64 ((numR s size).1 : Int)) ∧ Rdr w' r (numR s size).2 ∧ w.grownBy w' (some r) := by
  obtain ⟨A, c, ⟨c0, c1, c2⟩, ⟨f0, f1, f2⟩, hrd, hlc, hcm, hk, hl⟩ := h.open_
  by_cases h0 : s.err = 0
  · have hb : (((s.err : Nat) : Int) != 0) = false := by rw [bne_eq_false_iff_eq]; omega
    by_cases hsz : size < 1 ∨ 8 < size
    · have e1 : numR s size = (0, { s with err := 1 }) := by rw [numR, if_neg (by omega), if_pos hsz]
      rw [e1]
      clear e1
      have H0 := Lib.hid h0; clear h0
      rcases hsz with h1 | h1
      · go_enter Try.func93, Try.ntmps93
        go_wp2
        go_ret
        exact ⟨rfl, setErr_only h 0 1⟩
      · go_enter Try.func93, Try.ntmps93
        go_wp2
        go_ret
        exact ⟨rfl, setErr_only h 0 1⟩
    · obtain ⟨n, rfl⟩ := Int.eq_ofNat_of_zero_le (show 0 ≤ size by omega)
      have hn1 : 1 ≤ (n : Int) := by omega
      have hn8 : (n : Int) ≤ 8 := by omega
      by_cases hsh : (s.b.length : Int) - (s.at_ : Int) < (n : Int)
      · have e1 : numR s n = (0, { s with err := 2 }) := by rw [numR, if_neg (by omega), if_neg (by omega), if_pos hsh]
        rw [e1]
        clear e1
        have H0 := Lib.hid h0; clear h0
        have HS := Lib.hid hsz; clear hsz
        go_enter Try.func93, Try.ntmps93
        go_wp2
        go_quiet (fail)
        go_wp2
        go_ret
        exact ⟨rfl, setErr_only h _ 2⟩
      · obtain ⟨l, el⟩ : ∃ l, l = s.b.drop s.at_ := ⟨_, rfl⟩
        have e1 : numR s n = (beN (l.take n), { s with at_ := s.at_ + n }) := by rw [numR, if_neg (by omega), if_neg (by omega), if_neg hsh, el]; rfl
        have hll : l.length + s.at_ = s.b.length := by rw [el, List.length_drop]; omega
        have hsh' : (n : Int) ≤ (s.b.length : Int) - (s.at_ : Int) := by omega
        have H1 := Lib.hid e1; clear e1
        have H0 := Lib.hid h0; clear h0
        have HS := Lib.hid hsz; clear hsz
        have EL := Lib.hid el; clear el
        clear hsh
        go_enter Try.func93, Try.ntmps93
        go_wp2
        go_quiet (fail)
        go_wp2
        go_loopw [5, 43] (fun x i wr => ∃ k : Nat, k ≤ n ∧ i = .int .i64 k ∧ x = .int .u64 ((beN (l.take k) : Nat) : Int) ∧ Rdr wr r { s with at_ := s.at_ + k } ∧ w.grownBy wr (some r)) (fun x i _ => n - (intOf i).toNat)
        case atStart => exact ⟨0, Nat.zero_le _, rfl, rfl, h, ⟨rfl, rfl, rfl, Nat.le_refl _, fun _ _ _ => rfl⟩⟩
        case round =>
          obtain ⟨k, hkn, rfl, rfl, hw, hg⟩ := hrel
          rcases Nat.lt_or_ge k n with hlt | hge
          · have hkl : k < l.length := by omega
            obtain ⟨A', c', ⟨d0, d1, d2⟩, ⟨g0, g1, g2⟩, hrd', hlc', _, _, _⟩ := hw.open_
            simp only [] at d0 d1 d2 hrd' hlc'
            obtain ⟨b, off, rfl, _, hc⟩ := hrd'.addrB (by omega)
            obtain ⟨d, ed⟩ : ∃ d, d = (l[k]).toNat := ⟨_, rfl⟩
            have hcell : wr.cell? ⟨b, off + (s.at_ + k), none⟩ = some (.int .u8 (d : Int)) := by
              rw [hc (s.at_ + k) (by omega), ed]
              have := EL.out
              subst this
              simp [bv]
            have hd : d < 256 := by rw [ed]; exact UInt8.toNat_lt _
            obtain ⟨x, hx⟩ : ∃ x, x = beN (l.take k) := ⟨_, rfl⟩
            have hx1 : beN (l.take (k + 1)) = x * 256 + d := by
              rw [List.take_succ_eq_append_getElem hkl, beN_snoc, hx, ed]
            have hx2 : x < 256 ^ 7 := by
              rw [hx]
              exact Nat.lt_of_lt_of_le (beN_lt _) (Nat.pow_le_pow_right (by decide) (by rw [List.length_take]; omega))
            rw [← hx]
            have hxm : x * 256 < 18446744073709551616 := by omega
            have hor := or_walk8 hxm hd
            have HX1 := Lib.hid hx1; clear hx1
            have HX2 := Lib.hid hx2; clear hx2
            have hwx : IntKind.u64.wrap ((x : Int) * 256) = (x : Int) * 256 := IntWalk.u64_in _ ⟨by omega, by omega⟩
            rw [← hwx] at hor
            have fin : ∀ q' : Nat, ∃ y : Nat, Value.int .i64 ((s.at_ : Int) + (k : Int) + 1) = .int .i64 (y : Int) ∧ Rdr ((wr.drewN q').setCell ⟨r, 1, none⟩ (.int .i64 (y : Int))) r { s with at_ := s.at_ + (k + 1) } ∧ w.grownBy ((wr.drewN q').setCell ⟨r, 1, none⟩ (.int .i64 (y : Int))) (some r) := fun q' =>
              ⟨s.at_ + (k + 1), by congr 1, (hw.drewN q').setAt _ (by show _ ≤ s.b.length; omega), only_trans hg (only_setD q' r 1 _)⟩
            have FIN := Lib.hid fin; clear fin
            have HOR := Lib.hid hor; clear hor
            clear hwx
            have HXM := Lib.hid hxm; clear hxm
            have HX := Lib.hid hx; clear hx
            have ED := Lib.hid ed; clear ed
            have hsk : (s.at_ : Int) + (k : Int) < (s.b.length : Int) := by omega
            clear hc c0 c1 c2 f0 f1 f2
            go_wp2
            go_quiet (fail)
            go_wp2
            go_roundw
            case rel =>
              obtain ⟨y, e1, e2, e3⟩ := FIN.out nq
              refine ⟨k + 1, by omega, by go_num, by rw [HOR.out, HX1.out], ?_, ?_⟩
              · rw [← e1] at e2; exact e2
              · rw [← e1] at e3; exact e3
            case measure => simp [intOf]; omega
          · obtain rfl : k = n := by omega
            go_wp2
            go_ret
            rw [H1.out]
            exact ⟨rfl, hw, hg⟩
  · have hb : (((s.err : Nat) : Int) != 0) = true := by rw [bne_iff_ne]; omega
    have e1 : numR s size = (0, s) := if_pos h0
    rw [e1]
    clear e1
    have H0 := Lib.hid h0; clear h0
    go_enter Try.func93, Try.ntmps93
    go_wp2
    go_ret
    exact ⟨rfl, h, World.grownBy.refl _ _⟩
end Go.Proofs.Ytgnciejbhaebeaa

/- What the reader of the layer wire does: Take and Text. Conditions: a reader that lies in a block of its own. -/
namespace Go.Proofs.Ytgnciejbhaebeaa
open Go Go.RowKit

def takeR (s : RS) (n : Int) : List UInt8 × RS :=
  if s.err ≠ 0 then ([], s) else if n < 0 then ([], { s with err := 1 })
  else if (s.b.length : Int) - (s.at_ : Int) < n then ([], { s with err := 2 })
  else ((s.b.drop s.at_).take n.toNat, { s with at_ := s.at_ + n.toNat })

set_option maxRecDepth 100000 in
set_option maxHeartbeats 400000 in
theorem Rtake_c (r : Nat) (s : RS) (n : Int) (w : World) (h : Rdr w r s) (hs : (Lit.int .i64 n).wf = true) :
    Calls Try.prog 94 #[.pointer (some ⟨r, 0, none⟩), .int .i64 n] w fun e w' => ∃ v, e = .returned v ∧ OwnB w' w.heap.size v (takeR s n).1 ∧ Rdr w' r (takeR s n).2 ∧ w.grownBy w' (some r) := by
  obtain ⟨A, c, ⟨c0, c1, c2⟩, ⟨f0, f1, f2⟩, hrd, hlc, hcm, hk, hl⟩ := h.open_
  by_cases h0 : s.err = 0
  · have hb : (((s.err : Nat) : Int) != 0) = false := by rw [bne_eq_false_iff_eq]; omega
    rcases Int.lt_or_le n 0 with h1 | h1
    · have e1 : takeR s n = ([], { s with err := 1 }) := by rw [takeR, if_neg (by omega), if_pos h1]
      rw [e1]
      clear e1
      have H0 := Lib.hid h0; clear h0
      go_enter Try.func94, Try.ntmps94
      go_wp2
      go_ret
      exact ⟨_, rfl, Own.nil_ _ _ _, setErr_only h 0 1⟩
    · obtain ⟨m, rfl⟩ := Int.eq_ofNat_of_zero_le h1
      by_cases hsh : (s.b.length : Int) - (s.at_ : Int) < (m : Int)
      · have e1 : takeR s m = ([], { s with err := 2 }) := by rw [takeR, if_neg (by omega), if_neg (by omega), if_pos hsh]
        rw [e1]
        clear e1
        have H0 := Lib.hid h0; clear h0
        go_enter Try.func94, Try.ntmps94
        go_wp2
        go_quiet (fail)
        go_wp2
        go_ret
        exact ⟨_, rfl, Own.nil_ _ _ _, setErr_only h _ 2⟩
      · have e1 : takeR s m = ((s.b.drop s.at_).take m, { s with at_ := s.at_ + m }) := by rw [takeR, if_neg (by omega), if_neg (by omega), if_neg hsh]; rfl
        have hsh' : (m : Int) ≤ (s.b.length : Int) - (s.at_ : Int) := by omega
        have H1 := Lib.hid e1; clear e1
        have H0 := Lib.hid h0; clear h0
        clear hsh
        go_enter Try.func94, Try.ntmps94
        go_wp2
        go_quiet (fail)
        go_wp2
        have hw1 : IntKind.i64.wrap ((s.at_ : Int) + (m : Int)) = (s.at_ : Int) + (m : Int) := IntWalk.i64_in _ ⟨by omega, by omega⟩
        have hw2 : (s.at_ : Int) + (m : Int) ≤ (c : Int) := by omega
        have hw3 : (s.at_ : Int) ≤ (s.at_ : Int) + (m : Int) := by omega
        have hw4 : (0 : Int) ≤ (s.at_ : Int) := by omega
        refine wp_region_still_tail 15 (by kernel_rfl) (by kernel_rfl) ?_
        simp only [List.take_succ_cons, List.take_zero, List.drop_succ_cons, List.drop_zero]
        change wpStill _ _ (w.drewN (nq + 1)) _ _ _
        repeat still_step
        refine wpStill_nil ?_
        change wpList _ _ _ _ _ (w.drewN (nq + 1))
        refine wpList_cloneB _ rfl (.tmp 52) rfl _ _ _ ((s.b.drop s.at_).take m) rfl ?_ ?_ ?_ ?_
        · rw [List.length_take, List.length_drop]; omega
        · rw [List.map_take, List.map_drop]
          exact ((hrd.drewN (nq + 1)).cut (by rw [List.length_map]) hk hlc).take m
        · omega
        · intro A' c' w2 g1 g2 g3 g4 g5 g6
          have hr2 : Rdr w2 r s := (h.drewN (nq + 1)).below g2
          have hg2 : w.grownBy w2 (some r) := grownBy_of_below (a := w) (w := w2) ⟨g2.os, g2.tape, g2.output, g2.size, g2.block⟩ _
          obtain ⟨A2, c2', ⟨d0, d1, d2⟩, ⟨e0, e1, e2⟩, _, _, _, _, _⟩ := hr2.open_
          have G1 := Lib.hid g1; clear g1
          have G2 := Lib.hid g2; clear g2
          have G5 := Lib.hid g5; clear g5
          have G6 := Lib.hid g6; clear g6
          clear c0 c1 c2 f0 f1 f2
          generalize (if c = s.at_ then A else Option.map (fun x => x.add s.at_) A) = A9
          have em : ((s.at_ : Int) + (m : Int)).toNat - s.at_ = m := by omega
          have G1' := G1.out
          rw [em] at G1'
          rw [em]
          have G3 := Lib.hid G1'; clear G1'
          clear G1 em g3 g4
          go_wp2
          go_ret
          rw [H1.out]
          refine ⟨_, rfl, ?_, ?_, ?_⟩
          · exact Own.setBelow (p := ⟨r, 1, none⟩) (show OwnB w2 w.heap.size _ _ from G3.out) h.lt _
          · have := hr2.setAt (s.at_ + m) (by omega)
            rw [show ((s.at_ + m : Nat) : Int) = (s.at_ : Int) + (m : Int) by omega] at this
            exact this
          · exact only_trans hg2 (only_set r 1 _)
  · have hb : (((s.err : Nat) : Int) != 0) = true := by rw [bne_iff_ne]; omega
    have e1 : takeR s n = ([], s) := if_pos h0
    rw [e1]
    clear e1
    have H0 := Lib.hid h0; clear h0
    go_enter Try.func94, Try.ntmps94
    go_wp2
    go_ret
    exact ⟨_, rfl, Own.nil_ _ _ _, h, World.grownBy.refl _ _⟩

def textR (s : RS) (most : Int) : List UInt8 × RS :=
  if s.err ≠ 0 then ([], s) else match varGo (s.b.drop s.at_) 0 with
    | .bad e => ([], { s with err := e })
    | .ok n k => if most < 0 ∨ most < (n : Int) then ([], { s with err := 4 })
      else if s.b.length < s.at_ + k + n then ([], { s with err := 2 })
      else ((s.b.drop (s.at_ + k)).take n, { s with at_ := s.at_ + k + n })


theorem setAt_back {w : World} {r : Nat} {s : RS} (k : Nat) (h : Rdr w r s) (q : Nat) (hk : k ≤ s.b.length) : Rdr ((w.drewN q).setCell ⟨r, 1, none⟩ (.int .i64 (k : Int))) r { s with at_ := k } ∧ w.grownBy ((w.drewN q).setCell ⟨r, 1, none⟩ (.int .i64 (k : Int))) (some r) :=
  ⟨(h.drewN q).setAt k hk, only_setD q r 1 _⟩

set_option maxRecDepth 100000 in
set_option maxHeartbeats 400000 in
theorem Rtext_bad (r : Nat) (s s1 : RS) (n : Nat) (most : Int) (w : World) (h : Rdr w r s) (hv : varR s = (n, s1)) (he : s1.err ≠ 0) :
    Calls Try.prog 89 #[.pointer (some ⟨r, 0, none⟩), .int .i64 most] w fun e w' => e = .returned (.slice none 0 0) ∧ Rdr w' r { s1 with at_ := s.at_ } ∧ w.grownBy w' (some r) := by
  have hV := Rvar_c r s w h
  rw [hv] at hV
  have HV := Lib.hid hV; clear hV
  have hsb : s1.b = s.b := by
    have := congrArg (fun x => x.2.b) hv
    simp only [varR] at this
    rw [← this]
    split
    · rfl
    · split <;> rfl
  obtain ⟨A, c, ⟨c0, c1, c2⟩, ⟨f0, f1, f2⟩, hrd, hlc, hcm, hk, hl⟩ := h.open_
  have hb : (((s1.err : Nat) : Int) != 0) = true := by rw [bne_iff_ne]; omega
  have HS := Lib.hid hsb; clear hsb
  clear he hv
  go_enter Try.func89, Try.ntmps89
  go_wp2_with (first | (go_at_call 87; refine HV.out.mono ?_; rintro e w1 ⟨rfl, hr1, hg1⟩; obtain ⟨A1, c1', ⟨d0, d1, d2⟩, ⟨e0, e1, e2⟩, _, _, _, _, _⟩ := hr1.open_; clear c0 c1 c2 f0 f1 f2))
  go_ret
  exact ⟨rfl, hr1.setAt s.at_ (by rw [HS.out]; exact hk), only_trans hg1 (only_set r 1 _)⟩

set_option maxRecDepth 100000 in
set_option maxHeartbeats 400000 in
theorem Rtext_long (r : Nat) (s s1 : RS) (n : Nat) (most : Int) (w : World) (h : Rdr w r s) (hv : varR s = (n, s1)) (he : s1.err = 0) (hm : (Lit.int .i64 most).wf = true) (hlong : most < 0 ∨ most < (n : Int)) :
    Calls Try.prog 89 #[.pointer (some ⟨r, 0, none⟩), .int .i64 most] w fun e w' => e = .returned (.slice none 0 0) ∧ Rdr w' r { s1 with at_ := s.at_, err := 4 } ∧ w.grownBy w' (some r) := by
  have hV := Rvar_c r s w h
  rw [hv] at hV
  have HV := Lib.hid hV; clear hV
  have hsb : s1.b = s.b := by
    have := congrArg (fun x => x.2.b) hv
    simp only [varR] at this
    rw [← this]
    split
    · rfl
    · split <;> rfl
  obtain ⟨A, c, ⟨c0, c1, c2⟩, ⟨f0, f1, f2⟩, hrd, hlc, hcm, hk, hl⟩ := h.open_
  have hb : (((s1.err : Nat) : Int) != 0) = false := by rw [bne_eq_false_iff_eq]; omega
  have HS := Lib.hid hsb; clear hsb
  obtain ⟨hm1, hm2⟩ := bounds_i64 hm
  clear he hv
  have fin : ∀ w1, Rdr w1 r s1 → w.grownBy w1 (some r) → Rdr ((w1.setCell ⟨r, 2, none⟩ (.int .i64 4)).setCell ⟨r, 1, none⟩ (.int .i64 (s.at_ : Int))) r { s1 with at_ := s.at_, err := 4 } ∧ w.grownBy ((w1.setCell ⟨r, 2, none⟩ (.int .i64 4)).setCell ⟨r, 1, none⟩ (.int .i64 (s.at_ : Int))) (some r) := fun w1 h1 h2 =>
    ⟨(h1.setErr 4).setAt s.at_ (by show _ ≤ s1.b.length; rw [HS.out]; exact hk), only_trans h2 (only_trans (only_set r 2 _) (only_set r 1 _))⟩
  have FIN := Lib.hid fin; clear fin
  rcases Int.lt_or_le most 0 with h0 | h0
  · clear hlong
    go_enter Try.func89, Try.ntmps89
    go_wp2_with (first | (go_at_call 87; refine HV.out.mono ?_; rintro e w1 ⟨rfl, hr1, hg1⟩; obtain ⟨A1, c1', ⟨d0, d1, d2⟩, ⟨e0, e1, e2⟩, _, _, _, _, _⟩ := hr1.open_; clear c0 c1 c2 f0 f1 f2))
    go_ret
    exact ⟨rfl, FIN.out _ hr1 hg1⟩
  · have h1 : most < (n : Int) := by omega
    clear hlong
    go_enter Try.func89, Try.ntmps89
    go_wp2_with (first | (go_at_call 87; refine HV.out.mono ?_; rintro e w1 ⟨rfl, hr1, hg1⟩; obtain ⟨A1, c1', ⟨d0, d1, d2⟩, ⟨e0, e1, e2⟩, _, _, _, _, _⟩ := hr1.open_; clear c0 c1 c2 f0 f1 f2))
    go_ret
    exact ⟨rfl, FIN.out _ hr1 hg1⟩

set_option maxRecDepth 100000 in
set_option maxHeartbeats 400000 in
theorem Rtext_short (r : Nat) (s s1 : RS) (n : Nat) (most : Int) (w : World) (h : Rdr w r s) (hv : varR s = (n, s1)) (he : s1.err = 0) (hm : (Lit.int .i64 most).wf = true) (h0 : 0 ≤ most) (h1 : (n : Int) ≤ most) (hs : s1.b.length < s1.at_ + n) :
    Calls Try.prog 89 #[.pointer (some ⟨r, 0, none⟩), .int .i64 most] w fun e w' => e = .returned (.slice none 0 0) ∧ Rdr w' r { s1 with at_ := s.at_, err := 2 } ∧ w.grownBy w' (some r) := by
  have hV := Rvar_c r s w h
  rw [hv] at hV
  have HV := Lib.hid hV; clear hV
  have hsb : s1.b = s.b := by
    have := congrArg (fun x => x.2.b) hv
    simp only [varR] at this
    rw [← this]
    split
    · rfl
    · split <;> rfl
  obtain ⟨A, c, ⟨c0, c1, c2⟩, ⟨f0, f1, f2⟩, hrd, hlc, hcm, hk, hl⟩ := h.open_
  have hb : (((s1.err : Nat) : Int) != 0) = false := by rw [bne_eq_false_iff_eq]; omega
  have HS := Lib.hid hsb; clear hsb
  obtain ⟨hm1, hm2⟩ := bounds_i64 hm
  clear he hv
  have fin : ∀ w1 q, Rdr w1 r s1 → w.grownBy w1 (some r) → Rdr (((w1.drewN q).setCell ⟨r, 2, none⟩ (.int .i64 2)).setCell ⟨r, 1, none⟩ (.int .i64 (s.at_ : Int))) r { s1 with at_ := s.at_, err := 2 } ∧ w.grownBy (((w1.drewN q).setCell ⟨r, 2, none⟩ (.int .i64 2)).setCell ⟨r, 1, none⟩ (.int .i64 (s.at_ : Int))) (some r) := fun w1 q h1 h2 =>
    ⟨((h1.drewN q).setErr 2).setAt s.at_ (by show _ ≤ s1.b.length; rw [HS.out]; exact hk), only_trans h2 (only_trans (only_setD q r 2 _) (only_set r 1 _))⟩
  have FIN := Lib.hid fin; clear fin
  go_enter Try.func89, Try.ntmps89
  go_wp2_with (first | (go_at_call 87; refine HV.out.mono ?_; rintro e w1 ⟨rfl, hr1, hg1⟩; obtain ⟨A1, c1', ⟨d0, d1, d2⟩, ⟨e0, e1, e2⟩, _, _, _, hk1, hl1⟩ := hr1.open_; have hw := IntWalk.u64_in ((s1.b.length : Int) - (s1.at_ : Int)) ⟨by omega, by omega⟩; clear c0 c1 c2 f0 f1 f2))
  go_quiet (fail)
  go_wp2
  go_ret
  exact ⟨rfl, FIN.out _ _ hr1 hg1⟩

set_option maxRecDepth 100000 in
set_option maxHeartbeats 400000 in
theorem Rtext_take (r : Nat) (s s1 : RS) (n : Nat) (most : Int) (w : World) (h : Rdr w r s) (hv : varR s = (n, s1)) (he : s1.err = 0) (hm : (Lit.int .i64 most).wf = true) (h0 : 0 ≤ most) (h1 : (n : Int) ≤ most) (hs : s1.at_ + n ≤ s1.b.length) :
    Calls Try.prog 89 #[.pointer (some ⟨r, 0, none⟩), .int .i64 most] w fun e w' => ∃ v, e = .returned v ∧ OwnB w' w.heap.size v ((s1.b.drop s1.at_).take n) ∧ Rdr w' r { s1 with at_ := s1.at_ + n } ∧ w.grownBy w' (some r) := by
  have hV := Rvar_c r s w h
  rw [hv] at hV
  have HV := Lib.hid hV; clear hV
  obtain ⟨A, c, ⟨c0, c1, c2⟩, ⟨f0, f1, f2⟩, hrd, hlc, hcm, hk, hl⟩ := h.open_
  have hb : (((s1.err : Nat) : Int) != 0) = false := by rw [bne_eq_false_iff_eq]; omega
  obtain ⟨hm1, hm2⟩ := bounds_i64 hm
  have ht : takeR s1 (n : Int) = ((s1.b.drop s1.at_).take n, { s1 with at_ := s1.at_ + n }) := by
    rw [takeR, if_neg (by omega), if_neg (by omega), if_neg (by omega)]; rfl
  have HT := Lib.hid ht; clear ht
  clear he hv
  go_enter Try.func89, Try.ntmps89
  go_wp2_with (first | (go_at_call 87; refine HV.out.mono ?_; rintro e w1 ⟨rfl, hr1, hg1⟩; obtain ⟨A1, c1', ⟨d0, d1, d2⟩, ⟨e0, e1, e2⟩, _, _, _, hk1, hl1⟩ := hr1.open_; have hw := IntWalk.u64_in ((s1.b.length : Int) - (s1.at_ : Int)) ⟨by omega, by omega⟩; clear c0 c1 c2 f0 f1 f2))
  go_quiet (fail)
  go_wp2_with (fail)
  refine (Rtake_c r s1 (n : Int) _ (hr1.drewN _) (WalkArith.wf_i64 (by omega))).mono ?_
  rintro e w2 ⟨v, rfl, ho, hr2, hg2⟩
  rw [HT.out] at ho hr2
  have HO := Lib.hid ho; clear ho
  have HR2 := Lib.hid hr2; clear hr2
  go_wp2
  go_ret
  exact ⟨_, rfl, Own.low HO.out hg1.size, HR2.out, only_trans hg1 (only_of_drewN hg2)⟩

theorem Rtext_c (r : Nat) (s : RS) (most : Int) (w : World) (h : Rdr w r s) (hm : (Lit.int .i64 most).wf = true) :
    Calls Try.prog 89 #[.pointer (some ⟨r, 0, none⟩), .int .i64 most] w fun e w' => ∃ v, e = .returned v ∧ OwnB w' w.heap.size v (textR s most).1 ∧ Rdr w' r (textR s most).2 ∧ w.grownBy w' (some r) := by
  by_cases h0 : s.err = 0
  · cases hg : varGo (s.b.drop s.at_) 0 with
    | bad e =>
      have hv : varR s = (0, { s with err := e }) := by rw [varR, if_neg (by omega), hg]
      have ht : textR s most = ([], { s with err := e }) := by rw [textR, if_neg (by omega), hg]
      rw [ht]
      refine (Rtext_bad r s _ 0 most w h hv (by rcases varGo_err hg with rfl | rfl <;> simp)).mono ?_
      rintro e w' ⟨rfl, h1, h2⟩
      exact ⟨_, rfl, Own.nil_ _ _ _, h1, h2⟩
    | ok n k =>
      have hv : varR s = (n, { s with at_ := s.at_ + k }) := by rw [varR, if_neg (by omega), hg]
      by_cases hl : most < 0 ∨ most < (n : Int)
      · have ht : textR s most = ([], { s with err := 4 }) := by rw [textR, if_neg (by omega), hg]; exact if_pos hl
        rw [ht]
        refine (Rtext_long r s _ n most w h hv h0 hm hl).mono ?_
        rintro e w' ⟨rfl, h1, h2⟩
        exact ⟨_, rfl, Own.nil_ _ _ _, h1, h2⟩
      · by_cases hs : s.b.length < s.at_ + k + n
        · have ht : textR s most = ([], { s with err := 2 }) := by rw [textR, if_neg (by omega), hg]; exact (if_neg hl).trans (if_pos hs)
          rw [ht]
          refine (Rtext_short r s _ n most w h hv h0 hm (by omega) (by omega) hs).mono ?_
          rintro e w' ⟨rfl, h1, h2⟩
          exact ⟨_, rfl, Own.nil_ _ _ _, h1, h2⟩
        · have ht : textR s most = ((s.b.drop (s.at_ + k)).take n, { s with at_ := s.at_ + k + n }) := by rw [textR, if_neg (by omega), hg]; exact (if_neg hl).trans (if_neg hs)
          rw [ht]
          exact Rtext_take r s _ n most w h hv h0 hm (by omega) (by omega) (by show s.at_ + k + n ≤ s.b.length; omega)
  · have hv : varR s = (0, s) := if_pos h0
    have ht : textR s most = ([], s) := if_pos h0
    rw [ht]
    refine (Rtext_bad r s s 0 most w h hv h0).mono ?_
    rintro e w' ⟨rfl, h1, h2⟩
    exact ⟨_, rfl, Own.nil_ _ _ _, h1, h2⟩

end Go.Proofs.Ytgnciejbhaebeaa

/- What the reference's reader does: the same as the layer's. Conditions: lengths that fit. -/
namespace Go.Proofs.Ytgnciejbhaebeaa
open Go Go.RowKit

/-- The reference's reader as a value. -/
def rsV (A : Option Addr) (c : Nat) (s : RS) : Value := .agg #[.slice A s.b.length c, .int .i64 (s.at_ : Int), .int .i64 (s.err : Int)]
/-- What is known of it. -/
def RsOk (w : World) (A : Option Addr) (c : Nat) (s : RS) : Prop := Rd w A (s.b.map bv) ∧ s.b.length ≤ c ∧ c ≤ maxLen ∧ s.at_ ≤ s.b.length ∧ s.b.length ≤ 140737488355328

set_option maxRecDepth 100000 in
set_option maxHeartbeats 400000 in
theorem refLeft_c (A : Option Addr) (c : Nat) (s : RS) (w : World) (h : RsOk w A c s) :
    Calls Try.prog 81 #[rsV A c s] w fun e w' => e = .returned (.int .i64 ((s.b.length - s.at_ : Nat) : Int)) ∧ Below w.heap.size w w' := by
  obtain ⟨h1, h2, h3, h4, h5⟩ := h
  have e1 : ((s.b.length - s.at_ : Nat) : Int) = (s.b.length : Int) - (s.at_ : Int) := by omega
  rw [e1]
  clear e1
  unfold rsV
  go_enter Try.func81, Try.ntmps81
  go_wp2
  go_ret
  exact ⟨rfl, (Below.refl _ _).alloc (Nat.le_refl _) _⟩

set_option maxRecDepth 100000 in
set_option maxHeartbeats 400000 in
theorem refNumR_c (A : Option Addr) (c : Nat) (s : RS) (size : Int) (w : World) (h : RsOk w A c s) (hs : (Lit.int .i64 size).wf = true) :
    Calls Try.prog 95 #[rsV A c s, .int .i64 size] w fun e w' => e = .returned (.tuple #[.int .u64 ((numR s size).1 : Int), rsV A c (numR s size).2]) ∧ Below w.heap.size w w' := by
  obtain ⟨h1, h2, h3, h4, h5⟩ := h
  by_cases h0 : s.err = 0
  · have hb : (((s.err : Nat) : Int) != 0) = false := by rw [bne_eq_false_iff_eq]; omega
    by_cases hsz : size < 1 ∨ 8 < size
    · have e1 : numR s size = (0, { s with err := 1 }) := by rw [numR, if_neg (by omega), if_pos hsz]
      rw [e1]
      clear e1
      have H0 := Lib.hid h0; clear h0
      unfold rsV
      rcases hsz with k1 | k1
      all_goals
        go_enter Try.func95, Try.ntmps95
        go_wp2
        go_region
        all_goals
          go_wp2
          go_returns
          refine ⟨rfl, ?_⟩
          go_grown
    · obtain ⟨n, rfl⟩ := Int.eq_ofNat_of_zero_le (show 0 ≤ size by omega)
      have hn1 : 1 ≤ (n : Int) := by omega
      have hn8 : (n : Int) ≤ 8 := by omega
      by_cases hsh : (s.b.length : Int) - (s.at_ : Int) < (n : Int)
      · have e1 : numR s n = (0, { s with err := 2 }) := by rw [numR, if_neg (by omega), if_neg (by omega), if_pos hsh]
        rw [e1]
        clear e1
        have H0 := Lib.hid h0; clear h0
        have HS := Lib.hid hsz; clear hsz
        unfold rsV
        go_enter Try.func95, Try.ntmps95
        go_wp2
        go_region
        all_goals
          go_wp2
          go_returns
          refine ⟨rfl, ?_⟩
          go_grown
      · obtain ⟨l, el⟩ : ∃ l, l = s.b.drop s.at_ := ⟨_, rfl⟩
        have e1 : numR s n = (beN (l.take n), { s with at_ := s.at_ + n }) := by rw [numR, if_neg (by omega), if_neg (by omega), if_neg hsh, el]; rfl
        have hll : l.length + s.at_ = s.b.length := by rw [el, List.length_drop]; omega
        have hsh' : (n : Int) ≤ (s.b.length : Int) - (s.at_ : Int) := by omega
        obtain ⟨b, off, rfl, hlt, hcell⟩ := h1.addrB (by omega)
        have hlc : ∀ k (hk : k < l.length), w.cell? ⟨b, off + (s.at_ + k), none⟩ = some (.int .u8 ((l[k]).toNat : Int)) := by
          intro k hk
          rw [hcell (s.at_ + k) (by omega)]
          subst el
          simp [bv]
        rw [e1]
        clear e1
        have H0 := Lib.hid h0; clear h0
        have HS := Lib.hid hsz; clear hsz
        have HC := Lib.hid hlc; clear hlc hcell
        clear hsh el
        unfold rsV
        go_enter Try.func95, Try.ntmps95
        go_wp2
        go_loop [6, 7] (fun x i => ∃ k : Nat, k ≤ n ∧ i = .int .i64 k ∧ x = .int .u64 ((beN (l.take k) : Nat) : Int)) (fun x i => n - (intOf i).toNat)
        case atStart => exact ⟨0, Nat.zero_le _, rfl, rfl⟩
        case round =>
          obtain ⟨k, hkn, rfl, rfl⟩ := hrel
          rcases Nat.lt_or_ge k n with hlt2 | hge
          · have hkl : k < l.length := by omega
            have hc := HC.out k hkl
            obtain ⟨d, ed⟩ : ∃ d, d = (l[k]).toNat := ⟨_, rfl⟩
            rw [← ed] at hc
            have hd : d < 256 := by rw [ed]; exact UInt8.toNat_lt _
            obtain ⟨x, hx⟩ : ∃ x, x = beN (l.take k) := ⟨_, rfl⟩
            have hx1 : beN (l.take (k + 1)) = x * 256 + d := by
              rw [List.take_succ_eq_append_getElem hkl, beN_snoc, hx, ed]
            have hx2 : x < 256 ^ 7 := by
              rw [hx]
              exact Nat.lt_of_lt_of_le (beN_lt _) (Nat.pow_le_pow_right (by decide) (by rw [List.length_take]; omega))
            rw [← hx]
            have hw1 : IntKind.u64.wrap ((x : Int) * 256) = (x : Int) * 256 := IntWalk.u64_in _ ⟨by omega, by omega⟩
            have hw2 : IntKind.u64.wrap ((x : Int) * 256 + (d : Int)) = (x : Int) * 256 + (d : Int) := IntWalk.u64_in _ ⟨by omega, by omega⟩
            have HX1 := Lib.hid hx1; clear hx1
            have HX2 := Lib.hid hx2; clear hx2
            have HX := Lib.hid hx; clear hx
            have ED := Lib.hid ed; clear ed
            have hsk : (s.at_ : Int) + (k : Int) < (s.b.length : Int) := by omega
            go_wp2
            go_round
            case rel => exact ⟨k + 1, by omega, by go_num, by rw [HX1.out]; rfl⟩
            case measure => simp [intOf]; omega
          · obtain rfl : k = n := by omega
            go_wp2
            go_region
            all_goals
              go_wp2
              go_returns
              refine ⟨?_, by go_grown⟩
              simp only [Int.natCast_add]
  · have hb : (((s.err : Nat) : Int) != 0) = true := by rw [bne_iff_ne]; omega
    have e1 : numR s size = (0, s) := if_pos h0
    rw [e1]
    clear e1
    have H0 := Lib.hid h0; clear h0
    unfold rsV
    go_enter Try.func95, Try.ntmps95
    go_wp2
    go_region
    all_goals
      go_wp2
      go_returns
      refine ⟨rfl, ?_⟩
      go_grown
end Go.Proofs.Ytgnciejbhaebeaa

/- Plain law: what is read as a number is just what is laid for it, and the other way round. Conditions: none. -/
namespace Go.Proofs.Ytgnciejbhaebeaa
open Go Go.RowKit

theorem varGo_one : ∀ (l : List UInt8) (i n k : Nat), varGo l i = .ok n k → l.take k = varL n ∧ (0 < i → 0 < n)
  | [], _, _, _, h => by cases h
  | d :: l, i, n, k, h => by
    have hd := UInt8.toNat_lt d
    rw [varGo] at h
    by_cases hb : (i = 9 ∧ 1 < d.toNat) ∨ (0 < i ∧ d.toNat = 0)
    · rw [if_pos hb] at h; cases h
    · rw [if_neg hb] at h
      have hz : 0 < i → 0 < d.toNat := fun hi => by
        rcases Nat.eq_zero_or_pos d.toNat with h0 | h0
        · exact absurd (.inr ⟨hi, h0⟩) hb
        · exact h0
      by_cases h8 : d.toNat < 128
      · rw [if_pos h8] at h
        injection h with h1 h2
        subst h1; subst h2
        refine ⟨?_, hz⟩
        rw [varL_lo h8]
        show [d] = _
        congr 1
        apply UInt8.toNat_inj.1
        rw [lo_nat]; omega
      · rw [if_neg h8] at h
        cases hv : varGo l (i + 1) with
        | bad e => rw [hv] at h; cases h
        | ok n' k' =>
          rw [hv] at h
          injection h with h1 h2
          obtain ⟨g1, g2⟩ := varGo_one l (i + 1) n' k' hv
          have g3 := g2 (by omega)
          subst h1; subst h2
          refine ⟨?_, fun _ => by omega⟩
          rw [varL_hi (by omega), List.take_succ_cons, g1]
          congr 1
          · apply UInt8.toNat_inj.1
            rw [dig_nat]; omega
          · congr 1; omega

theorem varGo_back : ∀ (m : Nat) (n i : Nat) (more : List UInt8), n ≤ m → i ≤ 9 → n < 2 ^ (64 - 7 * i) → (0 < i → 0 < n) → varGo (varL n ++ more) i = .ok n (varL n).length := by
  intro m
  induction m using Nat.strongRecOn with
  | _ m ih =>
    intro n i more hnm hi hn hz
    by_cases h8 : n < 128
    · rw [varL_lo h8]
      show varGo (lo n :: more) i = _
      rw [varGo, if_neg, if_pos (by rw [lo_nat]; omega), lo_nat, Nat.mod_eq_of_lt (by omega)]
      · rfl
      · rw [lo_nat]
        rintro (⟨h1, h2⟩ | ⟨h1, h2⟩)
        · subst h1
          have : n < 2 ^ 1 := hn
          omega
        · have := hz h1; omega
    · rw [varL_hi (by omega)]
      have hi9 : i < 9 := by
        rcases Nat.lt_or_ge i 9 with h | h
        · exact h
        · obtain rfl : i = 9 := by omega
          have : n < 2 ^ 1 := hn
          omega
      have e : 2 ^ (64 - 7 * i) = 128 * 2 ^ (64 - 7 * (i + 1)) := by
        rw [show (128 : Nat) = 2 ^ 7 from rfl, ← Nat.pow_add]; congr 1; omega
      have h1 := ih (n / 128) (by omega) (n / 128) (i + 1) more (Nat.le_refl _) (by omega) (by omega) (by omega)
      show varGo (dig n :: (varL (n / 128) ++ more)) i = _
      rw [varGo, if_neg, if_neg (by rw [dig_nat]; omega), h1, dig_nat]
      · simp only [List.length_cons, VR.ok.injEq, and_true]
        omega
      · rw [dig_nat]
        rintro (⟨h1, h2⟩ | ⟨h1, h2⟩) <;> omega

theorem varGo_laid {n : Nat} (h : U64 n) (more : List UInt8) : varGo (varL n ++ more) 0 = .ok n (varL n).length := varGo_back n n 0 more (Nat.le_refl _) (by decide) h (fun h => absurd h (by decide))

theorem beN_cons (d : UInt8) (l : List UInt8) : beN (d :: l) = d.toNat * 256 ^ l.length + beN l := by
  have h : ∀ (l : List UInt8) (a : Nat), l.foldl (fun a d => a * 256 + d.toNat) a = a * 256 ^ l.length + beN l := by
    intro l
    induction l with
    | nil => intro a; simp [beN]
    | cons d l ih =>
      intro a
      have e2 : beN (d :: l) = d.toNat * 256 ^ l.length + beN l := by
        show List.foldl (fun a d => a * 256 + d.toNat) (0 * 256 + d.toNat) l = _
        rw [ih, Nat.zero_mul, Nat.zero_add]
      rw [List.foldl_cons, ih, e2, List.length_cons, Nat.pow_succ, Nat.add_mul]
      have e : a * 256 * 256 ^ l.length = a * (256 ^ l.length * 256) := by rw [Nat.mul_assoc, Nat.mul_comm 256]
      rw [e, Nat.add_assoc]
  show List.foldl (fun a d => a * 256 + d.toNat) (0 * 256 + d.toNat) l = _
  rw [h, Nat.zero_mul, Nat.zero_add]
theorem numL_succ (n size : Nat) : numL n (size + 1) = lo (n / 256 ^ size) :: numL n size := by
  unfold numL
  rw [List.range_succ_eq_map, List.map_cons, List.map_map]
  congr 1
  apply List.map_congr_left
  intro i hi
  show lo (n / 256 ^ (size + 1 - 1 - (i + 1))) = _
  rw [show size + 1 - 1 - (i + 1) = size - 1 - i by omega]
theorem beN_num (n : Nat) : ∀ size, beN (numL n size) = n % 256 ^ size
  | 0 => by simp [numL, beN, Nat.mod_one]
  | size + 1 => by
    rw [numL_succ, beN_cons, numL_length, beN_num n size, lo_nat, Nat.pow_succ, Nat.mod_mul]
    rw [Nat.mul_comm]; omega

/-- Digits of 128, the lowest first, as a number. -/
def valL : List UInt8 → Nat
  | [] => 0
  | d :: l => d.toNat % 128 + 128 * valL l
theorem valL_snoc (l : List UInt8) (d : UInt8) : valL (l ++ [d]) = valL l + 128 ^ l.length * (d.toNat % 128) := by
  induction l with
  | nil => simp [valL]
  | cons e l ih =>
    rw [List.cons_append, valL, ih, valL, List.length_cons, Nat.pow_succ, Nat.mul_add, Nat.mul_comm (128 ^ l.length) 128, Nat.mul_assoc, Nat.add_assoc]
theorem valL_drop_le (l : List UInt8) (j : Nat) : valL (l.drop j) ≤ valL l := by
  induction l generalizing j with
  | nil => simp
  | cons d l ih =>
    cases j with
    | zero => simp
    | succ j =>
      rw [List.drop_succ_cons]
      have := ih j
      simp only [valL]; omega
theorem valL_lt (l : List UInt8) : valL l < 128 ^ l.length := by
  induction l with
  | nil => decide
  | cons d l ih => rw [valL, List.length_cons, Nat.pow_succ]; omega
end Go.Proofs.Ytgnciejbhaebeaa

/- What the reference's reader does: Var, Take, Text, End. Conditions: lengths that fit. -/
namespace Go.Proofs.Ytgnciejbhaebeaa
open Go Go.RowKit

theorem heap2_old (w : World) (a b : Obj) : ((w.alloc a).alloc b).heap[w.heap.size]? = some a := (Below.heap_alloc _ _ w.heap.size (by simp)).trans (heap_alloc_new w _)
theorem heap2_new (w : World) (a b : Obj) : ((w.alloc a).alloc b).heap[w.heap.size + 1]? = some b := by
  have h := heap_alloc_new (w.alloc a) b
  rwa [World.size_alloc] at h

/-- What is known of a box of three cells. -/
theorem box3 {w : World} {g : Nat} {x y z : Value} {t : TypeId} (h : w.heap[g]? = some (.cells #[x, y, z] t (0, 0))) :
    (w.cell? ⟨g, 0, none⟩ = some x ∧ w.cell? ⟨g, 1, none⟩ = some y ∧ w.cell? ⟨g, 2, none⟩ = some z) ∧ w.frozen? ⟨g, 0, none⟩ = false ∧ w.frozen? ⟨g, 1, none⟩ = false ∧ w.frozen? ⟨g, 2, none⟩ = false :=
  ⟨⟨by rw [heap_cell h]; rfl, by rw [heap_cell h]; rfl, by rw [heap_cell h]; rfl⟩, heap_free h _, heap_free h _, heap_free h _⟩

set_option maxRecDepth 100000 in
set_option maxHeartbeats 400000 in
theorem refTake_c (A : Option Addr) (c : Nat) (s : RS) (n : Int) (w : World) (h : RsOk w A c s) (hs : (Lit.int .i64 n).wf = true) :
    Calls Try.prog 96 #[rsV A c s, .int .i64 n] w fun e w' => ∃ v, e = .returned (.tuple #[v, rsV A c (takeR s n).2]) ∧ OwnB w' w.heap.size v (takeR s n).1 ∧ Below w.heap.size w w' := by
  obtain ⟨h1, h2, h3, h4, h5⟩ := h
  by_cases h0 : s.err = 0
  · have hb : (((s.err : Nat) : Int) != 0) = false := by rw [bne_eq_false_iff_eq]; omega
    rcases Int.lt_or_le n 0 with k1 | k1
    · have e1 : takeR s n = ([], { s with err := 1 }) := by rw [takeR, if_neg (by omega), if_pos k1]
      rw [e1]
      clear e1
      have H0 := Lib.hid h0; clear h0
      unfold rsV
      go_enter Try.func96, Try.ntmps96
      go_wp2
      go_region
      all_goals
        go_wp2
        go_returns
        exact ⟨_, rfl, Own.nil_ _ _ _, by go_grown⟩
    · obtain ⟨m, rfl⟩ := Int.eq_ofNat_of_zero_le k1
      by_cases hsh : (s.b.length : Int) - (s.at_ : Int) < (m : Int)
      · have e1 : takeR s m = ([], { s with err := 2 }) := by rw [takeR, if_neg (by omega), if_neg (by omega), if_pos hsh]
        rw [e1]
        clear e1
        have H0 := Lib.hid h0; clear h0
        unfold rsV
        go_enter Try.func96, Try.ntmps96
        go_wp2
        go_region
        all_goals
          go_wp2
          go_returns
          exact ⟨_, rfl, Own.nil_ _ _ _, by go_grown⟩
      · have e1 : takeR s m = ((s.b.drop s.at_).take m, { s with at_ := s.at_ + m }) := by rw [takeR, if_neg (by omega), if_neg (by omega), if_neg hsh]; rfl
        have hsh' : (m : Int) ≤ (s.b.length : Int) - (s.at_ : Int) := by omega
        have hlen : ((s.b.drop s.at_).take m).length = m := by rw [List.length_take, List.length_drop]; omega
        have HLEN := Lib.hid hlen; clear hlen
        have hcut := (h1.cut (by rw [List.length_map]) h4 h2).take m
        rw [← List.map_drop, ← List.map_take] at hcut
        have hw2 : (s.at_ : Int) + (m : Int) ≤ (c : Int) := by omega
        rw [e1]
        clear e1 hsh
        have H0 := Lib.hid h0; clear h0
        unfold rsV
        by_cases hc : c = s.at_
        · subst hc
          obtain rfl : m = 0 := by omega
          rw [if_pos rfl] at hcut
          have HCUT := Lib.hid hcut; clear hcut
          go_enter Try.func96, Try.ntmps96
          go_wp2_with (fail)
          refine (Copy_c _ _ _ ((s.b.drop s.at_).take 0) _ HLEN.out ((HCUT.out.alloc _).alloc _) (by omega)).mono ?_
          rintro e w1 ⟨v, rfl, ho, hb1⟩
          have z := hb1.size
          simp only [World.size_alloc] at z hb1 ho
          have x0 := box3 ((hb1.block w.heap.size (by omega)).trans (heap2_old w _ _))
          have x1 := box3 ((hb1.block (w.heap.size + 1) (by omega)).trans (heap2_new w _ _))
          obtain ⟨⟨a0, a1, a2⟩, b0, b1, b2⟩ := x0
          obtain ⟨⟨d0, d1, d2⟩, f0, f1, f2⟩ := x1
          have hB : Below w.heap.size w w1 := (((Below.refl _ _).alloc (Nat.le_refl _) _).alloc (by simp) _).trans (hb1.mono (by omega))
          have HO := Lib.hid ho; clear ho
          go_wp2_with (fail)
          go_region
          all_goals
            go_wp2
            refine bodyPost_ret (v := .tuple #[v, .agg #[.slice A s.b.length s.at_, .int .i64 ((s.at_ : Int) + ((0 : Nat) : Int)), .int .i64 (s.err : Int)]]) (by simp [results, Try.results96, go_sem, d0, d1, d2]) rfl ?_
            refine ⟨v, by simp only [Int.natCast_add], ?_, ?_⟩
            · exact Own.low (Own.drewN (Own.setBelow (Own.setBelow (Own.setBelow (Own.setBelow HO.out (by show w.heap.size < _; omega) _) (by show w.heap.size + 1 < _; omega) _) (by show w.heap.size + 1 < _; omega) _) (by show w.heap.size + 1 < _; omega) _) 1) (by omega)
            · exact ((((hB.setCell (by simp) _).setCell (by simp) _).setCell (by simp) _).setCell (by simp) _).drew
        · rw [if_neg hc] at hcut
          have HCUT := Lib.hid hcut; clear hcut
          go_enter Try.func96, Try.ntmps96
          go_wp2_with (fail)
          refine (Copy_c _ _ _ ((s.b.drop s.at_).take m) _ HLEN.out ((HCUT.out.alloc _).alloc _) (by omega)).mono ?_
          rintro e w1 ⟨v, rfl, ho, hb1⟩
          have z := hb1.size
          simp only [World.size_alloc] at z hb1 ho
          have x0 := box3 ((hb1.block w.heap.size (by omega)).trans (heap2_old w _ _))
          have x1 := box3 ((hb1.block (w.heap.size + 1) (by omega)).trans (heap2_new w _ _))
          obtain ⟨⟨a0, a1, a2⟩, b0, b1, b2⟩ := x0
          obtain ⟨⟨d0, d1, d2⟩, f0, f1, f2⟩ := x1
          have hB : Below w.heap.size w w1 := (((Below.refl _ _).alloc (Nat.le_refl _) _).alloc (by simp) _).trans (hb1.mono (by omega))
          have HO := Lib.hid ho; clear ho
          go_wp2_with (fail)
          go_region
          all_goals
            go_wp2
            refine bodyPost_ret (v := .tuple #[v, .agg #[.slice A s.b.length c, .int .i64 ((s.at_ : Int) + ((m : Nat) : Int)), .int .i64 (s.err : Int)]]) (by simp [results, Try.results96, go_sem, d0, d1, d2]) rfl ?_
            refine ⟨v, by simp only [Int.natCast_add], ?_, ?_⟩
            · exact Own.low (Own.drewN (Own.setBelow (Own.setBelow (Own.setBelow (Own.setBelow HO.out (by show w.heap.size < _; omega) _) (by show w.heap.size + 1 < _; omega) _) (by show w.heap.size + 1 < _; omega) _) (by show w.heap.size + 1 < _; omega) _) 1) (by omega)
            · exact ((((hB.setCell (by simp) _).setCell (by simp) _).setCell (by simp) _).setCell (by simp) _).drew
  · have hb : (((s.err : Nat) : Int) != 0) = true := by rw [bne_iff_ne]; omega
    have e1 : takeR s n = ([], s) := if_pos h0
    rw [e1]
    clear e1
    have H0 := Lib.hid h0; clear h0
    unfold rsV
    go_enter Try.func96, Try.ntmps96
    go_wp2
    go_region
    all_goals
      go_wp2
      go_returns
      exact ⟨_, rfl, Own.nil_ _ _ _, by go_grown⟩
end Go.Proofs.Ytgnciejbhaebeaa
