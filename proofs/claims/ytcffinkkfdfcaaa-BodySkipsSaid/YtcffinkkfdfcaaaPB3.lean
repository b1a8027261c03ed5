/- Parts one behind the other: Copy and Same of the first reference: bytes copied, bytes held against each other; What the laws on sums call: the fixed example, the size, all held against all; The reference's Same of items: the same items are the same; What slices.Clone, keys.clone and the reference's Copy answer of events: the same events in memory of one's own; What keys.May and the reference's May answer: whether an event may be; What the layer wire's and its reference's Num answer: a number by so many bytes, the highest first; What keys.numbers.put and the reference's lay answer: a number in a version's way; and which event may not be; The bytes of a batch of events, in plain words; What an inbox and a nil queue answer; What tlv.lay answers: a list's bytes. Conditions: as told at each. -/
import Derived.Test.YtcffinkkfdfcaaaPB1
import Derived.Test.YtcffinkkfdfcaaaPB2
import Derived.Lib.SlBytesConst
import Derived.Lib.SmallJoins

set_option linter.unusedVariables false
set_option linter.unusedSimpArgs false
/- Copy and Same of the first reference: bytes copied, bytes held against each other. Conditions: lengths that fit. -/
namespace Go.Proofs.Ytcffinkkfdfcaaa
open Go Go.RowKit

def sameB (xs ys : List UInt8) : Bool := decide (xs = ys)
/-! ### Copy -/
set_option maxRecDepth 100000 in
set_option maxHeartbeats 400000 in
theorem Copy_c (A : Option Addr) (n c : Nat) (bs : List UInt8) (w : World) (hn : bs.length = n) (hr : Rd w A (bs.map bv)) (hl : n ≤ 140737488355328) :
    Calls Try.prog 10 #[.slice A n c] w fun e w' => ∃ v, e = .returned v ∧ OwnB w' w.heap.size v bs ∧ Below w.heap.size w w' := by
  have HN := Lib.hid hn; clear hn
  go_enter Try.func10, Try.ntmps10
  go_wp2_with (first | (at_make; refine wpList_makeB _ rfl (.tmp 5) (.tmp 5) rfl _ _ _ _ n rfl rfl rfl rfl hl ?_))
  intro w1 h1 h2 h3
  go_wp2_with (with_reducible refine wpList_copyB _ rfl (.tmp 7) (.tmp 8) rfl w.heap.size w.heap.size n n _ rfl h1 A n c bs rfl HN.out (hr.below h2) ?_; intro w2 h4 h5 _; have H4 := Lib.hid h4; clear h4)
  go_wp2
  go_ret
  refine ⟨_, rfl, ?_, h2.trans h5⟩
  have e : List.take n bs ++ List.drop n (List.replicate n 0) = bs := by
    rw [List.take_of_length_le (by rw [HN.out]; exact Nat.le_refl _), List.drop_of_length_le (by simp), List.append_nil]
  have h4 := H4.out
  rw [e] at h4
  exact h4

/-! ### Same -/
theorem take_succ_eq {xs ys : List UInt8} {k : Nat} (h : xs.take k = ys.take k) (hx : k < xs.length) (hy : k < ys.length) (he : xs[k] = ys[k]) : xs.take (k + 1) = ys.take (k + 1) := by
  rw [List.take_succ_eq_append_getElem hx, List.take_succ_eq_append_getElem hy, h, he]
theorem bv_bne {x y : UInt8} : (((x.toNat : Int) != (y.toNat : Int)) = true) ↔ x ≠ y := by
  rw [bne_iff_ne]
  constructor
  · rintro h rfl; exact h rfl
  · intro h e; exact h (UInt8.toNat_inj.1 (by omega))
theorem bv_bne_f {x y : UInt8} : (((x.toNat : Int) != (y.toNat : Int)) = false) ↔ x = y := by
  constructor
  · intro h
    apply Classical.byContradiction
    intro hn
    rw [bv_bne.2 hn] at h
    cases h
  · rintro rfl; simp

set_option maxRecDepth 100000 in
set_option maxHeartbeats 400000 in
theorem Same_c (A1 A2 : Option Addr) (n1 n2 c1 c2 : Nat) (xs ys : List UInt8) (w : World) (l1 : xs.length = n1) (l2 : ys.length = n2) (h1 : Rd w A1 (xs.map bv)) (h2 : Rd w A2 (ys.map bv)) (m1 : n1 ≤ maxLen) :
    Calls Try.prog 13 #[.slice A1 n1 c1, .slice A2 n2 c2] w fun e w' => e = .returned (.bool (sameB xs ys)) ∧ ∃ q, w' = w.drewN q := by
  unfold maxLen at m1
  by_cases hne : n1 = n2
  · subst hne
    rcases Nat.eq_zero_or_pos n1 with h0 | h0
    · subst h0
      have e1 : sameB xs ys = true := by rw [List.eq_nil_of_length_eq_zero l1, List.eq_nil_of_length_eq_zero l2]; rfl
      rw [e1]
      go_enter Try.func13, Try.ntmps13
      go_wp2
      go_loopw [13] (fun i wr => i = .int .i64 (0 : Nat) ∧ wr = w) (fun i _ => 0)
      case atStart => exact ⟨rfl, rfl⟩
      case round =>
        obtain ⟨rfl, rfl⟩ := hrel
        go_wp2
        go_ret
        exact ⟨rfl, 0, rfl⟩
    · obtain ⟨b1, o1, rfl, _, g1⟩ := h1.addrB (by omega)
      obtain ⟨b2, o2, rfl, _, g2⟩ := h2.addrB (by omega)
      have H1 : Hid (∀ k (h : k < xs.length), w.cell? ⟨b1, o1 + k, none⟩ = some (bv xs[k])) := g1
      have H2 : Hid (∀ k (h : k < ys.length), w.cell? ⟨b2, o2 + k, none⟩ = some (bv ys[k])) := g2
      clear g1 g2 h1 h2
      have L1 := Lib.hid l1; clear l1
      have L2 := Lib.hid l2; clear l2
      go_enter Try.func13, Try.ntmps13
      go_wp2
      go_loopw [13] (fun i wr => ∃ k : Nat, k ≤ n1 ∧ i = .int .i64 k ∧ (∃ q, wr = w.drewN q) ∧ xs.take k = ys.take k) (fun i _ => n1 - (intOf i).toNat)
      case atStart => exact ⟨0, Nat.zero_le _, rfl, ⟨0, rfl⟩, rfl⟩
      case round =>
        obtain ⟨k, hk, rfl, ⟨q, rfl⟩, ht⟩ := hrel
        have HT := Lib.hid ht; clear ht
        by_cases hlt : k < n1
        · have hx : k < xs.length := by rw [L1.out]; exact hlt
          have hy : k < ys.length := by rw [L2.out]; exact hlt
          obtain ⟨x, ex⟩ : ∃ x, x = xs[k] := ⟨_, rfl⟩
          obtain ⟨y, ey⟩ : ∃ y, y = ys[k] := ⟨_, rfl⟩
          have c1 : w.cell? ⟨b1, o1 + k, none⟩ = some (.int .u8 (x.toNat : Int)) := by rw [ex]; exact H1.out k hx
          have c2 : w.cell? ⟨b2, o2 + k, none⟩ = some (.int .u8 (y.toNat : Int)) := by rw [ey]; exact H2.out k hy
          have EX := Lib.hid ex; clear ex
          have EY := Lib.hid ey; clear ey
          by_cases hxy : x = y
          · have hb := bv_bne_f.2 hxy
            have HXY := Lib.hid hxy; clear hxy
            go_wp2
            go_quiet (fail)
            go_wp2
            go_roundw
            case rel => exact ⟨k + 1, by omega, by go_num, ⟨_, rfl⟩, take_succ_eq HT.out (by rw [L1.out]; exact hlt) (by rw [L2.out]; exact hlt) (by rw [← EX.out, ← EY.out]; exact HXY.out)⟩
            case measure => simp [intOf]; omega
          · have hb := bv_bne.2 hxy
            have HXY := Lib.hid hxy; clear hxy
            have e1 : sameB xs ys = false := by
              unfold sameB
              refine decide_eq_false fun e => HXY.out ?_
              subst e
              rw [EX.out, EY.out]
            go_wp2
            go_quiet (fail)
            go_wp2
            go_ret
            exact ⟨by rw [e1]; rfl, _, World.drewN_drewN _ _ _⟩
        · obtain rfl : k = n1 := by omega
          have e1 : sameB xs ys = true := by
            unfold sameB
            refine decide_eq_true ?_
            have := HT.out
            rw [List.take_of_length_le (by rw [L1.out]; exact Nat.le_refl _), List.take_of_length_le (by rw [L2.out]; exact Nat.le_refl _)] at this
            exact this
          go_wp2
          go_ret
          exact ⟨by rw [e1]; rfl, _, rfl⟩
  · have hb : ((n1 : Int) != (n2 : Int)) = true := by rw [bne_iff_ne]; omega
    have e1 : sameB xs ys = false := by
      unfold sameB
      refine decide_eq_false fun e => hne ?_
      rw [← l1, ← l2, e]
    rw [e1]
    clear e1
    have L1 := Lib.hid l1; clear l1
    have L2 := Lib.hid l2; clear l2
    go_enter Try.func13, Try.ntmps13
    go_wp2
    go_ret
    exact ⟨rfl, 0, rfl⟩
theorem sameB_true {xs ys : List UInt8} (h : xs = ys) : sameB xs ys = true := decide_eq_true h
theorem Same_t (A1 A2 : Option Addr) (n1 n2 c1 c2 : Nat) (xs : List UInt8) (w : World) (l1 : xs.length = n1) (l2 : xs.length = n2) (h1 : Rd w A1 (xs.map bv)) (h2 : Rd w A2 (xs.map bv)) (m1 : n1 ≤ maxLen) :
    Calls Try.prog 13 #[.slice A1 n1 c1, .slice A2 n2 c2] w fun e w' => e = .returned (.bool true) ∧ ∃ q, w' = w.drewN q := by
  have h := Same_c A1 A2 n1 n2 c1 c2 xs xs w l1 l2 h1 h2 m1
  rw [sameB_true rfl] at h
  exact h
end Go.Proofs.Ytcffinkkfdfcaaa

/- What the laws on sums call: the fixed example, the size, all held against all. Conditions: the table stands. -/
namespace Go.Proofs.Ytcffinkkfdfcaaa
open Go Go.RowKit
attribute [local go_sem] bv_store bv_cells no_cells bv_cellsOf run_eq_sumV run_guard_sumV

theorem sumV_agg (b : List UInt8) : sumV b = .agg ((sumL b).map bv).toArray := rfl
theorem get_of (l : List UInt8) (i : Nat) (x : UInt8) (h : l[i]? = some x) : getB l i = x := by simp [getB, List.getD, h]
theorem zeroA32 (w : World) : Bs (w.alloc (.cells #[.int .u8 0, .int .u8 0, .int .u8 0, .int .u8 0, .int .u8 0, .int .u8 0, .int .u8 0, .int .u8 0, .int .u8 0, .int .u8 0, .int .u8 0, .int .u8 0, .int .u8 0, .int .u8 0, .int .u8 0, .int .u8 0, .int .u8 0, .int .u8 0, .int .u8 0, .int .u8 0, .int .u8 0, .int .u8 0, .int .u8 0, .int .u8 0, .int .u8 0, .int .u8 0, .int .u8 0, .int .u8 0, .int .u8 0, .int .u8 0, .int .u8 0, .int .u8 0] 47)) w.heap.size 47 (List.replicate 32 0) := heap_alloc_new w _
theorem z32_len : (List.replicate 32 (0 : UInt8)).length = 32 := rfl

theorem conv_const (w : World) (C : Array Value) (n c : Nat) : (convert 25 25 (.slice (some ⟨w.heap.size, 0, none⟩) n c)).run Try.prog (w.alloc (.cells C 5)) = .ok (.slice (some ⟨w.heap.size, 0, none⟩) n c) (w.alloc (.cells C 5 (C.size, C.size + 1))) :=
  Lib.run_convert_bytes_const w 25 5 C n c Try.underlying25 Try.underlying5
theorem Rd.litM (w : World) (vs : List Value) (t : TypeId) (fr : Nat × Nat) : Rd (w.alloc (.cells vs.toArray t fr)) (some ⟨w.heap.size, 0, none⟩) vs := by
  refine .inr ⟨w.heap.size, 0, rfl, by simp, fun k hk => ?_⟩
  rw [Nat.zero_add, World.cell?_alloc_mark]
  simp

/-- A sum stored in a new array. -/
theorem wpList_putSum (w : World) {ops : Array Oper} {rest : List Oper} {o : Oper} {a : Act} {Q : Exit → Act → World → Prop} (hgd : o.guard = none) (x y : Operand) (ho : o.op = .store 47 x y)
    (b : List UInt8) (hx : a.eval x = .pointer (some ⟨w.heap.size, 0, none⟩)) (hy : a.eval y = sumV b)
    (h : ∀ w', Bs w' w.heap.size 47 (sumL b) → Below w.heap.size w w' → wpList Try.prog ops Q rest (a.put o.dst undef) w') : wpList Try.prog ops Q (o :: rest) a (w.alloc (.cells #[.int .u8 0, .int .u8 0, .int .u8 0, .int .u8 0, .int .u8 0, .int .u8 0, .int .u8 0, .int .u8 0, .int .u8 0, .int .u8 0, .int .u8 0, .int .u8 0, .int .u8 0, .int .u8 0, .int .u8 0, .int .u8 0, .int .u8 0, .int .u8 0, .int .u8 0, .int .u8 0, .int .u8 0, .int .u8 0, .int .u8 0, .int .u8 0, .int .u8 0, .int .u8 0, .int .u8 0, .int .u8 0, .int .u8 0, .int .u8 0, .int .u8 0, .int .u8 0] 47)) := by
  refine wpList_storeA _ hgd x y ho w.heap.size _ hx hy 47 (sumL b) (List.replicate 32 0) rfl (zeroA32 w) (sumL_len b) z32_len fun w' h1 h2 => h w' h1 ?_
  exact ((Below.refl _ _).alloc (Nat.le_refl _) _).grown h2 (by simp) (fun k e => by injection e with e; omega)

theorem RdS_one (w : World) (A : Option Addr) (n c : Nat) (b : List UInt8) (t : TypeId) (hn : b.length = n) (hr : Rd w A (b.map bv)) (h1 : n ≤ c) (h2 : c ≤ maxLen) :
    RdS (w.alloc (.cells #[.slice A n c] t)) (some ⟨w.heap.size, 0, none⟩) [b] := by
  refine .inr ⟨w.heap.size, 0, rfl, by simp, fun k hk => ?_⟩
  obtain rfl : k = 0 := by simp at hk; omega
  refine ⟨A, c, ?_, hr.alloc _, by simpa [hn] using h1, h2⟩
  rw [cell_of_row _ _ 0 _ _ (0, 0) (heap_alloc_new w _)]
  simp [hn]
attribute [local go_sem] conv_const

/-! ### The size -/
def SzOk (bss : List (List UInt8)) (e : Ending) : Prop := ∃ r : Int, e = .returned (.int .i64 r) ∧ 0 ≤ r ∧ r ≤ 9000000000000000000 ∧ (r ≤ 16384 → bss.flatten.length ≤ 16384)
/-! ### All held against all -/
theorem Same_q (A1 A2 : Option Addr) (n c1 c2 : Nat) (xs : List UInt8) (w : World) (l1 : xs.length = n) (h1 : Rd w A1 (xs.map bv)) (h2 : Rd w A2 (xs.map bv)) (m1 : n ≤ maxLen) (q m : Nat) :
    Calls Try.prog 13 #[.slice A1 n c1, .slice A2 n c2] (w.drewN (q + m)) fun e w' => e = .returned (.bool true) ∧ ∃ k, w' = w.drewN (q + k) :=
  (Same_t A1 A2 n n c1 c2 xs (w.drewN (q + m)) l1 l1 (h1.drewN _) (h2.drewN _) m1).mono fun _ _ ⟨he, q', hw⟩ => ⟨he, m + q', by rw [hw, World.drewN_drewN, Nat.add_assoc]⟩
/-- A literal slice of slices in a new block. -/
theorem RdS_lit (w : World) (ps : List (Option Addr × Nat × Nat)) (bss : List (List UInt8)) (t : TypeId) (hl : ps.length = bss.length)
    (h : ∀ x ∈ ps.zip bss, x.2.length = x.1.2.1 ∧ Rd w x.1.1 (x.2.map bv) ∧ x.1.2.1 ≤ x.1.2.2 ∧ x.1.2.2 ≤ maxLen) :
    RdS (w.alloc (.cells (ps.map fun p => Value.slice p.1 p.2.1 p.2.2).toArray t)) (some ⟨w.heap.size, 0, none⟩) bss := by
  refine .inr ⟨w.heap.size, 0, rfl, by simp, fun k hk => ?_⟩
  have hk' : k < ps.length := by omega
  have hz : k < (ps.zip bss).length := by simp; omega
  obtain ⟨h1, h2, h3, h4⟩ := h _ (List.getElem_mem hz)
  simp only [List.getElem_zip] at h1 h2 h3 h4
  refine ⟨ps[k].1, ps[k].2.2, ?_, h2.alloc _, by omega, h4⟩
  rw [Nat.zero_add, cell_of_row _ _ k _ _ (0, 0) (heap_alloc_new w _), h1]
  simp [hk']
end Go.Proofs.Ytcffinkkfdfcaaa

/- The reference's Same of items: the same items are the same. Conditions: items that can be read. -/
namespace Go.Proofs.Ytcffinkkfdfcaaa
open Go Go.RowKit

/-- One item. -/
theorem FoR.one {ok : Nat → Prop} {w : World} {A : Option Addr} {i : Nat} {k : Int} {cr li : Bool} {bs : List UInt8} {sub rest : Fo} (h : FoR ok w A i (.cons k cr li bs sub rest)) : (∃ b off At n c As d, A = some ⟨b, off, none⟩ ∧ b < w.heap.size ∧ ok b ∧
      (w.cell? ⟨b, off + i * 5, none⟩ = some (.int .i64 k) ∧ w.cell? ⟨b, off + i * 5 + 1, none⟩ = some (.bool cr) ∧ w.cell? ⟨b, off + i * 5 + 2, none⟩ = some (.bool li) ∧
       w.cell? ⟨b, off + i * 5 + 3, none⟩ = some (.slice At n c) ∧ w.cell? ⟨b, off + i * 5 + 4, none⟩ = some (.slice As sub.len d)) ∧
      TxtR ok w At n c bs ∧ FoR ok w As 0 sub ∧ sub.len ≤ d ∧ d ≤ maxLen ∧ sub.len ≤ 2199023255488) ∧ FoR ok w A (i + 1) rest := h

end Go.Proofs.Ytcffinkkfdfcaaa

/- What slices.Clone, keys.clone and the reference's Copy answer of events: the same events in memory of one's own. Conditions: events that can be read; lengths that fit. -/
namespace Go.Proofs.Ytcffinkkfdfcaaa
open Go Go.RowKit

end Go.Proofs.Ytcffinkkfdfcaaa

/- What keys.May and the reference's May answer: whether an event may be. Conditions: none. -/
namespace Go.Proofs.Ytcffinkkfdfcaaa
open Go Go.RowKit

end Go.Proofs.Ytcffinkkfdfcaaa

/- What the layer wire's and its reference's Num answer: a number by so many bytes, the highest first. Conditions: a number of 64 bits. -/
namespace Go.Proofs.Ytcffinkkfdfcaaa
open Go Go.RowKit

/-! ### Num -/
theorem numL_end {n size : Nat} {f : Nat → UInt8} (hf : ∀ i, i < size → f i = lo (n / 256 ^ (size - 1 - i))) : (List.range size).map f = numL n size := by
  unfold numL
  exact List.map_congr_left fun i hi => hf i (List.mem_range.1 hi)
/-- What stands in the row when the places from k on are laid. -/
def numTail (n size k : Nat) : List UInt8 := List.replicate k 0 ++ (numL n size).drop k
theorem numTail_start (n size : Nat) : numTail n size size = List.replicate size 0 := by
  unfold numTail
  rw [List.drop_of_length_le (by rw [numL_length]; exact Nat.le_refl _), List.append_nil]
theorem numTail_zero (n size : Nat) : numTail n size 0 = numL n size := by simp [numTail]
theorem numTail_step {n size k : Nat} (hk : k < size) : (numTail n size (k + 1)).set k (lo (n / 256 ^ (size - 1 - k))) = numTail n size k := by
  unfold numTail
  have h1 : (numL n size).drop k = lo (n / 256 ^ (size - 1 - k)) :: (numL n size).drop (k + 1) := by
    rw [List.drop_eq_getElem_cons (by rw [numL_length]; exact hk)]
    simp [numL]
  rw [h1, List.replicate_succ', List.append_assoc, List.set_append_right _ _ (by simp)]
  simp
theorem numTail_length (n size k : Nat) (hk : k ≤ size) : (numTail n size k).length = size := by
  unfold numTail; rw [List.length_append, List.length_replicate, List.length_drop, numL_length]; omega

def numLI (n : Nat) (size : Int) : List UInt8 := if 1 ≤ size ∧ size ≤ 8 then numL n size.toNat else []

set_option maxRecDepth 100000 in
set_option maxHeartbeats 400000 in
theorem Num_c (n : Nat) (size : Int) (w : World) (_hn : U64 n) :
    Calls Try.prog 34 #[.int .u64 n, .int .i64 size] w fun e w' => ∃ v, e = .returned v ∧ OwnB w' w.heap.size v (numLI n size) ∧ Below w.heap.size w w' := by
  rcases Int.lt_or_le size 1 with h1 | h1
  · go_enter Try.func34, Try.ntmps34
    go_wp2
    go_ret
    refine ⟨_, rfl, ?_, Below.refl _ _⟩
    rw [numLI, if_neg (by omega)]; exact Own.nil_ _ _ _
  rcases Int.lt_or_le 8 size with h8 | h8
  · go_enter Try.func34, Try.ntmps34
    go_wp2
    go_ret
    refine ⟨_, rfl, ?_, Below.refl _ _⟩
    rw [numLI, if_neg (by omega)]; exact Own.nil_ _ _ _
  obtain ⟨s, rfl⟩ := Int.eq_ofNat_of_zero_le (show 0 ≤ size by omega)
  have hfin : numLI n (s : Int) = numL n s := by rw [numLI, if_pos ⟨h1, h8⟩, Int.toNat_natCast]
  have HF := Lib.hid hfin; clear hfin
  go_enter Try.func34, Try.ntmps34
  go_wp2_with (first | (at_make; refine wpList_makeB _ rfl (.tmp 13) (.tmp 13) rfl _ _ _ _ s rfl rfl rfl rfl (by omega) ?_))
  intro w1 ho1 hb1 _
  go_wp2
  go_loopw [0, 6] (fun m i wr => ∃ k : Nat, k ≤ s ∧ i = .int .i64 ((k : Int) - 1) ∧ m = .int .u64 ((n / 256 ^ (s - k) : Nat) : Int) ∧ OwnB wr w.heap.size (.slice (some ⟨w.heap.size, 0, none⟩) s s) (numTail n s k) ∧ Below w.heap.size w wr) (fun m i _ => (intOf i + 1).toNat)
  case atStart =>
    refine ⟨s, Nat.le_refl _, rfl, ?_, ?_, hb1⟩
    · rw [Nat.sub_self, Nat.pow_zero, Nat.div_one]
    · rw [numTail_start]; exact ho1
  case round =>
    obtain ⟨k, hk, rfl, rfl, hown, hb⟩ := hrel
    rcases Nat.eq_zero_or_pos k with h0 | h0
    · subst h0
      go_wp2
      go_ret
      refine ⟨_, rfl, ?_, hb⟩
      rw [HF.out, ← numTail_zero]; exact hown
    · obtain ⟨j, rfl⟩ : ∃ j, k = j + 1 := ⟨k - 1, by omega⟩
      have hcell := hown.cell j (by rw [numTail_length _ _ _ hk]; omega)
      have hfree := hown.free j
      obtain ⟨x, hx⟩ : ∃ x, x = n / 256 ^ (s - (j + 1)) := ⟨_, rfl⟩
      have hq : x / 256 = n / 256 ^ (s - j) := by
        rw [hx, Nat.div_div_eq_div_mul, ← Nat.pow_succ, show (s - (j + 1)).succ = s - j by omega]
      rw [← hx]
      have HX := Lib.hid hx; clear hx
      have HQ := Lib.hid hq; clear hq
      go_wp2
      go_roundw
      case rel =>
        refine ⟨j, by omega, rfl, by rw [← HQ.out]; try rfl, ?_, hb.setCell (Nat.le_refl _) _⟩
        rw [int_lo (x := (x : Int) % 256) (n := x) (by omega), ← numTail_step (by omega)]
        have h := hown.set j (lo x)
        rw [HX.out] at h ⊢
        rw [show s - 1 - j = s - (j + 1) by omega]
        exact h
      case measure => simp [intOf]

set_option maxRecDepth 100000 in
set_option maxHeartbeats 400000 in
theorem refNum_c (n : Nat) (size : Int) (w : World) (hn : U64 n) :
    Calls Try.prog 37 #[.int .u64 n, .int .i64 size] w fun e w' => ∃ v, e = .returned v ∧ OwnB w' w.heap.size v (numLI n size) ∧ Below w.heap.size w w' := by
  rcases Int.lt_or_le size 1 with h1 | h1
  · go_enter Try.func37, Try.ntmps37
    go_wp2
    go_ret
    refine ⟨_, rfl, ?_, Below.refl _ _⟩
    rw [numLI, if_neg (by omega)]; exact Own.nil_ _ _ _
  rcases Int.lt_or_le 8 size with h8 | h8
  · go_enter Try.func37, Try.ntmps37
    go_wp2
    go_ret
    refine ⟨_, rfl, ?_, Below.refl _ _⟩
    rw [numLI, if_neg (by omega)]; exact Own.nil_ _ _ _
  obtain ⟨s, rfl⟩ := Int.eq_ofNat_of_zero_le (show 0 ≤ size by omega)
  have hfin : numLI n (s : Int) = numL n s := by rw [numLI, if_pos ⟨h1, h8⟩, Int.toNat_natCast]
  have HF := Lib.hid hfin; clear hfin
  go_enter Try.func37, Try.ntmps37
  go_wp2_with (first | (at_make; refine wpList_makeB _ rfl (.tmp 13) (.tmp 13) rfl _ _ _ _ s rfl rfl rfl rfl (by omega) ?_))
  intro w1 ho1 hb1 _
  go_wp2
  go_loopw [0, 6] (fun m i wr => ∃ k : Nat, k ≤ s ∧ i = .int .i64 (k : Int) ∧ m = .int .u64 ((n / 256 ^ k : Nat) : Int) ∧ OwnB wr w.heap.size (.slice (some ⟨w.heap.size, 0, none⟩) s s) (numTail n s (s - k)) ∧ Below w.heap.size w wr) (fun m i _ => s - (intOf i).toNat)
  case atStart =>
    refine ⟨0, Nat.zero_le _, rfl, ?_, ?_, hb1⟩
    · rw [Nat.pow_zero, Nat.div_one]
    · rw [Nat.sub_zero, numTail_start]; exact ho1
  case round =>
    obtain ⟨k, hk, rfl, rfl, hown, hb⟩ := hrel
    rcases Nat.lt_or_ge k s with h0 | h0
    · obtain ⟨x, hx⟩ : ∃ x, x = n / 256 ^ k := ⟨_, rfl⟩
      have hu : U64 x := hn.le (by rw [hx]; exact Nat.div_le_self _ _)
      have hw : IntKind.u64.wrap ((x : Int) / 256) = (x : Int) / 256 := u64_div hu 256
      have hq : x / 256 = n / 256 ^ (k + 1) := by rw [hx, Nat.div_div_eq_div_mul, ← Nat.pow_succ]
      obtain ⟨old, hcell⟩ : ∃ old, wr.cell? ⟨w.heap.size, s - 1 - k, none⟩ = some old := ⟨_, hown.cell (s - 1 - k) (by rw [numTail_length _ _ _ (by omega)]; omega)⟩
      have hfree := hown.free (s - 1 - k)
      rw [← hx]
      have HX := Lib.hid hx; clear hx
      have HQ := Lib.hid hq; clear hq
      go_wp2
      go_roundw
      case rel =>
        refine ⟨k + 1, by omega, by go_num, by rw [← HQ.out]; try rfl, ?_, hb.setCell (Nat.le_refl _) _⟩
        rw [int_lo (x := (x : Int) % 256) (n := x) (by omega), ← numTail_step (by omega), show s - (k + 1) + 1 = s - k by omega, show s - 1 - (s - (k + 1)) = k by omega, ← HX.out, show s - (k + 1) = s - 1 - k by omega]
        exact hown.set _ _
      case measure => simp [intOf]; omega
    · obtain rfl : k = s := by omega
      go_wp2
      go_ret
      refine ⟨_, rfl, ?_, hb⟩
      rw [Nat.sub_self, numTail_zero] at hown
      rw [HF.out]; exact hown

end Go.Proofs.Ytcffinkkfdfcaaa

/- What keys.numbers.put and the reference's lay answer: a number in a version's way; and which event may not be. Conditions: events that can be read. -/
namespace Go.Proofs.Ytcffinkkfdfcaaa
open Go Go.RowKit

def putL (f : Bool) (n : Nat) (size : Int) : List UInt8 := if f then numLI n size else varL n

def mostI (k : Int) : Int := if k = 1 then 8 else if k = 2 then 64 else -1
/-- The first event that may not be; -1: there is none. -/
def badGo : Nat → List Ev → Int
  | _, [] => -1
  | k, e :: es => if e.may then badGo (k + 1) es else k
theorem badGo_neg : ∀ (es : List Ev) (k : Nat), (0 ≤ badGo k es) ↔ es.all Ev.may = false
  | [], k => by simp [badGo]
  | e :: es, k => by
    rw [badGo, List.all_cons]
    cases h : e.may
    · simp
    · simpa using badGo_neg es (k + 1)

end Go.Proofs.Ytcffinkkfdfcaaa

/- The bytes of a batch of events, in plain words. Conditions: none. -/
namespace Go.Proofs.Ytcffinkkfdfcaaa
open Go Go.RowKit

def evL (f : Bool) (e : Ev) : List UInt8 :=
  putL f e.k.toNat 1 ++ (if e.k = 1 ∨ e.k = 2 then putL f e.t.length 1 ++ e.t else putL f e.x.toNat 1 ++ putL f e.y.toNat 1 ++ (if e.k = 3 then putL f e.b.toNat 1 else []))
def evsL (f : Bool) (es : List Ev) : List UInt8 := (es.map (evL f)).flatten
def encL (f : Bool) (base : Nat) (es : List Ev) : List UInt8 := putL f base 8 ++ putL f es.length 1 ++ evsL f es
def encE (ver : Int) (base : Nat) (es : List Ev) : List UInt8 × Nat :=
  if ver < 1 ∨ 3 < ver ∨ es = [] ∨ es.all Ev.may = false then ([], 1) else if 16 < es.length then ([], 4) else (encL (decide (ver = 1)) base es, 0)
theorem numLI_le (n : Nat) (s : Int) : (numLI n s).length ≤ 8 := by
  unfold numLI
  split
  · rw [numL_length]; omega
  · simp
theorem putL_le (f : Bool) (n : Nat) (s : Int) (h : U64 n) : (putL f n s).length ≤ 10 := by
  unfold putL
  split
  · have := numLI_le n s; omega
  · exact varL_len10 h
theorem may_bounds {e : Ev} (h : e.may = true) : (e.k = 1 ∨ e.k = 2 ∨ e.k = 3 ∨ e.k = 4) ∧ e.t.length ≤ 64 ∧ 0 ≤ e.x ∧ e.x ≤ 80 ∧ 0 ≤ e.y ∧ e.y ≤ 24 ∧ 0 ≤ e.b ∧ e.b ≤ 255 := by
  have := of_decide_eq_true h
  unfold mayP at this
  omega
theorem u64_small {n : Nat} (h : n ≤ 1000000) : U64 n := by unfold U64; omega
theorem evL_le (f : Bool) (e : Ev) (h : e.may = true) : (evL f e).length ≤ 100 := by
  obtain ⟨h0, h1, h2, h3, h4, h5, h6, h7⟩ := may_bounds h
  have p0 := putL_le f e.k.toNat 1 (u64_small (by omega))
  have p1 := putL_le f e.t.length 1 (u64_small (by omega))
  have p2 := putL_le f e.x.toNat 1 (u64_small (by omega))
  have p3 := putL_le f e.y.toNat 1 (u64_small (by omega))
  have p4 := putL_le f e.b.toNat 1 (u64_small (by omega))
  unfold evL
  rw [List.length_append]
  split
  · rw [List.length_append]; omega
  · rw [List.length_append, List.length_append]
    split
    · omega
    · simp only [List.length_nil]; omega
theorem evsL_le (f : Bool) : ∀ (es : List Ev), es.all Ev.may = true → (evsL f es).length ≤ 100 * es.length
  | [], _ => by simp [evsL]
  | e :: es, h => by
    rw [List.all_cons, Bool.and_eq_true] at h
    have h1 := evL_le f e h.1
    have h2 := evsL_le f es h.2
    have e1 : evsL f (e :: es) = evL f e ++ evsL f es := rfl
    rw [e1, List.length_append, List.length_cons]
    omega
theorem evsL_take (f : Bool) (es : List Ev) (k : Nat) (h : k < es.length) : evsL f (es.take (k + 1)) = evsL f (es.take k) ++ evL f es[k] := by
  unfold evsL
  rw [List.take_succ_eq_append_getElem h, List.map_append, List.flatten_append, List.map_cons, List.map_nil, List.flatten_cons, List.flatten_nil, List.append_nil]
def preL (f : Bool) (base n : Nat) (es : List Ev) : List UInt8 := putL f base 8 ++ putL f n 1 ++ evsL f es
theorem preL_le (f : Bool) (base n : Nat) (es : List Ev) (hb : U64 base) (hn : n ≤ 16) (hm : es.all Ev.may = true) (hl : es.length ≤ 16) : (preL f base n es).length ≤ 2000 := by
  have p0 := putL_le f base 8 hb
  have p1 := putL_le f n 1 (u64_small (by omega))
  have p2 := evsL_le f es hm
  unfold preL
  rw [List.length_append, List.length_append]
  omega
theorem all_take {es : List Ev} (h : es.all Ev.may = true) (k : Nat) : (es.take k).all Ev.may = true := by
  rw [List.all_eq_true] at h ⊢
  intro e he
  exact h e (List.mem_of_mem_take he)
end Go.Proofs.Ytcffinkkfdfcaaa

/- What an inbox and a nil queue answer. Conditions: events that can be read; lengths that fit. -/
namespace Go.Proofs.Ytcffinkkfdfcaaa
open Go Go.RowKit

def U63 (n : Nat) : Prop := n < 9223372036854775808
theorem u64_wrapN {n : Nat} (h : U64 n) : IntKind.u64.wrap (n : Int) = (n : Int) := by
  unfold U64 at h
  unfold IntKind.wrap
  simp [IntKind.bits, IntKind.signed]
  omega
section
variable {w w' : World} {b got : Nat}
end
/-- What an inbox takes: the new ones, the error, how many came. -/
def tkR (got base : Nat) (es : List Ev) : List Ev × Nat × Nat :=
  if es = [] ∨ 16 < es.length then ([], 1, got) else if got < base then ([], 15, got) else if es.length ≤ got - base then ([], 16, got) else (es.drop (got - base), 0, got + (es.length - (got - base)))
theorem EvsR.cut {ok : Nat → Prop} {w : World} {A : Option Addr} {ds : List EvV} {es : List Ev} (h : EvsR ok w A ds es) {k c : Nat} (hk : k ≤ es.length) (hc : es.length ≤ c) : EvsR ok w (if c = k then A else A.map (fun x => x.add (k * 5))) (ds.drop k) (es.drop k) := by
  have hl := h.len
  have hcd : cellsV (ds.drop k) = (cellsV ds).drop (k * 5) := by
    have e : cellsV ds = cellsV (ds.take k) ++ cellsV (ds.drop k) := by rw [← cellsV_append, List.take_append_drop]
    rw [e, List.drop_left' (by rw [cellsV_length, List.length_take]; omega)]
  refine ⟨by rw [List.length_drop, List.length_drop, hl], ?_, fun h0 a e => ?_, fun i h1 h2 => ?_⟩
  · rw [hcd]
    rcases h.row with h2 | ⟨b, off, rfl, hb, hcc⟩
    · left; rw [h2]; simp
    · by_cases e : c = k
      · left
        apply List.eq_nil_of_length_eq_zero
        rw [List.length_drop, cellsV_length]; omega
      · rw [if_neg e]
        refine .inr ⟨b, off + k * 5, ?_, hb, fun j hj => ?_⟩
        · unfold Addr.add
          by_cases h0 : k * 5 = 0
          · have : k = 0 := by omega
            subst this; simp
          · simp [h0]
        · simp only [List.length_drop] at hj
          rw [Nat.add_assoc, hcc (k * 5 + j) (by omega)]
          simp
  · rw [List.length_drop] at h0
    split at e
    · exact h.ok_ (by omega) a e
    · obtain ⟨a', ha, rfl⟩ := Option.map_eq_some_iff.1 e
      have := h.ok_ (by omega) a' ha
      unfold Addr.add
      split <;> exact this
  · have h1' : k + i < ds.length := by rw [List.length_drop] at h1; omega
    have h2' : k + i < es.length := by omega
    have := h.each (k + i) h1' h2'
    rw [List.getElem_drop, List.getElem_drop]
    exact this

end Go.Proofs.Ytcffinkkfdfcaaa

/- What tlv.lay answers: a list's bytes. Conditions: kinds and bytes that may be; no more items than so many. -/
namespace Go.Proofs.Ytcffinkkfdfcaaa
open Go Go.RowKit

theorem Rd.grownS {w w' : World} {A : Option Addr} {vs : List Value} (h : Rd w A vs) {row : Option Nat} (hg : w.grownBy w' row) (hne : vs ≠ [] → ∀ b off, A = some ⟨b, off, none⟩ → row ≠ some b) : Rd w' A vs := by
  by_cases hv : vs = []
  · exact .inl hv
  · exact h.grown hg (hne hv)

set_option maxRecDepth 100000 in
set_option maxHeartbeats 4000000 in
theorem lay_c : ∀ (M : Nat) (f : Fo), f.size = M → f.good → f.size ≤ 100000 → ∀ (ok : Nat → Prop) (A : Option Addr) (n c : Nat) (w : World), f.len = n → FoR ok w A 0 f → n ≤ 2199023255488 →
    Calls Try.prog 62 #[.slice A n c] w fun r w' => ∃ v, r = .returned v ∧ OwnB w' w.heap.size v (layL f) ∧ Below w.heap.size w w' := by
  intro M
  induction M using Nat.strongRecOn with
  | _ M ih =>
    intro f hM hgood hsz ok A n c w hn h1 hl
    have IH := Lib.hid ih; clear ih
    have HN := Lib.hid hn; clear hn
    have H1 := Lib.hid h1; clear h1
    have HM := Lib.hid hM; clear hM
    have HG := Lib.hid hgood; clear hgood
    have HSZ := Lib.hid hsz; clear hsz
    have HLE : Hid ((layL f).length ≤ 4116 * 100000) := Lib.hid (by have := layL_le f HG.out HSZ.out; have := HSZ.out; omega)
    go_enter Try.func62, Try.ntmps62
    go_wp2_with (fail)
    go_loopw [3, 10] (fun v i wr => ∃ (k : Nat) (r : Fo) (P : List UInt8), i = .int .i64 k ∧ Hid (k + r.len = n) ∧ Hid (FoR ok w A k r) ∧ Hid r.good ∧ Hid (r.size ≤ f.size) ∧ Hid (OwnB wr w.heap.size v P) ∧ Hid (layL f = P ++ layL r) ∧ Below w.heap.size w wr) (fun _ i _ => n - (intOf i).toNat)
    case atStart => exact ⟨0, f, [], rfl, Lib.hid (by rw [HN.out]; omega), H1, HG, Lib.hid (Nat.le_refl _), Lib.hid (Own.nil_ _ _ _), Lib.hid rfl, Below.refl _ _⟩
    case round =>
      obtain ⟨k, r, P, rfl, HK, R1, HGr, HS, HO, HL, kb⟩ := hrel
      cases r with
      | nil =>
        have hk : k = n := HK.out
        have hk' : (n : Int) ≤ (k : Int) := by omega
        clear hk
        go_wp2_with (fail)
        go_ret
        exact ⟨_, rfl, by rw [HL.out, layL, List.append_nil]; exact HO.out, kb⟩
      | cons z cr li bs sub rest =>
        obtain ⟨⟨b1, o1, At1, m1, cm1, As1, e1, rfl, hb1, -, ⟨x0, x1, x2, x3, x4⟩, t1, s1, l1, l2, l3⟩, r1⟩ := R1.out.one
        obtain ⟨g1, g2, g3, g4, -, g5⟩ := t1
        obtain ⟨z1, z2, z3, zs, zr⟩ := HGr.out
        have hkn : k < n := by have := HK.out; simp only [Fo.len] at this; omega
        have hlt' : (k : Int) < (n : Int) := by omega
        have R1b := Lib.hid r1
        have S1 := Lib.hid s1
        have G1 := Lib.hid g1
        have G2 := Lib.hid g2
        have ZS := Lib.hid zs
        have ZR := Lib.hid zr
        have HSb : Hid (rest.size ≤ f.size) := Lib.hid (by have := HS.out; simp only [Fo.size] at this; omega)
        have HSs : Hid (sub.size < M ∧ sub.size ≤ 100000) := Lib.hid (by have := HS.out; have := HM.out; have := HSZ.out; simp only [Fo.size] at *; omega)
        have HKb : Hid (k + 1 + rest.len = n) := Lib.hid (by have := HK.out; simp only [Fo.len] at this; omega)
        obtain ⟨sl, esl⟩ : ∃ sl, sl = sub.len := ⟨_, rfl⟩
        rw [← esl] at x4 l1 l3
        have ESL := Lib.hid esl
        rw [← kb.cell (p := ⟨b1, _, none⟩) hb1] at x0 x1 x2 x3 x4
        have hPl : Hid (P.length ≤ 4116 * 100000) := Lib.hid (by have := HLE.out; rw [HL.out, List.length_append] at this; omega)
        have hbs : Hid (bs.length ≤ 4096) := Lib.hid z3
        have KB := Lib.hid kb
        have HB1 := Lib.hid hb1
        obtain ⟨wa, ewa⟩ : ∃ wa, wa = wr.alloc (.cells #[.int .i64 z, .bool cr, .bool li, .slice At1 m1 cm1, .slice As1 sl e1] 76) := ⟨_, rfl⟩
        have hba : Below wr.heap.size wr wa := by rw [ewa]; exact (Below.refl _ _).alloc (Nat.le_refl _) _
        have hka : Below w.heap.size w wa := kb.trans (hba.mono kb.size)
        have HBA := Lib.hid hba
        have HKA := Lib.hid hka
        have EWA := Lib.hid ewa
        clear g1 g2 r1 s1 zs zr HK HS esl R1 HGr z3 kb hb1 ewa hba hka g3 g4
        cases cr with
        | true =>
          cases li with
          | true =>
            obtain ⟨N, eN⟩ : ∃ N, N = numI z true true := ⟨_, rfl⟩
            have hN : (N : Int) = 4 * z + 2 + 1 := by rw [eN]; unfold numI; simp; omega
            have hN2 : N ≤ 4003 := by rw [eN]; exact numI_le _ _ z1 z2
            have wN : IntKind.u64.wrap (4 * z + 2 + 1) = (N : Int) := by rw [← hN]; exact u64_wrapN (by unfold U64; omega)
            have EN := Lib.hid eN
            clear eN hN
            go_wp2_with (fail)
            rw [← EWA.out]
            refine (IH.out sub.size HSs.out.1 sub rfl ZS.out HSs.out.2 ok As1 sl e1 wa ESL.out.symm (S1.out.below HKA.out) l3).mono ?_
            rintro r w1 ⟨vi, rfl, hoi, hbi⟩
            obtain ⟨Ai, ci, evi, i1, i2, i3, i4⟩ := OwnB.form hoi
            obtain ⟨I, eI⟩ : ∃ I, I = layL sub := ⟨_, rfl⟩
            have hIl : I.length ≤ 4116 * 100000 := by rw [eI]; have := layL_le sub ZS.out HSs.out.2; have := HSs.out.2; omega
            rw [← eI] at evi i1 i3
            obtain ⟨ni, eni⟩ : ∃ ni, ni = I.length := ⟨_, rfl⟩
            rw [← eni] at evi hIl
            subst evi
            have hsep : I.map bv ≠ [] → ∀ b off, Ai = some ⟨b, off, none⟩ → b < w1.heap.size ∧ ∀ j, u3.ownBlock = some j → j ≠ b := fun _ b off e => by
              have q := i4 _ e
              refine ⟨q.2.1, fun j hj => ?_⟩
              have := (Own.lt HO.out j hj).2
              have := HBA.out.size
              have : wa.heap.size ≤ b := q.1
              omega
            have hb1' : Below wr.heap.size wr w1 := HBA.out.trans (hbi.mono HBA.out.size)
            have EI := Lib.hid eI
            have ENI := Lib.hid eni
            clear hoi hbi eI i1 i2 i4 eni
            go_wp2_with (fail)
            refine (Var_c N w1 (by unfold U64; omega)).mono ?_
            rintro r w2 ⟨v2, rfl, ho2, hb2⟩
            obtain ⟨A2, c2, ev2, -, -, R2', -⟩ := OwnB.form ho2
            obtain ⟨n2, en2⟩ : ∃ n2, n2 = (varL N).length := ⟨_, rfl⟩
            have hn2 : n2 ≤ 10 := by rw [en2]; exact varL_10 (by omega)
            rw [← en2] at ev2
            subst ev2
            have R2 := Lib.hid R2'
            have EN2 := Lib.hid en2
            have HB2 := Lib.hid (hb1'.trans (hb2.mono hb1'.size))
            have HZ2 := Lib.hid hb2.size
            have HO2 := Lib.hid (Own.below HO.out HB2.out)
            have HK2 := Lib.hid (KB.out.trans (HB2.out.mono KB.out.size))
            have RI2 := Lib.hid (i3.below hb2)
            have SEP := Lib.hid hsep
            have hz2 : w.heap.size ≤ w2.heap.size := HK2.out.size
            have wni := u64_wrapN (n := ni) (by unfold U64; omega)
            clear ho2 hb2 R2' en2 i3 hsep
            go_wp2_with (at_builtin; refine wpList_appB _ rfl (.tmp 30) (.tmp 33) rfl w.heap.size _ P rfl HO2.out A2 n2 c2 (varL N) rfl EN2.out.symm R2.out (by have := hPl.out; omega) hz2 ?_; intro v3 w3 ho3 hg3 hv3; have HO3 := Lib.hid ho3; have HK3 := Lib.hid (HK2.out.grown hg3 HK2.out.size (fun j hj => (Own.lt HO2.out j hj).1)); have RI3 := Lib.hid (RI2.out.grownS hg3 (fun hne b off e ej => (SEP.out hne b off e).2 b ej rfl)); have HV3 : Hid (v3.ownBlock = u3.ownBlock ∨ v3.ownBlock = some w2.heap.size) := Lib.hid hv3; have HZ3 := Lib.hid hg3.size; clear ho3 hg3 hv3 hz2)
            refine (Var_c ni w3 (by unfold U64; omega)).mono ?_
            rintro r w4 ⟨v4, rfl, ho4, hb4⟩
            obtain ⟨A4, c4, ev4, -, -, R4', -⟩ := OwnB.form ho4
            obtain ⟨n4, en4⟩ : ∃ n4, n4 = (varL ni).length := ⟨_, rfl⟩
            have hn4 : n4 ≤ 10 := by rw [en4]; exact varL_10 (by omega)
            rw [← en4] at ev4
            subst ev4
            have R4 := Lib.hid R4'
            have EN4 := Lib.hid en4
            have HO4 := Lib.hid (Own.below HO3.out hb4)
            have HK4 := Lib.hid (HK3.out.trans (hb4.mono HK3.out.size))
            have RI4 := Lib.hid (RI3.out.below hb4)
            have hz4 : w.heap.size ≤ w4.heap.size := HK4.out.size
            have hP3 : Hid ((P ++ varL N).length ≤ 4116 * 100000 + 10) := Lib.hid (by rw [List.length_append, ← EN2.out]; have := hPl.out; omega)
            clear ho4 hb4 R4' en4 wni
            go_wp2_with (first
              | (at_builtin; refine wpList_appB _ rfl (.tmp 34) (.tmp 38) rfl w.heap.size _ (P ++ varL N) rfl HO4.out A4 n4 c4 (varL ni) rfl EN4.out.symm R4.out (by have := hP3.out; omega) hz4 ?_; intro v5 w5 ho5 hg5 hv5; have HO5 := Lib.hid ho5; have HK5 := Lib.hid (HK4.out.grown hg5 HK4.out.size (fun j hj => (Own.lt HO4.out j hj).1)); have RI5 := Lib.hid (RI4.out.grownS hg5 (fun hne b off e ej => Or.elim HV3.out (fun q => (SEP.out hne b off e).2 b (q.symm.trans ej) rfl) (fun q => by (have ej' := Option.some.inj (q.symm.trans ej); have := (SEP.out hne b off e).1; have := HZ2.out; omega)))); have hz5 : w.heap.size ≤ w5.heap.size := HK5.out.size; have hP5 : Hid ((P ++ varL N ++ varL ni).length ≤ 4116 * 100000 + 20) := Lib.hid (by rw [List.length_append, ← EN4.out]; have := hP3.out; omega); clear ho5 hg5 hv5 hz4)
              | (at_builtin; refine wpList_appB _ rfl (.tmp 39) (.tmp 40) rfl w.heap.size _ (P ++ varL N ++ varL ni) rfl HO5.out Ai ni ci I rfl ENI.out.symm RI5.out (by have := hP5.out; omega) hz5 ?_; intro v6 w6 ho6 hg6 _; have HO6 := Lib.hid ho6; have HK6 := Lib.hid (HK5.out.grown hg6 HK5.out.size (fun j hj => (Own.lt HO5.out j hj).1)); clear ho6 hg6))
            go_roundw
            case rel => exact ⟨k + 1, rest, P ++ varL N ++ varL ni ++ I, by go_num, HKb, R1b, ZR, HSb, HO6, Lib.hid (by rw [HL.out, layL, EN.out, ENI.out, EI.out]; simp only [List.append_assoc]; rfl), HK6.out⟩
            case measure => simp [intOf]; omega
          | false =>
            obtain ⟨N, eN⟩ : ∃ N, N = numI z true false := ⟨_, rfl⟩
            have hN : (N : Int) = 4 * z + 2 := by rw [eN]; unfold numI; simp; omega
            have hN2 : N ≤ 4003 := by rw [eN]; exact numI_le _ _ z1 z2
            have wN : IntKind.u64.wrap (4 * z + 2) = (N : Int) := by rw [← hN]; exact u64_wrapN (by unfold U64; omega)
            have EN := Lib.hid eN
            clear eN hN
            obtain ⟨w1, ew1⟩ : ∃ w1, w1 = wa := ⟨_, rfl⟩
            obtain ⟨I, eI⟩ : ∃ I, I = bs := ⟨_, rfl⟩
            have eni : m1 = I.length := by rw [eI]; exact G1.out.symm
            obtain ⟨Ai, eAi⟩ : ∃ Ai, Ai = At1 := ⟨_, rfl⟩
            have i3 : Rd w1 Ai (I.map bv) := by rw [ew1, eAi, eI]; exact G2.out.below HKA.out
            have hIl : m1 ≤ 4116 * 100000 := by rw [eni, eI]; have := hbs.out; omega
            have hsep : I.map bv ≠ [] → ∀ b off, Ai = some ⟨b, off, none⟩ → b < w1.heap.size ∧ ∀ j, u3.ownBlock = some j → j ≠ b := fun hne b off e => by
              rcases G2.out with h | ⟨b', off', e', hb', _⟩
              · exact absurd (by rw [eI]; exact h) hne
              · rw [eAi, e'] at e; injection e with e; injection e with e
                have := HKA.out.size
                refine ⟨by rw [ew1]; omega, fun j hj => ?_⟩
                have := (Own.lt HO.out j hj).1
                omega
            have hb1' : Below wr.heap.size wr w1 := by rw [ew1]; exact HBA.out
            have EI := Lib.hid eI
            have EW1 := Lib.hid ew1
            have EAI := Lib.hid eAi
            have ENI := Lib.hid eni
            clear eI ew1 eAi eni
            go_wp2_with (fail)
            rw [← EWA.out, ← EW1.out, ← EAI.out]
            refine (Var_c N w1 (by unfold U64; omega)).mono ?_
            rintro r w2 ⟨v2, rfl, ho2, hb2⟩
            obtain ⟨A2, c2, ev2, -, -, R2', -⟩ := OwnB.form ho2
            obtain ⟨n2, en2⟩ : ∃ n2, n2 = (varL N).length := ⟨_, rfl⟩
            have hn2 : n2 ≤ 10 := by rw [en2]; exact varL_10 (by omega)
            rw [← en2] at ev2
            subst ev2
            have R2 := Lib.hid R2'
            have EN2 := Lib.hid en2
            have HB2 := Lib.hid (hb1'.trans (hb2.mono hb1'.size))
            have HZ2 := Lib.hid hb2.size
            have HO2 := Lib.hid (Own.below HO.out HB2.out)
            have HK2 := Lib.hid (KB.out.trans (HB2.out.mono KB.out.size))
            have RI2 := Lib.hid (i3.below hb2)
            have SEP := Lib.hid hsep
            have hz2 : w.heap.size ≤ w2.heap.size := HK2.out.size
            have wni := u64_wrapN (n := m1) (by unfold U64; omega)
            clear ho2 hb2 R2' en2 i3 hsep
            go_wp2_with (at_builtin; refine wpList_appB _ rfl (.tmp 30) (.tmp 33) rfl w.heap.size _ P rfl HO2.out A2 n2 c2 (varL N) rfl EN2.out.symm R2.out (by have := hPl.out; omega) hz2 ?_; intro v3 w3 ho3 hg3 hv3; have HO3 := Lib.hid ho3; have HK3 := Lib.hid (HK2.out.grown hg3 HK2.out.size (fun j hj => (Own.lt HO2.out j hj).1)); have RI3 := Lib.hid (RI2.out.grownS hg3 (fun hne b off e ej => (SEP.out hne b off e).2 b ej rfl)); have HV3 : Hid (v3.ownBlock = u3.ownBlock ∨ v3.ownBlock = some w2.heap.size) := Lib.hid hv3; have HZ3 := Lib.hid hg3.size; clear ho3 hg3 hv3 hz2)
            refine (Var_c m1 w3 (by unfold U64; omega)).mono ?_
            rintro r w4 ⟨v4, rfl, ho4, hb4⟩
            obtain ⟨A4, c4, ev4, -, -, R4', -⟩ := OwnB.form ho4
            obtain ⟨n4, en4⟩ : ∃ n4, n4 = (varL m1).length := ⟨_, rfl⟩
            have hn4 : n4 ≤ 10 := by rw [en4]; exact varL_10 (by omega)
            rw [← en4] at ev4
            subst ev4
            have R4 := Lib.hid R4'
            have EN4 := Lib.hid en4
            have HO4 := Lib.hid (Own.below HO3.out hb4)
            have HK4 := Lib.hid (HK3.out.trans (hb4.mono HK3.out.size))
            have RI4 := Lib.hid (RI3.out.below hb4)
            have hz4 : w.heap.size ≤ w4.heap.size := HK4.out.size
            have hP3 : Hid ((P ++ varL N).length ≤ 4116 * 100000 + 10) := Lib.hid (by rw [List.length_append, ← EN2.out]; have := hPl.out; omega)
            clear ho4 hb4 R4' en4 wni
            go_wp2_with (first
              | (at_builtin; refine wpList_appB _ rfl (.tmp 34) (.tmp 38) rfl w.heap.size _ (P ++ varL N) rfl HO4.out A4 n4 c4 (varL m1) rfl EN4.out.symm R4.out (by have := hP3.out; omega) hz4 ?_; intro v5 w5 ho5 hg5 hv5; have HO5 := Lib.hid ho5; have HK5 := Lib.hid (HK4.out.grown hg5 HK4.out.size (fun j hj => (Own.lt HO4.out j hj).1)); have RI5 := Lib.hid (RI4.out.grownS hg5 (fun hne b off e ej => Or.elim HV3.out (fun q => (SEP.out hne b off e).2 b (q.symm.trans ej) rfl) (fun q => by (have ej' := Option.some.inj (q.symm.trans ej); have := (SEP.out hne b off e).1; have := HZ2.out; omega)))); have hz5 : w.heap.size ≤ w5.heap.size := HK5.out.size; have hP5 : Hid ((P ++ varL N ++ varL m1).length ≤ 4116 * 100000 + 20) := Lib.hid (by rw [List.length_append, ← EN4.out]; have := hP3.out; omega); clear ho5 hg5 hv5 hz4)
              | (at_builtin; refine wpList_appB _ rfl (.tmp 39) (.tmp 40) rfl w.heap.size _ (P ++ varL N ++ varL m1) rfl HO5.out Ai m1 cm1 I rfl ENI.out.symm RI5.out (by have := hP5.out; omega) hz5 ?_; intro v6 w6 ho6 hg6 _; have HO6 := Lib.hid ho6; have HK6 := Lib.hid (HK5.out.grown hg6 HK5.out.size (fun j hj => (Own.lt HO5.out j hj).1)); clear ho6 hg6))
            go_roundw
            case rel => exact ⟨k + 1, rest, P ++ varL N ++ varL m1 ++ I, by go_num, HKb, R1b, ZR, HSb, HO6, Lib.hid (by rw [HL.out, layL, EN.out, ENI.out, EI.out]; simp only [List.append_assoc]; rfl), HK6.out⟩
            case measure => simp [intOf]; omega
        | false =>
          cases li with
          | true =>
            obtain ⟨N, eN⟩ : ∃ N, N = numI z false true := ⟨_, rfl⟩
            have hN : (N : Int) = 4 * z + 1 := by rw [eN]; unfold numI; simp; omega
            have hN2 : N ≤ 4003 := by rw [eN]; exact numI_le _ _ z1 z2
            have wN : IntKind.u64.wrap (4 * z + 1) = (N : Int) := by rw [← hN]; exact u64_wrapN (by unfold U64; omega)
            have EN := Lib.hid eN
            clear eN hN
            go_wp2_with (fail)
            rw [← EWA.out]
            refine (IH.out sub.size HSs.out.1 sub rfl ZS.out HSs.out.2 ok As1 sl e1 wa ESL.out.symm (S1.out.below HKA.out) l3).mono ?_
            rintro r w1 ⟨vi, rfl, hoi, hbi⟩
            obtain ⟨Ai, ci, evi, i1, i2, i3, i4⟩ := OwnB.form hoi
            obtain ⟨I, eI⟩ : ∃ I, I = layL sub := ⟨_, rfl⟩
            have hIl : I.length ≤ 4116 * 100000 := by rw [eI]; have := layL_le sub ZS.out HSs.out.2; have := HSs.out.2; omega
            rw [← eI] at evi i1 i3
            obtain ⟨ni, eni⟩ : ∃ ni, ni = I.length := ⟨_, rfl⟩
            rw [← eni] at evi hIl
            subst evi
            have hsep : I.map bv ≠ [] → ∀ b off, Ai = some ⟨b, off, none⟩ → b < w1.heap.size ∧ ∀ j, u3.ownBlock = some j → j ≠ b := fun _ b off e => by
              have q := i4 _ e
              refine ⟨q.2.1, fun j hj => ?_⟩
              have := (Own.lt HO.out j hj).2
              have := HBA.out.size
              have : wa.heap.size ≤ b := q.1
              omega
            have hb1' : Below wr.heap.size wr w1 := HBA.out.trans (hbi.mono HBA.out.size)
            have EI := Lib.hid eI
            have ENI := Lib.hid eni
            clear hoi hbi eI i1 i2 i4 eni
            go_wp2_with (fail)
            refine (Var_c N w1 (by unfold U64; omega)).mono ?_
            rintro r w2 ⟨v2, rfl, ho2, hb2⟩
            obtain ⟨A2, c2, ev2, -, -, R2', -⟩ := OwnB.form ho2
            obtain ⟨n2, en2⟩ : ∃ n2, n2 = (varL N).length := ⟨_, rfl⟩
            have hn2 : n2 ≤ 10 := by rw [en2]; exact varL_10 (by omega)
            rw [← en2] at ev2
            subst ev2
            have R2 := Lib.hid R2'
            have EN2 := Lib.hid en2
            have HB2 := Lib.hid (hb1'.trans (hb2.mono hb1'.size))
            have HZ2 := Lib.hid hb2.size
            have HO2 := Lib.hid (Own.below HO.out HB2.out)
            have HK2 := Lib.hid (KB.out.trans (HB2.out.mono KB.out.size))
            have RI2 := Lib.hid (i3.below hb2)
            have SEP := Lib.hid hsep
            have hz2 : w.heap.size ≤ w2.heap.size := HK2.out.size
            have wni := u64_wrapN (n := ni) (by unfold U64; omega)
            clear ho2 hb2 R2' en2 i3 hsep
            go_wp2_with (at_builtin; refine wpList_appB _ rfl (.tmp 30) (.tmp 33) rfl w.heap.size _ P rfl HO2.out A2 n2 c2 (varL N) rfl EN2.out.symm R2.out (by have := hPl.out; omega) hz2 ?_; intro v3 w3 ho3 hg3 hv3; have HO3 := Lib.hid ho3; have HK3 := Lib.hid (HK2.out.grown hg3 HK2.out.size (fun j hj => (Own.lt HO2.out j hj).1)); have RI3 := Lib.hid (RI2.out.grownS hg3 (fun hne b off e ej => (SEP.out hne b off e).2 b ej rfl)); have HV3 : Hid (v3.ownBlock = u3.ownBlock ∨ v3.ownBlock = some w2.heap.size) := Lib.hid hv3; have HZ3 := Lib.hid hg3.size; clear ho3 hg3 hv3 hz2)
            refine (Var_c ni w3 (by unfold U64; omega)).mono ?_
            rintro r w4 ⟨v4, rfl, ho4, hb4⟩
            obtain ⟨A4, c4, ev4, -, -, R4', -⟩ := OwnB.form ho4
            obtain ⟨n4, en4⟩ : ∃ n4, n4 = (varL ni).length := ⟨_, rfl⟩
            have hn4 : n4 ≤ 10 := by rw [en4]; exact varL_10 (by omega)
            rw [← en4] at ev4
            subst ev4
            have R4 := Lib.hid R4'
            have EN4 := Lib.hid en4
            have HO4 := Lib.hid (Own.below HO3.out hb4)
            have HK4 := Lib.hid (HK3.out.trans (hb4.mono HK3.out.size))
            have RI4 := Lib.hid (RI3.out.below hb4)
            have hz4 : w.heap.size ≤ w4.heap.size := HK4.out.size
            have hP3 : Hid ((P ++ varL N).length ≤ 4116 * 100000 + 10) := Lib.hid (by rw [List.length_append, ← EN2.out]; have := hPl.out; omega)
            clear ho4 hb4 R4' en4 wni
            go_wp2_with (first
              | (at_builtin; refine wpList_appB _ rfl (.tmp 34) (.tmp 38) rfl w.heap.size _ (P ++ varL N) rfl HO4.out A4 n4 c4 (varL ni) rfl EN4.out.symm R4.out (by have := hP3.out; omega) hz4 ?_; intro v5 w5 ho5 hg5 hv5; have HO5 := Lib.hid ho5; have HK5 := Lib.hid (HK4.out.grown hg5 HK4.out.size (fun j hj => (Own.lt HO4.out j hj).1)); have RI5 := Lib.hid (RI4.out.grownS hg5 (fun hne b off e ej => Or.elim HV3.out (fun q => (SEP.out hne b off e).2 b (q.symm.trans ej) rfl) (fun q => by (have ej' := Option.some.inj (q.symm.trans ej); have := (SEP.out hne b off e).1; have := HZ2.out; omega)))); have hz5 : w.heap.size ≤ w5.heap.size := HK5.out.size; have hP5 : Hid ((P ++ varL N ++ varL ni).length ≤ 4116 * 100000 + 20) := Lib.hid (by rw [List.length_append, ← EN4.out]; have := hP3.out; omega); clear ho5 hg5 hv5 hz4)
              | (at_builtin; refine wpList_appB _ rfl (.tmp 39) (.tmp 40) rfl w.heap.size _ (P ++ varL N ++ varL ni) rfl HO5.out Ai ni ci I rfl ENI.out.symm RI5.out (by have := hP5.out; omega) hz5 ?_; intro v6 w6 ho6 hg6 _; have HO6 := Lib.hid ho6; have HK6 := Lib.hid (HK5.out.grown hg6 HK5.out.size (fun j hj => (Own.lt HO5.out j hj).1)); clear ho6 hg6))
            go_roundw
            case rel => exact ⟨k + 1, rest, P ++ varL N ++ varL ni ++ I, by go_num, HKb, R1b, ZR, HSb, HO6, Lib.hid (by rw [HL.out, layL, EN.out, ENI.out, EI.out]; simp only [List.append_assoc]; rfl), HK6.out⟩
            case measure => simp [intOf]; omega
          | false =>
            obtain ⟨N, eN⟩ : ∃ N, N = numI z false false := ⟨_, rfl⟩
            have hN : (N : Int) = 4 * z := by rw [eN]; unfold numI; simp; omega
            have hN2 : N ≤ 4003 := by rw [eN]; exact numI_le _ _ z1 z2
            have wN : IntKind.u64.wrap (4 * z) = (N : Int) := by rw [← hN]; exact u64_wrapN (by unfold U64; omega)
            have EN := Lib.hid eN
            clear eN hN
            obtain ⟨w1, ew1⟩ : ∃ w1, w1 = wa := ⟨_, rfl⟩
            obtain ⟨I, eI⟩ : ∃ I, I = bs := ⟨_, rfl⟩
            have eni : m1 = I.length := by rw [eI]; exact G1.out.symm
            obtain ⟨Ai, eAi⟩ : ∃ Ai, Ai = At1 := ⟨_, rfl⟩
            have i3 : Rd w1 Ai (I.map bv) := by rw [ew1, eAi, eI]; exact G2.out.below HKA.out
            have hIl : m1 ≤ 4116 * 100000 := by rw [eni, eI]; have := hbs.out; omega
            have hsep : I.map bv ≠ [] → ∀ b off, Ai = some ⟨b, off, none⟩ → b < w1.heap.size ∧ ∀ j, u3.ownBlock = some j → j ≠ b := fun hne b off e => by
              rcases G2.out with h | ⟨b', off', e', hb', _⟩
              · exact absurd (by rw [eI]; exact h) hne
              · rw [eAi, e'] at e; injection e with e; injection e with e
                have := HKA.out.size
                refine ⟨by rw [ew1]; omega, fun j hj => ?_⟩
                have := (Own.lt HO.out j hj).1
                omega
            have hb1' : Below wr.heap.size wr w1 := by rw [ew1]; exact HBA.out
            have EI := Lib.hid eI
            have EW1 := Lib.hid ew1
            have EAI := Lib.hid eAi
            have ENI := Lib.hid eni
            clear eI ew1 eAi eni
            go_wp2_with (fail)
            rw [← EWA.out, ← EW1.out, ← EAI.out]
            refine (Var_c N w1 (by unfold U64; omega)).mono ?_
            rintro r w2 ⟨v2, rfl, ho2, hb2⟩
            obtain ⟨A2, c2, ev2, -, -, R2', -⟩ := OwnB.form ho2
            obtain ⟨n2, en2⟩ : ∃ n2, n2 = (varL N).length := ⟨_, rfl⟩
            have hn2 : n2 ≤ 10 := by rw [en2]; exact varL_10 (by omega)
            rw [← en2] at ev2
            subst ev2
            have R2 := Lib.hid R2'
            have EN2 := Lib.hid en2
            have HB2 := Lib.hid (hb1'.trans (hb2.mono hb1'.size))
            have HZ2 := Lib.hid hb2.size
            have HO2 := Lib.hid (Own.below HO.out HB2.out)
            have HK2 := Lib.hid (KB.out.trans (HB2.out.mono KB.out.size))
            have RI2 := Lib.hid (i3.below hb2)
            have SEP := Lib.hid hsep
            have hz2 : w.heap.size ≤ w2.heap.size := HK2.out.size
            have wni := u64_wrapN (n := m1) (by unfold U64; omega)
            clear ho2 hb2 R2' en2 i3 hsep
            go_wp2_with (at_builtin; refine wpList_appB _ rfl (.tmp 30) (.tmp 33) rfl w.heap.size _ P rfl HO2.out A2 n2 c2 (varL N) rfl EN2.out.symm R2.out (by have := hPl.out; omega) hz2 ?_; intro v3 w3 ho3 hg3 hv3; have HO3 := Lib.hid ho3; have HK3 := Lib.hid (HK2.out.grown hg3 HK2.out.size (fun j hj => (Own.lt HO2.out j hj).1)); have RI3 := Lib.hid (RI2.out.grownS hg3 (fun hne b off e ej => (SEP.out hne b off e).2 b ej rfl)); have HV3 : Hid (v3.ownBlock = u3.ownBlock ∨ v3.ownBlock = some w2.heap.size) := Lib.hid hv3; have HZ3 := Lib.hid hg3.size; clear ho3 hg3 hv3 hz2)
            refine (Var_c m1 w3 (by unfold U64; omega)).mono ?_
            rintro r w4 ⟨v4, rfl, ho4, hb4⟩
            obtain ⟨A4, c4, ev4, -, -, R4', -⟩ := OwnB.form ho4
            obtain ⟨n4, en4⟩ : ∃ n4, n4 = (varL m1).length := ⟨_, rfl⟩
            have hn4 : n4 ≤ 10 := by rw [en4]; exact varL_10 (by omega)
            rw [← en4] at ev4
            subst ev4
            have R4 := Lib.hid R4'
            have EN4 := Lib.hid en4
            have HO4 := Lib.hid (Own.below HO3.out hb4)
            have HK4 := Lib.hid (HK3.out.trans (hb4.mono HK3.out.size))
            have RI4 := Lib.hid (RI3.out.below hb4)
            have hz4 : w.heap.size ≤ w4.heap.size := HK4.out.size
            have hP3 : Hid ((P ++ varL N).length ≤ 4116 * 100000 + 10) := Lib.hid (by rw [List.length_append, ← EN2.out]; have := hPl.out; omega)
            clear ho4 hb4 R4' en4 wni
            go_wp2_with (first
              | (at_builtin; refine wpList_appB _ rfl (.tmp 34) (.tmp 38) rfl w.heap.size _ (P ++ varL N) rfl HO4.out A4 n4 c4 (varL m1) rfl EN4.out.symm R4.out (by have := hP3.out; omega) hz4 ?_; intro v5 w5 ho5 hg5 hv5; have HO5 := Lib.hid ho5; have HK5 := Lib.hid (HK4.out.grown hg5 HK4.out.size (fun j hj => (Own.lt HO4.out j hj).1)); have RI5 := Lib.hid (RI4.out.grownS hg5 (fun hne b off e ej => Or.elim HV3.out (fun q => (SEP.out hne b off e).2 b (q.symm.trans ej) rfl) (fun q => by (have ej' := Option.some.inj (q.symm.trans ej); have := (SEP.out hne b off e).1; have := HZ2.out; omega)))); have hz5 : w.heap.size ≤ w5.heap.size := HK5.out.size; have hP5 : Hid ((P ++ varL N ++ varL m1).length ≤ 4116 * 100000 + 20) := Lib.hid (by rw [List.length_append, ← EN4.out]; have := hP3.out; omega); clear ho5 hg5 hv5 hz4)
              | (at_builtin; refine wpList_appB _ rfl (.tmp 39) (.tmp 40) rfl w.heap.size _ (P ++ varL N ++ varL m1) rfl HO5.out Ai m1 cm1 I rfl ENI.out.symm RI5.out (by have := hP5.out; omega) hz5 ?_; intro v6 w6 ho6 hg6 _; have HO6 := Lib.hid ho6; have HK6 := Lib.hid (HK5.out.grown hg6 HK5.out.size (fun j hj => (Own.lt HO5.out j hj).1)); clear ho6 hg6))
            go_roundw
            case rel => exact ⟨k + 1, rest, P ++ varL N ++ varL m1 ++ I, by go_num, HKb, R1b, ZR, HSb, HO6, Lib.hid (by rw [HL.out, layL, EN.out, ENI.out, EI.out]; simp only [List.append_assoc]; rfl), HK6.out⟩
            case measure => simp [intOf]; omega
end Go.Proofs.Ytcffinkkfdfcaaa
