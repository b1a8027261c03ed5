/- Parts one behind the other: What the layer wire's and its reference's Num answer: a number by so many bytes, the highest first; Copy and Same of the first reference: bytes copied, bytes held against each other; Plain: which screens the first version can show, a cell's bytes, the diff by rows; What rows.Fits and the reference's Fits (16) answer; slices.Equal on cells; What slices.Equal on cells answers; What the reference's cellBytes answers: nine bytes of a cell. Conditions: as told at each. -/
import Derived.Test.YtipofokinjkclaaDoorPC19
import Derived.Test.YtipofokinjkclaaDoorPC1

set_option linter.unusedVariables false
set_option linter.unusedSimpArgs false
/- What the layer wire's and its reference's Num answer: a number by so many bytes, the highest first. Conditions: a number of 64 bits. -/
namespace Go.Proofs.YtipofokinjkclaaDoor
open Go Go.RowKit

/-! ### Num -/
theorem numL_end {n size : Nat} {f : Nat → UInt8} (hf : ∀ i, i < size → f i = lo (n / 256 ^ (size - 1 - i))) : (List.range size).map f = numL n size := by
  unfold numL
  exact List.map_congr_left fun i hi => hf i (List.mem_range.1 hi)
/-- What stands in the row when the places from k on are laid. -/
def numTail (n size k : Nat) : List UInt8 := List.replicate k 0 ++ (numL n size).drop k
theorem numTail_start (n size : Nat) : numTail n size size = List.replicate size 0 := by
  unfold numTail
  rw [List.drop_of_length_le (by rw [numL_length]; exact Nat.le_refl _), List.append_nil]
theorem numTail_zero (n size : Nat) : numTail n size 0 = numL n size := by simp [numTail]
theorem numTail_step {n size k : Nat} (hk : k < size) : (numTail n size (k + 1)).set k (lo (n / 256 ^ (size - 1 - k))) = numTail n size k := by
  unfold numTail
  have h1 : (numL n size).drop k = lo (n / 256 ^ (size - 1 - k)) :: (numL n size).drop (k + 1) := by
    rw [List.drop_eq_getElem_cons (by rw [numL_length]; exact hk)]
    simp [numL]
  rw [h1, List.replicate_succ', List.append_assoc, List.set_append_right _ _ (by simp)]
  simp
theorem numTail_length (n size k : Nat) (hk : k ≤ size) : (numTail n size k).length = size := by
  unfold numTail; rw [List.length_append, List.length_replicate, List.length_drop, numL_length]; omega

def numLI (n : Nat) (size : Int) : List UInt8 := if 1 ≤ size ∧ size ≤ 8 then numL n size.toNat else []

set_option maxRecDepth 100000 in
set_option maxHeartbeats 400000 in
theorem Num_c (n : Nat) (size : Int) (w : World) (_hn : U64 n) :
    Calls Tryd.prog 88 #[.int .u64 n, .int .i64 size] w fun e w' => ∃ v, e = .returned v ∧ OwnB w' w.heap.size v (numLI n size) ∧ Below w.heap.size w w' := by
  rcases Int.lt_or_le size 1 with h1 | h1
  · go_enter Tryd.func88, Tryd.ntmps88
    go_wp2
    go_ret
    refine ⟨_, rfl, ?_, Below.refl _ _⟩
    rw [numLI, if_neg (by omega)]; exact Own.nil_ _ _ _
  rcases Int.lt_or_le 8 size with h8 | h8
  · go_enter Tryd.func88, Tryd.ntmps88
    go_wp2
    go_ret
    refine ⟨_, rfl, ?_, Below.refl _ _⟩
    rw [numLI, if_neg (by omega)]; exact Own.nil_ _ _ _
  obtain ⟨s, rfl⟩ := Int.eq_ofNat_of_zero_le (show 0 ≤ size by omega)
  have hfin : numLI n (s : Int) = numL n s := by rw [numLI, if_pos ⟨h1, h8⟩, Int.toNat_natCast]
  have HF := Lib.hid hfin; clear hfin
  go_enter Tryd.func88, Tryd.ntmps88
  go_wp2_with (first | (at_make; refine wpList_makeB _ rfl (.tmp 13) (.tmp 13) rfl _ _ _ _ s rfl rfl rfl rfl (by omega) ?_))
  intro w1 ho1 hb1 _
  go_wp2
  go_loopw [0, 6] (fun m i wr => ∃ k : Nat, k ≤ s ∧ i = .int .i64 ((k : Int) - 1) ∧ m = .int .u64 ((n / 256 ^ (s - k) : Nat) : Int) ∧ OwnB wr w.heap.size (.slice (some ⟨w.heap.size, 0, none⟩) s s) (numTail n s k) ∧ Below w.heap.size w wr) (fun m i _ => (intOf i + 1).toNat)
  case atStart =>
    refine ⟨s, Nat.le_refl _, rfl, ?_, ?_, hb1⟩
    · rw [Nat.sub_self, Nat.pow_zero, Nat.div_one]
    · rw [numTail_start]; exact ho1
  case round =>
    obtain ⟨k, hk, rfl, rfl, hown, hb⟩ := hrel
    rcases Nat.eq_zero_or_pos k with h0 | h0
    · subst h0
      go_wp2
      go_ret
      refine ⟨_, rfl, ?_, hb⟩
      rw [HF.out, ← numTail_zero]; exact hown
    · obtain ⟨j, rfl⟩ : ∃ j, k = j + 1 := ⟨k - 1, by omega⟩
      have hcell := hown.cell j (by rw [numTail_length _ _ _ hk]; omega)
      have hfree := hown.free j
      obtain ⟨x, hx⟩ : ∃ x, x = n / 256 ^ (s - (j + 1)) := ⟨_, rfl⟩
      have hq : x / 256 = n / 256 ^ (s - j) := by
        rw [hx, Nat.div_div_eq_div_mul, ← Nat.pow_succ, show (s - (j + 1)).succ = s - j by omega]
      rw [← hx]
      have HX := Lib.hid hx; clear hx
      have HQ := Lib.hid hq; clear hq
      go_wp2
      go_roundw
      case rel =>
        refine ⟨j, by omega, rfl, by rw [← HQ.out]; try rfl, ?_, hb.setCell (Nat.le_refl _) _⟩
        rw [int_lo (x := (x : Int) % 256) (n := x) (by omega), ← numTail_step (by omega)]
        have h := hown.set j (lo x)
        rw [HX.out] at h ⊢
        rw [show s - 1 - j = s - (j + 1) by omega]
        exact h
      case measure => simp [intOf]

set_option maxRecDepth 100000 in
set_option maxHeartbeats 400000 in
theorem refNum_c (n : Nat) (size : Int) (w : World) (hn : U64 n) :
    Calls Tryd.prog 128 #[.int .u64 n, .int .i64 size] w fun e w' => ∃ v, e = .returned v ∧ OwnB w' w.heap.size v (numLI n size) ∧ Below w.heap.size w w' := by
  rcases Int.lt_or_le size 1 with h1 | h1
  · go_enter Tryd.func128, Tryd.ntmps128
    go_wp2
    go_ret
    refine ⟨_, rfl, ?_, Below.refl _ _⟩
    rw [numLI, if_neg (by omega)]; exact Own.nil_ _ _ _
  rcases Int.lt_or_le 8 size with h8 | h8
  · go_enter Tryd.func128, Tryd.ntmps128
    go_wp2
    go_ret
    refine ⟨_, rfl, ?_, Below.refl _ _⟩
    rw [numLI, if_neg (by omega)]; exact Own.nil_ _ _ _
  obtain ⟨s, rfl⟩ := Int.eq_ofNat_of_zero_le (show 0 ≤ size by omega)
  have hfin : numLI n (s : Int) = numL n s := by rw [numLI, if_pos ⟨h1, h8⟩, Int.toNat_natCast]
  have HF := Lib.hid hfin; clear hfin
  go_enter Tryd.func128, Tryd.ntmps128
  go_wp2_with (first | (at_make; refine wpList_makeB _ rfl (.tmp 13) (.tmp 13) rfl _ _ _ _ s rfl rfl rfl rfl (by omega) ?_))
  intro w1 ho1 hb1 _
  go_wp2
  go_loopw [0, 6] (fun m i wr => ∃ k : Nat, k ≤ s ∧ i = .int .i64 (k : Int) ∧ m = .int .u64 ((n / 256 ^ k : Nat) : Int) ∧ OwnB wr w.heap.size (.slice (some ⟨w.heap.size, 0, none⟩) s s) (numTail n s (s - k)) ∧ Below w.heap.size w wr) (fun m i _ => s - (intOf i).toNat)
  case atStart =>
    refine ⟨0, Nat.zero_le _, rfl, ?_, ?_, hb1⟩
    · rw [Nat.pow_zero, Nat.div_one]
    · rw [Nat.sub_zero, numTail_start]; exact ho1
  case round =>
    obtain ⟨k, hk, rfl, rfl, hown, hb⟩ := hrel
    rcases Nat.lt_or_ge k s with h0 | h0
    · obtain ⟨x, hx⟩ : ∃ x, x = n / 256 ^ k := ⟨_, rfl⟩
      have hu : U64 x := hn.le (by rw [hx]; exact Nat.div_le_self _ _)
      have hw : IntKind.u64.wrap ((x : Int) / 256) = (x : Int) / 256 := u64_div hu 256
      have hq : x / 256 = n / 256 ^ (k + 1) := by rw [hx, Nat.div_div_eq_div_mul, ← Nat.pow_succ]
      obtain ⟨old, hcell⟩ : ∃ old, wr.cell? ⟨w.heap.size, s - 1 - k, none⟩ = some old := ⟨_, hown.cell (s - 1 - k) (by rw [numTail_length _ _ _ (by omega)]; omega)⟩
      have hfree := hown.free (s - 1 - k)
      rw [← hx]
      have HX := Lib.hid hx; clear hx
      have HQ := Lib.hid hq; clear hq
      go_wp2
      go_roundw
      case rel =>
        refine ⟨k + 1, by omega, by go_num, by rw [← HQ.out]; try rfl, ?_, hb.setCell (Nat.le_refl _) _⟩
        rw [int_lo (x := (x : Int) % 256) (n := x) (by omega), ← numTail_step (by omega), show s - (k + 1) + 1 = s - k by omega, show s - 1 - (s - (k + 1)) = k by omega, ← HX.out, show s - (k + 1) = s - 1 - k by omega]
        exact hown.set _ _
      case measure => simp [intOf]; omega
    · obtain rfl : k = s := by omega
      go_wp2
      go_ret
      refine ⟨_, rfl, ?_, hb⟩
      rw [Nat.sub_self, numTail_zero] at hown
      rw [HF.out]; exact hown

end Go.Proofs.YtipofokinjkclaaDoor

/- Copy and Same of the first reference: bytes copied, bytes held against each other. Conditions: lengths that fit. -/
namespace Go.Proofs.YtipofokinjkclaaDoor
open Go Go.RowKit

def sameB (xs ys : List UInt8) : Bool := decide (xs = ys)
/-! ### Copy -/
set_option maxRecDepth 100000 in
set_option maxHeartbeats 400000 in
theorem Copy_c (A : Option Addr) (n c : Nat) (bs : List UInt8) (w : World) (hn : bs.length = n) (hr : Rd w A (bs.map bv)) (hl : n ≤ 140737488355328) :
    Calls Tryd.prog 44 #[.slice A n c] w fun e w' => ∃ v, e = .returned v ∧ OwnB w' w.heap.size v bs ∧ Below w.heap.size w w' := by
  have HN := Lib.hid hn; clear hn
  go_enter Tryd.func44, Tryd.ntmps44
  go_wp2_with (first | (at_make; refine wpList_makeB _ rfl (.tmp 5) (.tmp 5) rfl _ _ _ _ n rfl rfl rfl rfl hl ?_))
  intro w1 h1 h2 h3
  go_wp2_with (with_reducible refine wpList_copyB _ rfl (.tmp 7) (.tmp 8) rfl w.heap.size w.heap.size n n _ rfl h1 A n c bs rfl HN.out (hr.below h2) ?_; intro w2 h4 h5 _; have H4 := Lib.hid h4; clear h4)
  go_wp2
  go_ret
  refine ⟨_, rfl, ?_, h2.trans h5⟩
  have e : List.take n bs ++ List.drop n (List.replicate n 0) = bs := by
    rw [List.take_of_length_le (by rw [HN.out]; exact Nat.le_refl _), List.drop_of_length_le (by simp), List.append_nil]
  have h4 := H4.out
  rw [e] at h4
  exact h4

/-! ### Same -/
theorem take_succ_eq {xs ys : List UInt8} {k : Nat} (h : xs.take k = ys.take k) (hx : k < xs.length) (hy : k < ys.length) (he : xs[k] = ys[k]) : xs.take (k + 1) = ys.take (k + 1) := by
  rw [List.take_succ_eq_append_getElem hx, List.take_succ_eq_append_getElem hy, h, he]
theorem bv_bne {x y : UInt8} : (((x.toNat : Int) != (y.toNat : Int)) = true) ↔ x ≠ y := by
  rw [bne_iff_ne]
  constructor
  · rintro h rfl; exact h rfl
  · intro h e; exact h (UInt8.toNat_inj.1 (by omega))
theorem bv_bne_f {x y : UInt8} : (((x.toNat : Int) != (y.toNat : Int)) = false) ↔ x = y := by
  constructor
  · intro h
    apply Classical.byContradiction
    intro hn
    rw [bv_bne.2 hn] at h
    cases h
  · rintro rfl; simp

set_option maxRecDepth 100000 in
set_option maxHeartbeats 400000 in
theorem Same_c (A1 A2 : Option Addr) (n1 n2 c1 c2 : Nat) (xs ys : List UInt8) (w : World) (l1 : xs.length = n1) (l2 : ys.length = n2) (h1 : Rd w A1 (xs.map bv)) (h2 : Rd w A2 (ys.map bv)) (m1 : n1 ≤ maxLen) :
    Calls Tryd.prog 24 #[.slice A1 n1 c1, .slice A2 n2 c2] w fun e w' => e = .returned (.bool (sameB xs ys)) ∧ ∃ q, w' = w.drewN q := by
  unfold maxLen at m1
  by_cases hne : n1 = n2
  · subst hne
    rcases Nat.eq_zero_or_pos n1 with h0 | h0
    · subst h0
      have e1 : sameB xs ys = true := by rw [List.eq_nil_of_length_eq_zero l1, List.eq_nil_of_length_eq_zero l2]; rfl
      rw [e1]
      go_enter Tryd.func24, Tryd.ntmps24
      go_wp2
      go_loopw [13] (fun i wr => i = .int .i64 (0 : Nat) ∧ wr = w) (fun i _ => 0)
      case atStart => exact ⟨rfl, rfl⟩
      case round =>
        obtain ⟨rfl, rfl⟩ := hrel
        go_wp2
        go_ret
        exact ⟨rfl, 0, rfl⟩
    · obtain ⟨b1, o1, rfl, _, g1⟩ := h1.addrB (by omega)
      obtain ⟨b2, o2, rfl, _, g2⟩ := h2.addrB (by omega)
      have H1 : Hid (∀ k (h : k < xs.length), w.cell? ⟨b1, o1 + k, none⟩ = some (bv xs[k])) := g1
      have H2 : Hid (∀ k (h : k < ys.length), w.cell? ⟨b2, o2 + k, none⟩ = some (bv ys[k])) := g2
      clear g1 g2 h1 h2
      have L1 := Lib.hid l1; clear l1
      have L2 := Lib.hid l2; clear l2
      go_enter Tryd.func24, Tryd.ntmps24
      go_wp2
      go_loopw [13] (fun i wr => ∃ k : Nat, k ≤ n1 ∧ i = .int .i64 k ∧ (∃ q, wr = w.drewN q) ∧ xs.take k = ys.take k) (fun i _ => n1 - (intOf i).toNat)
      case atStart => exact ⟨0, Nat.zero_le _, rfl, ⟨0, rfl⟩, rfl⟩
      case round =>
        obtain ⟨k, hk, rfl, ⟨q, rfl⟩, ht⟩ := hrel
        have HT := Lib.hid ht; clear ht
        by_cases hlt : k < n1
        · have hx : k < xs.length := by rw [L1.out]; exact hlt
          have hy : k < ys.length := by rw [L2.out]; exact hlt
          obtain ⟨x, ex⟩ : ∃ x, x = xs[k] := ⟨_, rfl⟩
          obtain ⟨y, ey⟩ : ∃ y, y = ys[k] := ⟨_, rfl⟩
          have c1 : w.cell? ⟨b1, o1 + k, none⟩ = some (.int .u8 (x.toNat : Int)) := by rw [ex]; exact H1.out k hx
          have c2 : w.cell? ⟨b2, o2 + k, none⟩ = some (.int .u8 (y.toNat : Int)) := by rw [ey]; exact H2.out k hy
          have EX := Lib.hid ex; clear ex
          have EY := Lib.hid ey; clear ey
          by_cases hxy : x = y
          · have hb := bv_bne_f.2 hxy
            have HXY := Lib.hid hxy; clear hxy
            go_wp2
            go_quiet (fail)
            go_wp2
            go_roundw
            case rel => exact ⟨k + 1, by omega, by go_num, ⟨_, rfl⟩, take_succ_eq HT.out (by rw [L1.out]; exact hlt) (by rw [L2.out]; exact hlt) (by rw [← EX.out, ← EY.out]; exact HXY.out)⟩
            case measure => simp [intOf]; omega
          · have hb := bv_bne.2 hxy
            have HXY := Lib.hid hxy; clear hxy
            have e1 : sameB xs ys = false := by
              unfold sameB
              refine decide_eq_false fun e => HXY.out ?_
              subst e
              rw [EX.out, EY.out]
            go_wp2
            go_quiet (fail)
            go_wp2
            go_ret
            exact ⟨by rw [e1]; rfl, _, World.drewN_drewN _ _ _⟩
        · obtain rfl : k = n1 := by omega
          have e1 : sameB xs ys = true := by
            unfold sameB
            refine decide_eq_true ?_
            have := HT.out
            rw [List.take_of_length_le (by rw [L1.out]; exact Nat.le_refl _), List.take_of_length_le (by rw [L2.out]; exact Nat.le_refl _)] at this
            exact this
          go_wp2
          go_ret
          exact ⟨by rw [e1]; rfl, _, rfl⟩
  · have hb : ((n1 : Int) != (n2 : Int)) = true := by rw [bne_iff_ne]; omega
    have e1 : sameB xs ys = false := by
      unfold sameB
      refine decide_eq_false fun e => hne ?_
      rw [← l1, ← l2, e]
    rw [e1]
    clear e1
    have L1 := Lib.hid l1; clear l1
    have L2 := Lib.hid l2; clear l2
    go_enter Tryd.func24, Tryd.ntmps24
    go_wp2
    go_ret
    exact ⟨rfl, 0, rfl⟩
theorem sameB_true {xs ys : List UInt8} (h : xs = ys) : sameB xs ys = true := decide_eq_true h
theorem Same_t (A1 A2 : Option Addr) (n1 n2 c1 c2 : Nat) (xs : List UInt8) (w : World) (l1 : xs.length = n1) (l2 : xs.length = n2) (h1 : Rd w A1 (xs.map bv)) (h2 : Rd w A2 (xs.map bv)) (m1 : n1 ≤ maxLen) :
    Calls Tryd.prog 24 #[.slice A1 n1 c1, .slice A2 n2 c2] w fun e w' => e = .returned (.bool true) ∧ ∃ q, w' = w.drewN q := by
  have h := Same_c A1 A2 n1 n2 c1 c2 xs xs w l1 l2 h1 h2 m1
  rw [sameB_true rfl] at h
  exact h
end Go.Proofs.YtipofokinjkclaaDoor

/- Plain: which screens the first version can show, a cell's bytes, the diff by rows. Conditions: none. -/
namespace Go.Proofs.YtipofokinjkclaaDoor
open Go Go.RowKit Go.Lib

/-- Is there anything that the first version can't show? -/
def bad16 (d : CeD) : Bool := !(d.w == 0) || (decide (256 < d.fg) || decide (256 < d.bg))
def fit16 (s : ScD) : Bool := rightS s && ((s.links.length == 0) && ((s.mouse == 0) && !s.cells.any bad16))
/-- A cell's nine bytes. -/
def cellB (d : CeD) : List UInt8 := numL d.r.toNat 4 ++ numL d.fg.toNat 2 ++ numL d.bg.toNat 2 ++ [lo d.at_.toNat]
theorem cellB_length (d : CeD) : (cellB d).length = 9 := by simp [cellB, numL_length]
def cellsB (l : List CeD) : List UInt8 := l.flatMap cellB
theorem cellsB_length (l : List CeD) : (cellsB l).length = l.length * 9 := by
  induction l with
  | nil => rfl
  | cons d l ih => show (cellB d ++ cellsB l).length = _; rw [List.length_append, cellB_length, ih, List.length_cons]; omega
theorem cellsB_snoc (l : List CeD) (d : CeD) : cellsB (l ++ [d]) = cellsB l ++ cellB d := by simp [cellsB]
/-- Rows told, up to the row y: how many, and their bytes. -/
def rowsT (C : Nat) (a b : List CeD) : Nat → Nat × List UInt8
  | 0 => (0, [])
  | y + 1 => if sameC (rowAt C y a) (rowAt C y b) then rowsT C a b y else ((rowsT C a b y).1 + 1, (rowsT C a b y).2 ++ (lo y :: cellsB (rowAt C y b)))
theorem rowsT_le (C : Nat) (a b : List CeD) : ∀ y, (rowsT C a b y).1 ≤ y
  | 0 => Nat.le_refl _
  | y + 1 => by
    have := rowsT_le C a b y
    rw [rowsT]
    split
    · omega
    · show (rowsT C a b y).1 + 1 ≤ y + 1
      omega
theorem rowsT_length (C : Nat) (a b : List CeD) : ∀ y, (rowsT C a b y).2.length ≤ y * (C * 9 + 1)
  | 0 => Nat.zero_le _
  | y + 1 => by
    have := rowsT_length C a b y
    have hl : (rowAt C y b).length ≤ C := by unfold rowAt; rw [List.length_take]; exact Nat.min_le_left _ _
    have hl2 := Nat.mul_le_mul_right 9 hl
    rw [rowsT, Nat.add_mul, Nat.one_mul]
    split
    · omega
    · simp only [List.length_append, List.length_cons, cellsB_length]; omega
/-- The flags, the title's part. -/
def flagsN (f0 : Nat) (hid ttl : Bool) : Nat := f0 + (if hid then 1 else 0) + (if ttl then 2 else 0)
def ttlB (ttl : Bool) (t : ByteArray) : List UInt8 := if ttl then lo t.size :: strB t else []
def headB (base b : ScD) (f0 : Nat) : List UInt8 := [lo b.cols.toNat, lo b.rows.toNat, lo b.x.toNat, lo b.y.toNat, lo (flagsN f0 b.hid (!(b.title.toList == base.title.toList)))] ++ ttlB (!(b.title.toList == base.title.toList)) b.title
def layB (base b : ScD) (f0 : Nat) : List UInt8 := headB base b f0 ++ (lo (rowsT b.cols.toNat base.cells b.cells b.rows.toNat).1 :: (rowsT b.cols.toNat base.cells b.cells b.rows.toNat).2)
/-- What a screen that fits is like. -/
structure Fit16 (s : ScD) (C R : Nat) : Prop where
  c : s.cols = (C : Int)
  r : s.rows = (R : Int)
  c1 : 1 ≤ C
  c2 : C ≤ 80
  r1 : 1 ≤ R
  r2 : R ≤ 24
  len : s.cells.length = C * R
  x0 : 0 ≤ s.x
  x1 : s.x < (C : Int)
  y0 : 0 ≤ s.y
  y1 : s.y < (R : Int)
  tl : s.title.size ≤ 64
  lk : s.links = []
  mo : s.mouse = 0
  ce : ∀ d ∈ s.cells, mayC d = true ∧ d.w = 0 ∧ d.fg ≤ 256 ∧ d.bg ≤ 256
theorem fit16_right {s : ScD} (h : fit16 s = true) : rightS s = true := by
  unfold fit16 at h
  rw [Bool.and_eq_true] at h
  exact h.1
theorem fit16_of {s : ScD} (h : fit16 s = true) : ∃ C R, Fit16 s C R := by
  have hr := fit16_right h
  have hg := gridP_may (rightS_grid hr)
  have hg2 := rightS_grid hr
  unfold gridP at hg2
  simp only [Bool.and_eq_true, decide_eq_true_eq] at hg2
  obtain ⟨C, R, e1, e2, c1, c2, r1, r2⟩ := fitsI_nat hg2.1
  unfold rightS at hr
  simp only [Bool.and_eq_true, Bool.not_eq_true', decide_eq_false_iff_not] at hr
  obtain ⟨-, -, h3, h4, h5, h6, h7, h8, -, -⟩ := hr
  unfold fit16 at h
  simp only [Bool.and_eq_true, beq_iff_eq, Bool.not_eq_true', List.any_eq_false] at h
  obtain ⟨-, g1, g2, g3⟩ := h
  refine ⟨C, R, e1, e2, c1, c2, r1, r2, ?_, by omega, by omega, by omega, by omega, by omega, List.eq_nil_of_length_eq_zero g1, g2, fun d hd => ⟨hg d hd, ?_⟩⟩
  · have := hg2.2.1
    rw [e1, e2] at this
    have e : (s.cells.length : Int) = ((C * R : Nat) : Int) := by rw [this]; exact (Int.natCast_mul C R).symm
    exact_mod_cast e
  · have := g3 d hd
    simp only [bad16, Bool.or_eq_true, not_or, Bool.not_eq_true, Bool.not_eq_false', beq_iff_eq, decide_eq_true_eq] at this
    refine ⟨this.1, by omega, by omega⟩
theorem widI_pos {r : Int} (h : widI r = 1) : 32 ≤ r ∧ r ≤ 1114111 := by
  unfold widI at h
  split at h
  · cases h
  · rename_i h2
    simp only [Bool.or_eq_true, not_or] at h2
    have := h2.1
    simp only [badW, Bool.or_eq_true, not_or, decide_eq_true_eq] at this
    omega
theorem Fit16.rune {s : ScD} {C R : Nat} (h : Fit16 s C R) : ∀ d ∈ s.cells, 32 ≤ d.r ∧ d.r ≤ 1114111 := fun d hd => by
  obtain ⟨h1, h2, _⟩ := h.ce d hd
  simp only [mayC, Bool.and_eq_true, Bool.or_eq_true, decide_eq_true_eq] at h1
  refine widI_pos ?_
  rcases h1.2 with (⟨_, b⟩ | ⟨a, _⟩) | ⟨a, _⟩
  · exact b
  · omega
  · omega
theorem rowAt_length {C y : Nat} {l : List CeD} (h : (y + 1) * C ≤ l.length) : (rowAt C y l).length = C := by
  unfold rowAt
  rw [Nat.add_mul, Nat.one_mul] at h
  rw [List.length_take, List.length_drop]; omega
/-- Full, Encode. -/
def full16 (b : ScD) : List UInt8 × Nat := if fit16 b then (layB (blankS b.cols b.rows) b 4, 0) else ([], 1)
def enc16 (a b : ScD) : List UInt8 × Nat := if fit16 a && fit16 b then (if (a.cols == b.cols) && (a.rows == b.rows) then (layB a b 0, 0) else full16 b) else ([], 1)
end Go.Proofs.YtipofokinjkclaaDoor

/- What rows.Fits and the reference's Fits (16) answer; slices.Equal on cells. Conditions: parts that can be read; the tables of widths lie where they were laid. -/
namespace Go.Proofs.YtipofokinjkclaaDoor
open Go Go.RowKit Go.Lib

def cellBox (w : World) (d : CeD) : World := w.alloc (.cells d.arr 47)
set_option maxRecDepth 100000 in
set_option maxHeartbeats 8000000 in
theorem fits1_c (d : CeD) (w : World) : Calls Tryd.prog 51 #[d.val] w fun e w' => e = .returned (.bool (bad16 d)) ∧ Below w.heap.size w w' := by
  obtain ⟨W0, eW0⟩ : ∃ W0, W0 = w.alloc (.cells d.arr 47) := ⟨_, rfl⟩
  obtain ⟨p, ep⟩ : ∃ p, p = w.heap.size := ⟨_, rfl⟩
  have hp0 : W0.heap[p]? = some (.cells d.arr 47 (0, 0)) := by rw [eW0, ep]; exact heap_alloc_new _ _
  have v1 : W0.cell? ⟨p, 1, none⟩ = some (.int .u8 d.w) := heap_cell hp0 1
  have v2 : W0.cell? ⟨p, 2, none⟩ = some (.int .u32 d.fg) := heap_cell hp0 2
  have v3 : W0.cell? ⟨p, 3, none⟩ = some (.int .u32 d.bg) := heap_cell hp0 3
  have HB0 : Hid (Below w.heap.size w W0) := Lib.hid (by rw [eW0]; exact (Below.refl _ _).alloc (Nat.le_refl _) _)
  have EW0 : Hid (w.alloc (.cells #[.int .i32 d.r, .int .u8 d.w, .int .u32 d.fg, .int .u32 d.bg, .int .u8 d.at_, .int .u16 d.ln] 47) = W0) := Lib.hid eW0.symm
  have EP := Lib.hid ep
  clear eW0 ep hp0
  unfold bad16
  obtain ⟨b1, e1⟩ : ∃ b, (d.w == 0) = b := ⟨_, rfl⟩
  have e1n : (d.w != 0) = !b1 := by rw [bne, e1]
  obtain ⟨b2, e2⟩ : ∃ b, decide (256 < d.fg) = b := ⟨_, rfl⟩
  obtain ⟨b3, e3⟩ : ∃ b, decide (256 < d.bg) = b := ⟨_, rfl⟩
  rw [e1, e2, e3]
  show Calls _ _ #[.agg #[.int .i32 d.r, .int .u8 d.w, .int .u32 d.fg, .int .u32 d.bg, .int .u8 d.at_, .int .u16 d.ln]] w _
  cases b1 <;> cases b2 <;> cases b3 <;>
  · go_enter Tryd.func51, Tryd.ntmps51
    go_upto_region 1 with (fail)
    rw [EW0.out, ← EP.out]
    go_wp2_with (fail)
    go_ret
    exact ⟨rfl, HB0.out⟩
/-- Where the first bad one stands. -/
def badAt : List CeD → Int → Int
  | [], _ => -1
  | d :: l, i => if bad16 d then i else badAt l (i + 1)
theorem badAt_any : ∀ (l : List CeD) (i : Int), 0 ≤ i → decide (0 ≤ badAt l i) = l.any bad16
  | [], _, _ => rfl
  | d :: l, i, h => by
    rw [badAt, List.any_cons]
    cases hb : bad16 d
    · rw [Bool.false_or, if_neg (by decide)]; exact badAt_any l (i + 1) (by omega)
    · rw [if_pos rfl, Bool.true_or]; exact decide_eq_true h
set_option maxRecDepth 100000 in
set_option maxHeartbeats 16000000 in
theorem indexBad_c (A : Option Addr) (n c : Nat) (ds : List CeD) (w : World) (hn : ds.length = n) (hr : RdC w A ds) (hl : n ≤ 60000) :
    Calls Tryd.prog 91 #[.slice A n c, .func (.func 51) #[] #[]] w fun e w' => e = .returned (.int .i64 (badAt ds 0)) ∧ Below w.heap.size w w' := by
  have HN := Lib.hid hn
  have HR := Lib.hid hr
  obtain ⟨Z, eZ⟩ : ∃ Z, badAt ds 0 = Z := ⟨_, rfl⟩
  rw [eZ]
  have EZ := Lib.hid eZ
  clear hn hr eZ
  go_enter Tryd.func91, Tryd.ntmps91
  go_wp2_with (fail)
  go_loopw [8] (fun i wr => ∃ k : Nat, k ≤ n ∧ i = .int .i64 k ∧ Hid (badAt (ds.drop k) (k : Int) = Z) ∧ Hid (Below w.heap.size w wr)) (fun i _ => n - (intOf i).toNat)
  case atStart => exact ⟨0, Nat.zero_le _, rfl, Lib.hid EZ.out, Lib.hid (Below.refl _ _)⟩
  case round =>
    obtain ⟨k, hk, rfl, HG, HB⟩ := hrel
    rcases Nat.lt_or_ge k n with hlt | hge
    · have hlt' : (k : Int) < (n : Int) := by omega
      have hkl : k < ds.length := by rw [HN.out]; exact hlt
      have hrw := RdC.below HR.out HB.out
      obtain ⟨b, off, rfl, hbl, hcd⟩ := RdC.cellsAt hrw k hkl
      obtain ⟨d, ed⟩ : ∃ d, d = ds[k] := ⟨_, rfl⟩
      rw [← ed] at hcd
      have HCD := Lib.hid hcd
      have HST : Hid ((if bad16 d then (k : Int) else badAt (ds.drop (k + 1)) ((k + 1 : Nat) : Int)) = Z) := Lib.hid (by
        have h := HG.out
        rw [List.drop_eq_getElem_cons hkl, badAt, ← ed] at h
        rw [← h]
        split
        · rfl
        · congr 1)
      obtain ⟨bb, eb⟩ : ∃ b, bad16 d = b := ⟨_, rfl⟩
      have HBB := Lib.hid eb
      rw [eb] at HST
      clear hrw hcd ed eb hkl HG
      cases bb
      · go_wp2_with (first
          | (refine wpList_load_cells rfl 47 (.tmp 14) rfl ⟨b, off + k * 6, none⟩ rfl d.cells d.val rfl _ (cells_load HCD.out) Tryd.underlying47 rfl (info_cell.trans rfl) ?_)
          | (go_at_call 51; (refine (fits1_c d wr).mono ?_); rintro _ w1 ⟨rfl, hb1⟩; rw [HBB.out]; have HB1 := Lib.hid (HB.out.trans (hb1.mono HB.out.size)); clear hb1))
        go_roundw
        case rel => exact ⟨k + 1, by omega, by go_num, Lib.hid HST.out, HB1⟩
        case measure => simp [intOf]; omega
      · have HKZ : Hid (Z = (k : Int)) := Lib.hid HST.out.symm
        go_wp2_with (first
          | (refine wpList_load_cells rfl 47 (.tmp 14) rfl ⟨b, off + k * 6, none⟩ rfl d.cells d.val rfl _ (cells_load HCD.out) Tryd.underlying47 rfl (info_cell.trans rfl) ?_)
          | (go_at_call 51; (refine (fits1_c d wr).mono ?_); rintro _ w1 ⟨rfl, hb1⟩; rw [HBB.out]; have HB1 := Lib.hid (HB.out.trans (hb1.mono HB.out.size)); clear hb1))
        go_ret
        exact ⟨by rw [HKZ.out] <;> rfl, HB1.out⟩
    · obtain rfl : n = k := by omega
      have hge' : ¬ ((n : Int) < (n : Int)) := by omega
      have HKZ : Hid (Z = -1) := Lib.hid (by rw [← HG.out, List.drop_of_length_le (by rw [HN.out]; exact Nat.le_refl _)]; rfl)
      clear hge hk
      go_wp2_with (fail)
      go_ret
      exact ⟨by rw [HKZ.out] <;> rfl, HB.out⟩
set_option maxRecDepth 100000 in
set_option maxHeartbeats 4000000 in
theorem containsBad_c (A : Option Addr) (n c : Nat) (ds : List CeD) (w : World) (hn : ds.length = n) (hr : RdC w A ds) (hl : n ≤ 60000) :
    Calls Tryd.prog 50 #[.slice A n c, .func (.func 51) #[] #[]] w fun e w' => e = .returned (.bool (ds.any bad16)) ∧ Below w.heap.size w w' := by
  obtain ⟨Z, eZ⟩ : ∃ Z, ds.any bad16 = Z := ⟨_, rfl⟩
  have EZ := Lib.hid ((badAt_any ds 0 (Int.le_refl 0)).trans eZ)
  rw [eZ]
  obtain ⟨I, eI⟩ : ∃ I, badAt ds 0 = I := ⟨_, rfl⟩
  have EI := Lib.hid eI
  rw [eI] at EZ
  have e2 := EZ.out
  clear eZ eI
  go_enter Tryd.func50, Tryd.ntmps50
  go_wp2_with (go_at_call 91; (refine (indexBad_c A n c ds w hn hr hl).mono ?_); rintro _ w1 ⟨rfl, hb1⟩; rw [EI.out]; have HB1 := Lib.hid hb1; clear hb1)
  go_ret
  exact ⟨by first | rfl | rw [EZ.out], HB1.out⟩
set_option maxRecDepth 100000 in
set_option maxHeartbeats 8000000 in
theorem fits16_c (s : ScD) (A : Option Addr) (n c : Nat) (L : Option Addr) (m cm : Nat) (w : World) (hs : ScR w s A n c L m cm) (hU : TabU w) :
    Calls Tryd.prog 25 #[.agg (scC s A n c L m cm)] w fun e w' => e = .returned (.bool (fit16 s)) ∧ Below w.heap.size w w' := by
  obtain ⟨X, eX⟩ : ∃ X, X = scC s A n c L m cm := ⟨_, rfl⟩
  rw [← eX]
  obtain ⟨W0, eW0⟩ : ∃ W0, W0 = w.alloc (.cells X 25) := ⟨_, rfl⟩
  obtain ⟨p, ep⟩ : ∃ p, p = w.heap.size := ⟨_, rfl⟩
  have hb0 : Below w.heap.size w W0 := by rw [eW0]; exact (Below.refl _ _).alloc (Nat.le_refl _) _
  have HP0 : Hid (ScB W0 p s A n c L m cm) := Lib.hid (by rw [eW0, ep, eX]; exact heap_alloc_new _ _)
  have EW0 := Lib.hid eW0
  have EP := Lib.hid ep
  have HB0 := Lib.hid hb0
  have HR0 := Lib.hid (hs.below hb0)
  have HU0 := Lib.hid (hU.next hb0)
  clear eX eW0 ep hb0 hs hU
  obtain ⟨Z, eZ⟩ : ∃ Z, fit16 s = Z := ⟨_, rfl⟩
  rw [eZ]
  unfold fit16 at eZ
  rw [HR0.out.hm] at eZ
  obtain ⟨b1, e1⟩ : ∃ b, rightS s = b := ⟨_, rfl⟩
  obtain ⟨b2, e2⟩ : ∃ b, (m == 0) = b := ⟨_, rfl⟩
  have e2i : ((m : Int) == 0) = b2 := by rw [← e2, Bool.eq_iff_iff, beq_iff_eq, beq_iff_eq]; omega
  obtain ⟨b3, e3⟩ : ∃ b, (s.mouse == 0) = b := ⟨_, rfl⟩
  obtain ⟨b4, e4⟩ : ∃ b, s.cells.any bad16 = b := ⟨_, rfl⟩
  rw [e1, e2, e3, e4] at eZ
  have E1 := Lib.hid e1
  have E4 := Lib.hid e4
  have EZ := Lib.hid eZ
  clear eZ e1 e4
  cases b1 <;> cases b2 <;> cases b3 <;> cases b4 <;>
  · go_enter Tryd.func25, Tryd.ntmps25
    go_upto_region 1 with (fail)
    rw [← EW0.out, ← EP.out]
    go_wp2_with (first
      | (refine wpList_load_row rfl 25 (.tmp 1) rfl p rfl 25 _ (0, 0) _ HP0.out Tryd.underlying25 rfl (info_sc.trans rfl) ?_)
      | (go_at_call 33; (refine (emulRight_c s A n c L m cm W0 HR0.out HU0.out).mono ?_); rintro _ w1 ⟨rfl, hb1⟩; rw [E1.out]; have HB1 := Lib.hid (HB0.out.trans (hb1.mono HB0.out.size)); have HR1 := Lib.hid (HR0.out.below hb1); have HP1 := HP0.out.below hb1; have x2 : w1.cell? ⟨p, 2, none⟩ = some (.slice A n c) := HP1.nine.2.2.1; have x6 : w1.cell? ⟨p, 6, none⟩ = some (.int .u8 s.mouse) := HP1.nine.2.2.2.2.2.2.1; have x8 : w1.cell? ⟨p, 8, none⟩ = some (.slice L m cm) := HP1.nine.2.2.2.2.2.2.2.2; clear hb1 HP1)
      | (go_at_call 50; (refine (containsBad_c A n c s.cells w1 HR1.out.hn HR1.out.rd HR1.out.nl).mono ?_); rintro _ w2 ⟨rfl, hb2⟩; rw [E4.out]; have HB2 := Lib.hid (HB1.out.trans (hb2.mono HB1.out.size)); clear hb2))
    go_ret
    first
      | exact ⟨by rw [← EZ.out] <;> rfl, HB2.out⟩
      | exact ⟨by rw [← EZ.out] <;> rfl, HB1.out⟩
set_option maxRecDepth 100000 in
set_option maxHeartbeats 8000000 in
theorem refFits16_c (s : ScD) (A : Option Addr) (n c : Nat) (L : Option Addr) (m cm : Nat) (w : World) (hs : ScR w s A n c L m cm) (hm : 0 ≤ s.mouse) (hU : TabU w) :
    Calls Tryd.prog 26 #[.agg (scC s A n c L m cm)] w fun e w' => e = .returned (.bool (fit16 s)) ∧ Below w.heap.size w w' := by
  obtain ⟨X, eX⟩ : ∃ X, X = scC s A n c L m cm := ⟨_, rfl⟩
  rw [← eX]
  obtain ⟨W0, eW0⟩ : ∃ W0, W0 = w.alloc (.cells X 25) := ⟨_, rfl⟩
  obtain ⟨p, ep⟩ : ∃ p, p = w.heap.size := ⟨_, rfl⟩
  have hb0 : Below w.heap.size w W0 := by rw [eW0]; exact (Below.refl _ _).alloc (Nat.le_refl _) _
  have HP0 : Hid (ScB W0 p s A n c L m cm) := Lib.hid (by rw [eW0, ep, eX]; exact heap_alloc_new _ _)
  have EW0 := Lib.hid eW0
  have EP := Lib.hid ep
  have HB0 := Lib.hid hb0
  have HR0 := Lib.hid (hs.below hb0)
  have HU0 := Lib.hid (hU.next hb0)
  clear eX eW0 ep hb0 hs hU
  obtain ⟨Z, eZ⟩ : ∃ Z, fit16 s = Z := ⟨_, rfl⟩
  rw [eZ]
  unfold fit16 at eZ
  rw [HR0.out.hm] at eZ
  obtain ⟨b1, e1⟩ : ∃ b, rightS s = b := ⟨_, rfl⟩
  obtain ⟨b2, e2⟩ : ∃ b, (m == 0) = b := ⟨_, rfl⟩
  have e2i : decide (0 < m) = !b2 := by rw [← e2]; rcases Nat.eq_zero_or_pos m with h | h <;> simp [h] <;> omega
  have e2j : decide (0 < (m : Int)) = !b2 := by rw [← e2i]; exact decide_eq_decide.2 (by omega)
  obtain ⟨b3, e3⟩ : ∃ b, (s.mouse == 0) = b := ⟨_, rfl⟩
  have e3i : decide (0 < s.mouse) = !b3 := by rw [← e3, Bool.eq_iff_iff, decide_eq_true_eq, Bool.not_eq_true', beq_eq_false_iff_ne]; omega
  rw [e1, e2, e3] at eZ
  have E1 := Lib.hid e1
  have EZ := Lib.hid eZ
  clear eZ e1
  cases b1 <;> cases b2 <;> cases b3
  case true.true.true =>
    go_enter Tryd.func26, Tryd.ntmps26
    go_upto_region 1 with (fail)
    rw [← EW0.out, ← EP.out]
    go_upto_region 3 with (first
      | (refine wpList_load_row rfl 25 (.tmp 1) rfl p rfl 25 _ (0, 0) _ HP0.out Tryd.underlying25 rfl (info_sc.trans rfl) ?_)
      | (go_at_call 32; (refine (refRight_c s A n c L m cm W0 HR0.out HU0.out).mono ?_); rintro _ w1 ⟨rfl, hb1⟩; rw [E1.out]; have HB1 := Lib.hid (HB0.out.trans (hb1.mono HB0.out.size)); have HR1 := Lib.hid (HR0.out.below hb1); have HP1 := Lib.hid (HP0.out.below hb1); have x2 : w1.cell? ⟨p, 2, none⟩ = some (.slice A n c) := HP1.out.nine.2.2.1; have x6 : w1.cell? ⟨p, 6, none⟩ = some (.int .u8 s.mouse) := HP1.out.nine.2.2.2.2.2.2.1; have x8 : w1.cell? ⟨p, 8, none⟩ = some (.slice L m cm) := HP1.out.nine.2.2.2.2.2.2.2.2; clear hb1))
    clear x6 x8 e2 e2i e2j e3 e3i
    go_wp2_with (fail)
    have HNL : Hid (s.cells.length = n ∧ n ≤ 60000) := Lib.hid ⟨HR1.out.hn, HR1.out.nl⟩
    have HRD : Hid (RdC w1 A s.cells) := Lib.hid HR1.out.rd
    go_loopw [21] (fun i wr => ∃ k : Nat, k ≤ n ∧ i = .int .i64 k ∧ Hid ((!(s.cells.drop k).any bad16) = Z) ∧ Hid (wr = w1)) (fun i _ => n - (intOf i).toNat)
    case atStart => exact ⟨0, Nat.zero_le _, rfl, Lib.hid EZ.out, Lib.hid rfl⟩
    case round =>
      obtain ⟨k, hk, rfl, HG, hwr⟩ := hrel
      obtain rfl := hwr.out
      have hn6 : n ≤ 60000 := HNL.out.2
      rcases Nat.lt_or_ge k n with hlt | hge
      · have hlt' : (k : Int) < (n : Int) := by omega
        have hkl : k < s.cells.length := by rw [HNL.out.1]; exact hlt
        obtain ⟨b, off, rfl, hbl, hcd⟩ := RdC.cellsAt HRD.out k hkl
        obtain ⟨d, ed⟩ : ∃ d, d = s.cells[k] := ⟨_, rfl⟩
        rw [← ed] at hcd
        obtain ⟨-, z1, z2, z3, -, -⟩ := hcd
        have hst := HG.out
        rw [List.drop_eq_getElem_cons hkl, List.any_cons, ← ed, bad16] at hst
        obtain ⟨b1, e1⟩ : ∃ b, (d.w == 0) = b := ⟨_, rfl⟩
        have e1n : (d.w != 0) = !b1 := by rw [bne, e1]
        obtain ⟨b2, e2⟩ : ∃ b, decide (256 < d.fg) = b := ⟨_, rfl⟩
        obtain ⟨b3, e3⟩ : ∃ b, decide (256 < d.bg) = b := ⟨_, rfl⟩
        rw [e1, e2, e3] at hst
        have HST := Lib.hid hst
        clear ed hst hkl HG
        cases b1
        · go_wp2_with (fail)
          go_ret
          exact ⟨by rw [← HST.out] <;> rfl, HB1.out⟩
        cases b2
        rotate_left
        · go_wp2_with (fail)
          go_ret
          exact ⟨by rw [← HST.out] <;> rfl, HB1.out⟩
        cases b3
        rotate_left
        · go_wp2_with (fail)
          go_ret
          exact ⟨by rw [← HST.out] <;> rfl, HB1.out⟩
        go_wp2_with (fail)
        go_roundw
        case rel => exact ⟨k + 1, by omega, by go_num, Lib.hid HST.out, by first | exact Lib.hid rfl | exact Lib.hid trivial⟩
        case measure => simp [intOf]; omega
      · obtain rfl : n = k := by omega
        have hge' : ¬ ((n : Int) < (n : Int)) := by omega
        have HKZ : Hid (Z = true) := Lib.hid (by rw [← HG.out, List.drop_of_length_le (by rw [HNL.out.1]; exact Nat.le_refl _)]; rfl)
        clear hge hk
        go_wp2_with (fail)
        go_ret
        exact ⟨by rw [HKZ.out] <;> rfl, HB1.out⟩
  all_goals
    go_enter Tryd.func26, Tryd.ntmps26
    go_upto_region 1 with (fail)
    rw [← EW0.out, ← EP.out]
    go_wp2_with (first
      | (refine wpList_load_row rfl 25 (.tmp 1) rfl p rfl 25 _ (0, 0) _ HP0.out Tryd.underlying25 rfl (info_sc.trans rfl) ?_)
      | (go_at_call 32; (refine (refRight_c s A n c L m cm W0 HR0.out HU0.out).mono ?_); rintro _ w1 ⟨rfl, hb1⟩; rw [E1.out]; have HB1 := Lib.hid (HB0.out.trans (hb1.mono HB0.out.size)); have HR1 := Lib.hid (HR0.out.below hb1); have HP1 := Lib.hid (HP0.out.below hb1); have x2 : w1.cell? ⟨p, 2, none⟩ = some (.slice A n c) := HP1.out.nine.2.2.1; have x6 : w1.cell? ⟨p, 6, none⟩ = some (.int .u8 s.mouse) := HP1.out.nine.2.2.2.2.2.2.1; have x8 : w1.cell? ⟨p, 8, none⟩ = some (.slice L m cm) := HP1.out.nine.2.2.2.2.2.2.2.2; clear hb1))
    go_ret
    exact ⟨by rw [← EZ.out] <;> rfl, HB1.out⟩
end Go.Proofs.YtipofokinjkclaaDoor

/- What slices.Equal on cells answers. Conditions: cells that can be read. -/
namespace Go.Proofs.YtipofokinjkclaaDoor
open Go Go.RowKit

set_option maxRecDepth 100000 in
set_option maxHeartbeats 8000000 in
theorem equalC_c (A : Option Addr) (n c : Nat) (a : List CeD) (B : Option Addr) (m d : Nat) (b : List CeD) (w : World) (hn : a.length = n) (hra : RdC w A a) (hm : b.length = m) (hrb : RdC w B b) (hl : n ≤ 140737488355328) :
    Calls Tryd.prog 87 #[.slice A n c, .slice B m d] w fun e w' => e = .returned (.bool (sameC a b)) ∧ Below w.heap.size w w' := by
  obtain ⟨R, eR⟩ : ∃ R, sameC a b = R := ⟨_, rfl⟩
  rw [eR]
  by_cases hnm : n = m
  rotate_left
  · have HR : Hid (R = false) := Lib.hid (by rw [← eR]; exact sameC_len _ _ (by omega))
    have d0 : ((n : Int) != (m : Int)) = true := by rw [bne_iff_ne]; omega
    have d0' : (n != m) = true := by rw [bne_iff_ne]; omega
    clear eR hnm
    go_enter Tryd.func87, Tryd.ntmps87
    go_wp2_with (fail)
    go_ret
    exact ⟨by rw [HR.out] <;> rfl, Below.refl _ _⟩
  subst hnm
  have ER := Lib.hid eR
  have HN := Lib.hid hn
  have HM := Lib.hid hm
  have HA := Lib.hid hra
  have HB := Lib.hid hrb
  clear eR hn hm hra hrb
  go_enter Tryd.func87, Tryd.ntmps87
  go_wp2_with (fail)
  go_loopw [13] (fun i wr => ∃ k : Nat, k ≤ n ∧ i = .int .i64 k ∧ Hid (sameC a b = sameC (a.drop k) (b.drop k)) ∧ Hid (Below w.heap.size w wr)) (fun i _ => n - (intOf i).toNat)
  case atStart => exact ⟨0, Nat.zero_le _, rfl, Lib.hid rfl, Lib.hid (Below.refl _ _)⟩
  case round =>
    obtain ⟨k, hk, rfl, HG, HBW⟩ := hrel
    rcases Nat.lt_or_ge k n with hlt | hge
    · have hlt' : (k : Int) < (n : Int) := by omega
      have ha : k < a.length := by rw [HN.out]; exact hlt
      have hb : k < b.length := by rw [HM.out]; exact hlt
      obtain ⟨g, o, rfl, hg, hc⟩ := HA.out.cellsAt k ha
      obtain ⟨g2, o2, rfl, hg2, hc2⟩ := HB.out.cellsAt k hb
      have HC := Lib.hid (hc.below HBW.out hg)
      have HC2 := Lib.hid (hc2.below HBW.out hg2)
      have HGS : Hid (g < wr.heap.size) := Lib.hid (Nat.lt_of_lt_of_le hg HBW.out.size)
      have HGS2 : Hid (g2 < wr.heap.size) := Lib.hid (Nat.lt_of_lt_of_le hg2 HBW.out.size)
      obtain ⟨x, ex⟩ : ∃ x, x = a[k] := ⟨_, rfl⟩
      obtain ⟨y, ey⟩ : ∃ y, y = b[k] := ⟨_, rfl⟩
      obtain ⟨E, eE⟩ : ∃ E, cellEq x y = E := ⟨_, rfl⟩
      have hst : Hid (sameC a b = (E && sameC (a.drop (k + 1)) (b.drop (k + 1)))) := Lib.hid (by
        rw [HG.out, List.drop_eq_getElem_cons ha, List.drop_eq_getElem_cons hb, sameC, ← eE, ex, ey])
      rw [← ex] at HC
      rw [← ey] at HC2
      have EE := Lib.hid eE
      clear hc hc2 ex ey eE
      cases E
      · have HRR : Hid (R = false) := Lib.hid (by rw [← ER.out, hst.out]; rfl)
        go_wp2_with (fail)
        refine wp_region_rw 26 [Rl.eq (.slice (some ⟨g, o, none⟩) n c), Rl.eq (.int .i64 (k : Int)), Rl.eq (.pointer (some ⟨g, o + k * 6, none⟩)), Rl.eq (.agg #[.int .i32 x.r, .int .u8 x.w, .int .u32 x.fg, .int .u32 x.bg, .int .u8 x.at_, .int .u16 x.ln]), Rl.eq (.slice (some ⟨g2, o2, none⟩) n d), Rl.eq (.int .i64 (k : Int)), Rl.eq (.pointer (some ⟨g2, o2 + k * 6, none⟩)), Rl.eq (.agg #[.int .i32 y.r, .int .u8 y.w, .int .u32 y.fg, .int .u32 y.bg, .int .u8 y.at_, .int .u16 y.ln]), Rl.eq (.bool true)] [16, 17, 18, 19, 20, 21, 22, 23, 24] (by kernel_rfl) rfl (by kernel_rfl) (by kernel_rfl) ?_ ?_
        · repeat (first | exact AllFrom.nil_ | (refine AllFrom.cons_ (by rfl) ?_ ?_; rotate_left))
          · intro f w' gG hF hD
            have h0 : f 0 = .slice (some ⟨g, o, none⟩) n c := hF 0 (by kernel_rfl)
            rw [if_pos (wanted_none rfl)]
            clear hF hD
            exact gives_val (by simp only [execOp, evF, h0]; first | rfl | go_simp) ⟨Gr.refl _, rfl⟩
          · intro f w' gG hF hD
            have h5 : f 5 = .int .i64 (k : Int) := hF 5 (by kernel_rfl)
            rw [if_pos (wanted_none rfl)]
            clear hF hD
            exact gives_val (by simp only [execOp, evF, h5]; first | rfl | go_simp) ⟨Gr.refl _, rfl⟩
          · intro f w' gG hF hD
            have h16 : f 16 = .slice (some ⟨g, o, none⟩) n c := hD 0 16 (by kernel_rfl) rfl
            have h17 : f 17 = .int .i64 (k : Int) := hD 1 17 (by kernel_rfl) rfl
            rw [if_pos (wanted_none rfl)]
            clear hF hD
            exact gives_val (by simp only [execOp, evF, h16, h17]; first | rfl | go_simp) ⟨Gr.refl _, rfl⟩
          · intro f w' gG hF hD
            have h18 : f 18 = .pointer (some ⟨g, o + k * 6, none⟩) := hD 2 18 (by kernel_rfl) rfl
            rw [if_pos (wanted_none rfl)]
            clear hF hD
            obtain ⟨z0, z1, z2, z3, z4, z5⟩ := HC.out.below ((below_drewN (Below.refl wr.heap.size wr) 1).trans gG) HGS.out
            exact gives_val (by simp only [execOp, evF, h18]; go_simp) ⟨Gr.refl _, rfl⟩
          · intro f w' gG hF hD
            have h1 : f 1 = .slice (some ⟨g2, o2, none⟩) n d := hF 1 (by kernel_rfl)
            rw [if_pos (wanted_none rfl)]
            clear hF hD
            exact gives_val (by simp only [execOp, evF, h1]; first | rfl | go_simp) ⟨Gr.refl _, rfl⟩
          · intro f w' gG hF hD
            have h5 : f 5 = .int .i64 (k : Int) := hF 5 (by kernel_rfl)
            rw [if_pos (wanted_none rfl)]
            clear hF hD
            exact gives_val (by simp only [execOp, evF, h5]; first | rfl | go_simp) ⟨Gr.refl _, rfl⟩
          · intro f w' gG hF hD
            have h20 : f 20 = .slice (some ⟨g2, o2, none⟩) n d := hD 4 20 (by kernel_rfl) rfl
            have h21 : f 21 = .int .i64 (k : Int) := hD 5 21 (by kernel_rfl) rfl
            rw [if_pos (wanted_none rfl)]
            clear hF hD
            exact gives_val (by simp only [execOp, evF, h20, h21]; first | rfl | go_simp) ⟨Gr.refl _, rfl⟩
          · intro f w' gG hF hD
            have h22 : f 22 = .pointer (some ⟨g2, o2 + k * 6, none⟩) := hD 6 22 (by kernel_rfl) rfl
            rw [if_pos (wanted_none rfl)]
            clear hF hD
            obtain ⟨z0, z1, z2, z3, z4, z5⟩ := HC2.out.below ((below_drewN (Below.refl wr.heap.size wr) 1).trans gG) HGS2.out
            exact gives_val (by simp only [execOp, evF, h22]; go_simp) ⟨Gr.refl _, rfl⟩
          · intro f w' gG hF hD
            have h19 : f 19 = .agg #[.int .i32 x.r, .int .u8 x.w, .int .u32 x.fg, .int .u32 x.bg, .int .u8 x.at_, .int .u16 x.ln] := hD 3 19 (by kernel_rfl) rfl
            have h23 : f 23 = .agg #[.int .i32 y.r, .int .u8 y.w, .int .u32 y.fg, .int .u32 y.bg, .int .u8 y.at_, .int .u16 y.ln] := hD 7 23 (by kernel_rfl) rfl
            rw [if_pos (wanted_none rfl)]
            clear hF hD
            have hpe := run_cellNe x y
            unfold CeD.val at hpe
            exact gives_val (by simp only [execOp, evF, h19, h23, hpe, EE.out]; go_simp; exact EE.out) ⟨Gr.refl _, rfl⟩
        · intro f w' gG hD
          have h24 : f 24 = .bool true := hD 8 24 rfl
          simp only [putAll, List.setIfInBounds_toArray, List.set_cons_zero, List.set_cons_succ, h24]
          clear hD
          have HFIN : Hid (Below w.heap.size w w') := Lib.hid (HBW.out.trans (Below.mono ((below_drewN (Below.refl wr.heap.size wr) 1).trans gG) HBW.out.size))
          clear gG
          go_wp2_with (fail)
          go_ret
          exact ⟨by rw [HRR.out] <;> rfl, HFIN.out⟩
      · have hst2 : Hid (sameC a b = sameC (a.drop (k + 1)) (b.drop (k + 1))) := Lib.hid (by rw [hst.out]; rfl)
        go_wp2_with (fail)
        refine wp_region_rw 26 [Rl.eq (.slice (some ⟨g, o, none⟩) n c), Rl.eq (.int .i64 (k : Int)), Rl.eq (.pointer (some ⟨g, o + k * 6, none⟩)), Rl.eq (.agg #[.int .i32 x.r, .int .u8 x.w, .int .u32 x.fg, .int .u32 x.bg, .int .u8 x.at_, .int .u16 x.ln]), Rl.eq (.slice (some ⟨g2, o2, none⟩) n d), Rl.eq (.int .i64 (k : Int)), Rl.eq (.pointer (some ⟨g2, o2 + k * 6, none⟩)), Rl.eq (.agg #[.int .i32 y.r, .int .u8 y.w, .int .u32 y.fg, .int .u32 y.bg, .int .u8 y.at_, .int .u16 y.ln]), Rl.eq (.bool false)] [16, 17, 18, 19, 20, 21, 22, 23, 24] (by kernel_rfl) rfl (by kernel_rfl) (by kernel_rfl) ?_ ?_
        · repeat (first | exact AllFrom.nil_ | (refine AllFrom.cons_ (by rfl) ?_ ?_; rotate_left))
          · intro f w' gG hF hD
            have h0 : f 0 = .slice (some ⟨g, o, none⟩) n c := hF 0 (by kernel_rfl)
            rw [if_pos (wanted_none rfl)]
            clear hF hD
            exact gives_val (by simp only [execOp, evF, h0]; first | rfl | go_simp) ⟨Gr.refl _, rfl⟩
          · intro f w' gG hF hD
            have h5 : f 5 = .int .i64 (k : Int) := hF 5 (by kernel_rfl)
            rw [if_pos (wanted_none rfl)]
            clear hF hD
            exact gives_val (by simp only [execOp, evF, h5]; first | rfl | go_simp) ⟨Gr.refl _, rfl⟩
          · intro f w' gG hF hD
            have h16 : f 16 = .slice (some ⟨g, o, none⟩) n c := hD 0 16 (by kernel_rfl) rfl
            have h17 : f 17 = .int .i64 (k : Int) := hD 1 17 (by kernel_rfl) rfl
            rw [if_pos (wanted_none rfl)]
            clear hF hD
            exact gives_val (by simp only [execOp, evF, h16, h17]; first | rfl | go_simp) ⟨Gr.refl _, rfl⟩
          · intro f w' gG hF hD
            have h18 : f 18 = .pointer (some ⟨g, o + k * 6, none⟩) := hD 2 18 (by kernel_rfl) rfl
            rw [if_pos (wanted_none rfl)]
            clear hF hD
            obtain ⟨z0, z1, z2, z3, z4, z5⟩ := HC.out.below ((below_drewN (Below.refl wr.heap.size wr) 1).trans gG) HGS.out
            exact gives_val (by simp only [execOp, evF, h18]; go_simp) ⟨Gr.refl _, rfl⟩
          · intro f w' gG hF hD
            have h1 : f 1 = .slice (some ⟨g2, o2, none⟩) n d := hF 1 (by kernel_rfl)
            rw [if_pos (wanted_none rfl)]
            clear hF hD
            exact gives_val (by simp only [execOp, evF, h1]; first | rfl | go_simp) ⟨Gr.refl _, rfl⟩
          · intro f w' gG hF hD
            have h5 : f 5 = .int .i64 (k : Int) := hF 5 (by kernel_rfl)
            rw [if_pos (wanted_none rfl)]
            clear hF hD
            exact gives_val (by simp only [execOp, evF, h5]; first | rfl | go_simp) ⟨Gr.refl _, rfl⟩
          · intro f w' gG hF hD
            have h20 : f 20 = .slice (some ⟨g2, o2, none⟩) n d := hD 4 20 (by kernel_rfl) rfl
            have h21 : f 21 = .int .i64 (k : Int) := hD 5 21 (by kernel_rfl) rfl
            rw [if_pos (wanted_none rfl)]
            clear hF hD
            exact gives_val (by simp only [execOp, evF, h20, h21]; first | rfl | go_simp) ⟨Gr.refl _, rfl⟩
          · intro f w' gG hF hD
            have h22 : f 22 = .pointer (some ⟨g2, o2 + k * 6, none⟩) := hD 6 22 (by kernel_rfl) rfl
            rw [if_pos (wanted_none rfl)]
            clear hF hD
            obtain ⟨z0, z1, z2, z3, z4, z5⟩ := HC2.out.below ((below_drewN (Below.refl wr.heap.size wr) 1).trans gG) HGS2.out
            exact gives_val (by simp only [execOp, evF, h22]; go_simp) ⟨Gr.refl _, rfl⟩
          · intro f w' gG hF hD
            have h19 : f 19 = .agg #[.int .i32 x.r, .int .u8 x.w, .int .u32 x.fg, .int .u32 x.bg, .int .u8 x.at_, .int .u16 x.ln] := hD 3 19 (by kernel_rfl) rfl
            have h23 : f 23 = .agg #[.int .i32 y.r, .int .u8 y.w, .int .u32 y.fg, .int .u32 y.bg, .int .u8 y.at_, .int .u16 y.ln] := hD 7 23 (by kernel_rfl) rfl
            rw [if_pos (wanted_none rfl)]
            clear hF hD
            have hpe := run_cellNe x y
            unfold CeD.val at hpe
            exact gives_val (by simp only [execOp, evF, h19, h23, hpe, EE.out]; go_simp; exact EE.out) ⟨Gr.refl _, rfl⟩
        · intro f w' gG hD
          have h24 : f 24 = .bool false := hD 8 24 rfl
          simp only [putAll, List.setIfInBounds_toArray, List.set_cons_zero, List.set_cons_succ, h24]
          clear hD
          have HFIN : Hid (Below w.heap.size w w') := Lib.hid (HBW.out.trans (Below.mono ((below_drewN (Below.refl wr.heap.size wr) 1).trans gG) HBW.out.size))
          clear gG hst
          go_wp2_with (fail)
          go_roundw
          case rel => exact ⟨k + 1, by omega, by go_num, hst2, HFIN⟩
          case measure => simp [intOf]; omega
    · obtain rfl : n = k := by omega
      have hge' : ¬ ((n : Int) < (n : Int)) := by omega
      have HRR : Hid (R = true) := Lib.hid (by
        rw [← ER.out, HG.out, List.drop_of_length_le (by rw [HN.out]; omega), List.drop_of_length_le (by rw [HM.out]; omega)]; rfl)
      go_wp2_with (fail)
      go_ret
      exact ⟨by rw [HRR.out] <;> rfl, HBW.out⟩
end Go.Proofs.YtipofokinjkclaaDoor

/- What the reference's cellBytes answers: nine bytes of a cell. Conditions: numbers that fit. -/
namespace Go.Proofs.YtipofokinjkclaaDoor
open Go Go.RowKit Go.Lib

/-- A cell whose numbers are natural and fit in their bytes. -/
structure CeN (d : CeD) : Prop where
  r0 : 0 ≤ d.r
  r1 : d.r ≤ 1114111
  f0 : 0 ≤ d.fg
  f1 : d.fg ≤ 65535
  b0 : 0 ≤ d.bg
  b1 : d.bg ≤ 65535
  a0 : 0 ≤ d.at_
  a1 : d.at_ ≤ 255
theorem num2 (n : Nat) : numLI n 2 = numL n 2 := by rw [numLI, if_pos (by decide)]; rfl
theorem num4' (n : Nat) : numLI n 4 = numL n 4 := by rw [numLI, if_pos (by decide)]; rfl
theorem u64_small {n : Nat} (h : n ≤ 4294967295) : U64 n := by unfold U64; omega
set_option maxRecDepth 100000 in
set_option maxHeartbeats 16000000 in
theorem cellBytes_c (d : CeD) (w : World) (h : CeN d) :
    Calls Tryd.prog 90 #[d.val] w fun e w' => ∃ v, e = .returned v ∧ OwnB w' w.heap.size v (cellB d) ∧ Below w.heap.size w w' := by
  obtain ⟨Z, eZ⟩ : ∃ Z, cellB d = Z := ⟨_, rfl⟩
  rw [eZ]
  obtain ⟨r, er⟩ : ∃ r : Nat, d.r = (r : Int) := ⟨d.r.toNat, by have := h.r0; omega⟩
  obtain ⟨f, ef⟩ : ∃ f : Nat, d.fg = (f : Int) := ⟨d.fg.toNat, by have := h.f0; omega⟩
  obtain ⟨g, eg⟩ : ∃ g : Nat, d.bg = (g : Int) := ⟨d.bg.toNat, by have := h.b0; omega⟩
  obtain ⟨t, et⟩ : ∃ t : Nat, d.at_ = (t : Int) := ⟨d.at_.toNat, by have := h.a0; omega⟩
  have hB : r ≤ 1114111 ∧ f ≤ 65535 ∧ g ≤ 65535 ∧ t ≤ 255 := by have := h.r1; have := h.f1; have := h.b1; have := h.a1; omega
  have EZ : Hid (numL r 4 ++ numL f 2 ++ numL g 2 ++ [lo t] = Z) := Lib.hid (by rw [← eZ, cellB, er, ef, eg, et]; rfl)
  obtain ⟨W0, eW0⟩ : ∃ W0, W0 = w.alloc (.cells d.arr 47) := ⟨_, rfl⟩
  obtain ⟨p, ep⟩ : ∃ p, p = w.heap.size := ⟨_, rfl⟩
  have hp0 : W0.heap[p]? = some (.cells d.arr 47 (0, 0)) := by rw [eW0, ep]; exact heap_alloc_new _ _
  have HP0 := Lib.hid hp0
  have HBN := Lib.hid hB
  have HB0 : Hid (Below w.heap.size w W0) := Lib.hid (by rw [eW0]; exact (Below.refl _ _).alloc (Nat.le_refl _) _)
  have EW0 : Hid (w.alloc (.cells #[.int .i32 d.r, .int .u8 d.w, .int .u32 d.fg, .int .u32 d.bg, .int .u8 d.at_, .int .u16 d.ln] 47) = W0) := Lib.hid eW0.symm
  have EP := Lib.hid ep
  have ER := Lib.hid er
  have EF := Lib.hid ef
  have EG := Lib.hid eg
  have ET := Lib.hid et
  clear eW0 ep hp0 eZ er ef eg et h
  show Calls _ _ #[.agg #[.int .i32 d.r, .int .u8 d.w, .int .u32 d.fg, .int .u32 d.bg, .int .u8 d.at_, .int .u16 d.ln]] w _
  go_enter Tryd.func90, Tryd.ntmps90
  go_upto_region 1 with (fail)
  rw [EW0.out, ← EP.out]
  have v0 : W0.cell? ⟨p, 0, none⟩ = some (.int .i32 (r : Int)) := by rw [← ER.out]; exact heap_cell HP0.out 0
  have hw : IntKind.u64.wrap (r : Int) = (r : Int) := IntWalk.u64_in _ ⟨by omega, by omega⟩
  go_upto_region 2 with (first
    | (go_at_call 128; (refine (refNum_c r 4 W0 (u64_small (by omega))).mono ?_); rintro _ w1 ⟨v1, rfl, ho1, hb1⟩; rw [num4'] at ho1; have HO1 : Hid (OwnB w1 W0.heap.size _ _) := Lib.hid ho1; have HB1 := Lib.hid (HB0.out.trans (hb1.mono HB0.out.size)); have HP1 := Lib.hid ((hb1.block p (heap_lt HP0.out)).trans HP0.out); have HZ1 : Hid (W0.heap.size ≤ w1.heap.size) := Lib.hid hb1.size; clear ho1 hb1))
  clear v0 hw
  have v2 : w1.cell? ⟨p, 2, none⟩ = some (.int .u32 (f : Int)) := by rw [← EF.out]; exact heap_cell HP1.out 2
  have hw : IntKind.u64.wrap (f : Int) = (f : Int) := IntWalk.u64_in _ ⟨by omega, by omega⟩
  go_upto_region 3 with (first
    | (go_at_call 128; (refine (refNum_c f 2 w1 (u64_small (by omega))).mono ?_); rintro _ w2 ⟨v2, rfl, ho2, hb2⟩; rw [num2] at ho2; obtain ⟨A2, c2, rfl, _, _, r2, _⟩ := OwnB.form ho2; rw [numL_length]; have R2 := Lib.hid r2; have HX2 : Hid (OwnB w2 W0.heap.size _ _) := Lib.hid (Own.below HO1.out hb2); have HB2 := Lib.hid (HB1.out.trans (hb2.mono HB1.out.size)); have HP2 := Lib.hid ((hb2.block p (heap_lt HP1.out)).trans HP1.out); have HZ2 : Hid (W0.heap.size ≤ w2.heap.size) := Lib.hid (Nat.le_trans HZ1.out hb2.size); clear ho2 hb2 r2)
    | (at_builtin; go_must (refine wpList_appB _ rfl (.tmp 8) (.tmp 13) rfl W0.heap.size _ _ rfl HX2.out A2 2 c2 (numL f 2) rfl (numL_length _ _) R2.out (by simp [numL_length]) HZ2.out ?_); intro v3 w3 h3 hg3 _; have HO3 := Lib.hid h3; have hk3 : Below W0.heap.size w2 w3 := (Below.refl _ _).grown hg3 HZ2.out (fun k e => (Own.lt HX2.out k e).1); have HB3 := Lib.hid (HB2.out.trans (hk3.mono HB0.out.size)); have HP3 := Lib.hid ((hk3.block p (heap_lt HP0.out)).trans HP2.out); have HZ3 : Hid (W0.heap.size ≤ w3.heap.size) := Lib.hid (Nat.le_trans HZ2.out hk3.size); clear h3 hg3 hk3))
  clear v2 hw
  have v2 : w3.cell? ⟨p, 3, none⟩ = some (.int .u32 (g : Int)) := by rw [← EG.out]; exact heap_cell HP3.out 3
  have hw : IntKind.u64.wrap (g : Int) = (g : Int) := IntWalk.u64_in _ ⟨by omega, by omega⟩
  go_upto_region 4 with (first
    | (go_at_call 128; (refine (refNum_c g 2 w3 (u64_small (by omega))).mono ?_); rintro _ w4 ⟨v4, rfl, ho4, hb4⟩; rw [num2] at ho4; obtain ⟨A4, c4, rfl, _, _, r4, _⟩ := OwnB.form ho4; rw [numL_length]; have R4 := Lib.hid r4; have HX4 : Hid (OwnB w4 W0.heap.size _ _) := Lib.hid (Own.below HO3.out hb4); have HB4 := Lib.hid (HB3.out.trans (hb4.mono HB3.out.size)); have HP4 := Lib.hid ((hb4.block p (heap_lt HP3.out)).trans HP3.out); have HZ4 : Hid (W0.heap.size ≤ w4.heap.size) := Lib.hid (Nat.le_trans HZ3.out hb4.size); clear ho4 hb4 r4)
    | (at_builtin; go_must (refine wpList_appB _ rfl (.tmp 15) (.tmp 20) rfl W0.heap.size _ _ rfl HX4.out A4 2 c4 (numL g 2) rfl (numL_length _ _) R4.out (by simp [numL_length]) HZ4.out ?_); intro v5 w5 h5 hg5 _; have HO5 := Lib.hid h5; have hk5 : Below W0.heap.size w4 w5 := (Below.refl _ _).grown hg5 HZ4.out (fun k e => (Own.lt HX4.out k e).1); have HB5 := Lib.hid (HB4.out.trans (hk5.mono HB0.out.size)); have HP5 := Lib.hid ((hk5.block p (heap_lt HP0.out)).trans HP4.out); have HZ5 : Hid (W0.heap.size ≤ w5.heap.size) := Lib.hid (Nat.le_trans HZ4.out hk5.size); clear h5 hg5 hk5))
  clear v2 hw
  have v4 : w5.cell? ⟨p, 4, none⟩ = some (.int .u8 (t : Int)) := by rw [← ET.out]; exact heap_cell HP5.out 4
  have hlo : Value.int .u8 (t : Int) = bv (lo t) := int_lo (by rw [Nat.mod_eq_of_lt (by omega)])
  have HLO := Lib.hid hlo
  clear hlo
  go_wp2_with (first
    | (at_builtin; go_must (refine wpList_appB1 _ rfl (.tmp 22) (.tmp 26) rfl W0.heap.size _ _ rfl HO5.out (.int .u8 (t : Int)) rfl (lo t) HLO.out (by simp [numL_length]) HZ5.out ?_); intro v6 w6 h6 hg6 _; have HO6 := Lib.hid h6; have hk6 : Below W0.heap.size w5 w6 := ((Below.refl _ _).alloc HZ5.out _).grown hg6 (Nat.le_trans HZ5.out (by simp)) (fun k e => (Own.lt HO5.out k e).1); have HB6 := Lib.hid (HB5.out.trans (hk6.mono HB0.out.size)); clear h6 hg6 hk6))
  go_ret
  exact ⟨_, rfl, by rw [← EZ.out]; exact Own.low HO6.out HB0.out.size, HB6.out⟩
end Go.Proofs.YtipofokinjkclaaDoor
