/- What the small functions of the layer wire and of its reference do: numbers and texts laid as bytes. Conditions: lengths that fit. -/
import Derived.Test.YtacindehajholaaBase
import Derived.Test.YtacindehajholaaPlain
namespace Go.Proofs.Ytacindehajholaa
open Go Go.RowKit

def sameB (xs ys : List UInt8) : Bool := decide (xs = ys)

theorem varStep_hi {n x : Nat} {bs : List UInt8} (h : varL n = bs ++ varL x) (hx : 128 ≤ x) : varL n = (bs ++ [dig x]) ++ varL (x / 128) := by
  rw [h, varL_hi hx, List.append_assoc]; rfl
theorem varStep_len {n x : Nat} {bs : List UInt8} (hn : U64 n) (h : varL n = bs ++ varL x) : bs.length ≤ 10 := by
  have h1 := varL_len10 hn
  rw [h, List.length_append] at h1
  omega

theorem bits_or128 (x : Nat) : Value.int .u8 (bits BinOp.or .u8 (((x : Nat) : Int) % 256) 128) = bv (dig x) := by
  have h := u8_or_nat (x % 256) 128 (by omega) (by omega)
  rw [show ((x % 256 : Nat) : Int) = (x : Int) % 256 by omega] at h
  have h2 := congrArg UInt8.toNat (or128 x)
  simp only [UInt8.toNat_or, UInt8.toNat_ofNat'] at h2
  rw [show (128 : UInt8).toNat = 128 from rfl] at h2
  unfold bv
  rw [show ((128 : Int)) = ((128 : Nat) : Int) from rfl, h, show (256 : Nat) = 2 ^ 8 from rfl, h2]

theorem int_lo {x : Int} {n : Nat} (h : x = ((n % 256 : Nat) : Int)) : Value.int .u8 x = bv (lo n) := by rw [h, bv, lo_nat]

set_option maxRecDepth 100000 in
set_option maxHeartbeats 400000 in
theorem Var_c (n : Nat) (w : World) (hn : U64 n) :
    Calls Try.prog 15 #[.int .u64 n] w fun e w' => ∃ v, e = .returned v ∧ OwnB w' w.heap.size v (varL n) ∧ Below w.heap.size w w' := by
  go_enter Try.func15, Try.ntmps15
  go_wp2
  go_loopw [0, 3] (fun m v wr => ∃ (x : Nat) (bs : List UInt8), m = .int .u64 x ∧ varL n = bs ++ varL x ∧ U64 x ∧ OwnB wr w.heap.size v bs ∧ Below w.heap.size w wr) (fun m v _ => (intOf m).toNat)
  case atStart => exact ⟨n, [], rfl, rfl, hn, Own.nil_ _ _ _, Below.refl _ _⟩
  case round =>
    obtain ⟨x, bs, rfl, hv, hx, hown, hb⟩ := hrel
    have hl := varStep_len hn hv
    have hz := hb.size
    have HV := Lib.hid hv; clear hv
    rcases Int.lt_or_le (x : Int) 128 with hlt | hle
    · go_wp2_with (first | (at_builtin; refine wpList_appB1 _ rfl (.tmp 14) (.tmp 17) rfl w.heap.size _ bs rfl hown _ rfl (lo x) ?_ (by omega) (by omega) ?_))
      · exact int_lo (by omega)
      · intro v' w' h1 h2 _
        go_wp2
        go_ret
        refine ⟨_, rfl, ?_, ?_⟩
        · rw [HV.out, varL_lo (by omega)]; exact h1
        · exact (hb.alloc (by omega) _).grown h2 (by simp; omega) (fun k hk => (hown.lt k hk).1)
    · go_wp2_with (first | (at_builtin; refine wpList_appB1 _ rfl (.tmp 6) (.tmp 10) rfl w.heap.size _ bs rfl hown _ rfl (dig x) ?_ (by omega) (by omega) ?_))
      · exact bits_or128 x
      · intro v' w' h1 h2 _
        go_wp2
        go_roundw
        case rel => exact ⟨x / 128, _, by go_num, varStep_hi HV.out (by omega), hx.le (by omega), h1, (hb.alloc (by omega) _).grown h2 (by simp; omega) (fun k hk => (hown.lt k hk).1)⟩
        case measure => simp [intOf]; omega

/-! ### The reference's Var: the same by division -/
set_option maxRecDepth 100000 in
set_option maxHeartbeats 400000 in
theorem refVar_c (n : Nat) (w : World) (hn : U64 n) :
    Calls Try.prog 21 #[.int .u64 n] w fun e w' => ∃ v, e = .returned v ∧ OwnB w' w.heap.size v (varL n) ∧ Below w.heap.size w w' := by
  go_enter Try.func21, Try.ntmps21
  go_wp2
  go_loopw [0, 3] (fun m v wr => ∃ (x : Nat) (bs : List UInt8), m = .int .u64 x ∧ varL n = bs ++ varL x ∧ U64 x ∧ OwnB wr w.heap.size v bs ∧ Below w.heap.size w wr) (fun m v _ => (intOf m).toNat)
  case atStart => exact ⟨n, [], rfl, rfl, hn, World.ownsRow_made w #[] 0 (Nat.le_refl _) (Nat.zero_le _) rfl, (Below.refl _ _).alloc (Nat.le_refl _) _⟩
  case round =>
    obtain ⟨x, bs, rfl, hv, hx, hown, hb⟩ := hrel
    have hl := varStep_len hn hv
    have hz := hb.size
    have HV := Lib.hid hv; clear hv
    have hw : IntKind.u64.wrap ((x : Int) / 128) = (x : Int) / 128 := u64_div hx 128
    rcases Int.lt_or_le (x : Int) 128 with hlt | hle
    · have hq : (((x : Int) / 128) == 0) = true := by rw [beq_iff_eq]; omega
      go_wp2_with (first | (at_builtin; refine wpList_appB1 _ rfl (.tmp 8) (.tmp 11) rfl w.heap.size _ bs rfl hown _ rfl (lo x) ?_ (by omega) (by omega) ?_))
      · exact int_lo (by omega)
      · intro v' w' h1 h2 _
        go_wp2
        go_ret
        refine ⟨_, rfl, ?_, ?_⟩
        · rw [HV.out, varL_lo (by omega)]; exact h1
        · exact (hb.alloc (by omega) _).grown h2 (by simp; omega) (fun k hk => (hown.lt k hk).1)
    · have hq : (((x : Int) / 128) == 0) = false := by rw [beq_eq_false_iff_ne]; omega
      go_wp2_with (first | (at_builtin; refine wpList_appB1 _ rfl (.tmp 13) (.tmp 18) rfl w.heap.size _ bs rfl hown _ rfl (dig x) ?_ (by omega) (by omega) ?_))
      · unfold bv; rw [dig_nat]; congr 1
      · intro v' w' h1 h2 _
        go_wp2
        go_roundw
        case rel => exact ⟨x / 128, _, by go_num, varStep_hi HV.out (by omega), hx.le (by omega), h1, (hb.alloc (by omega) _).grown h2 (by simp; omega) (fun k hk => (hown.lt k hk).1)⟩
        case measure => simp [intOf]; omega

/-! ### Copy -/
set_option maxRecDepth 100000 in
set_option maxHeartbeats 400000 in
theorem Copy_c (A : Option Addr) (n c : Nat) (bs : List UInt8) (w : World) (hn : bs.length = n) (hr : Rd w A (bs.map bv)) (hl : n ≤ 140737488355328) :
    Calls Try.prog 16 #[.slice A n c] w fun e w' => ∃ v, e = .returned v ∧ OwnB w' w.heap.size v bs ∧ Below w.heap.size w w' := by
  have HN := Lib.hid hn; clear hn
  go_enter Try.func16, Try.ntmps16
  go_wp2_with (first | (at_make; refine wpList_makeB _ rfl (.tmp 5) (.tmp 5) rfl _ _ _ _ n rfl rfl rfl rfl hl ?_))
  intro w1 h1 h2 h3
  go_wp2_with (with_reducible refine wpList_copyB _ rfl (.tmp 7) (.tmp 8) rfl w.heap.size w.heap.size n n _ rfl h1 A n c bs rfl HN.out (hr.below h2) ?_; intro w2 h4 h5 _; have H4 := Lib.hid h4; clear h4)
  go_wp2
  go_ret
  refine ⟨_, rfl, ?_, h2.trans h5⟩
  have e : List.take n bs ++ List.drop n (List.replicate n 0) = bs := by
    rw [List.take_of_length_le (by rw [HN.out]; exact Nat.le_refl _), List.drop_of_length_le (by simp), List.append_nil]
  have h4 := H4.out
  rw [e] at h4
  exact h4

/-! ### Num -/
theorem numL_end {n size : Nat} {f : Nat → UInt8} (hf : ∀ i, i < size → f i = lo (n / 256 ^ (size - 1 - i))) : (List.range size).map f = numL n size := by
  unfold numL
  exact List.map_congr_left fun i hi => hf i (List.mem_range.1 hi)
/-- What stands in the row when the places from k on are laid. -/
def numTail (n size k : Nat) : List UInt8 := List.replicate k 0 ++ (numL n size).drop k
theorem numTail_start (n size : Nat) : numTail n size size = List.replicate size 0 := by
  unfold numTail
  rw [List.drop_of_length_le (by rw [numL_length]; exact Nat.le_refl _), List.append_nil]
theorem numTail_zero (n size : Nat) : numTail n size 0 = numL n size := by simp [numTail]
theorem numTail_step {n size k : Nat} (hk : k < size) : (numTail n size (k + 1)).set k (lo (n / 256 ^ (size - 1 - k))) = numTail n size k := by
  unfold numTail
  have h1 : (numL n size).drop k = lo (n / 256 ^ (size - 1 - k)) :: (numL n size).drop (k + 1) := by
    rw [List.drop_eq_getElem_cons (by rw [numL_length]; exact hk)]
    simp [numL]
  rw [h1, List.replicate_succ', List.append_assoc, List.set_append_right _ _ (by simp)]
  simp
theorem numTail_length (n size k : Nat) (hk : k ≤ size) : (numTail n size k).length = size := by
  unfold numTail; rw [List.length_append, List.length_replicate, List.length_drop, numL_length]; omega

def numLI (n : Nat) (size : Int) : List UInt8 := if 1 ≤ size ∧ size ≤ 8 then numL n size.toNat else []

set_option maxRecDepth 100000 in
set_option maxHeartbeats 400000 in
theorem Num_c (n : Nat) (size : Int) (w : World) (hn : U64 n) :
    Calls Try.prog 19 #[.int .u64 n, .int .i64 size] w fun e w' => ∃ v, e = .returned v ∧ OwnB w' w.heap.size v (numLI n size) ∧ Below w.heap.size w w' := by
  rcases Int.lt_or_le size 1 with h1 | h1
  · go_enter Try.func19, Try.ntmps19
    go_wp2
    go_ret
    refine ⟨_, rfl, ?_, Below.refl _ _⟩
    rw [numLI, if_neg (by omega)]; exact Own.nil_ _ _ _
  rcases Int.lt_or_le 8 size with h8 | h8
  · go_enter Try.func19, Try.ntmps19
    go_wp2
    go_ret
    refine ⟨_, rfl, ?_, Below.refl _ _⟩
    rw [numLI, if_neg (by omega)]; exact Own.nil_ _ _ _
  obtain ⟨s, rfl⟩ := Int.eq_ofNat_of_zero_le (show 0 ≤ size by omega)
  have hfin : numLI n (s : Int) = numL n s := by rw [numLI, if_pos ⟨h1, h8⟩, Int.toNat_natCast]
  have HF := Lib.hid hfin; clear hfin
  go_enter Try.func19, Try.ntmps19
  go_wp2_with (first | (at_make; refine wpList_makeB _ rfl (.tmp 13) (.tmp 13) rfl _ _ _ _ s rfl rfl rfl rfl (by omega) ?_))
  intro w1 ho1 hb1 _
  go_wp2
  go_loopw [0, 6] (fun m i wr => ∃ k : Nat, k ≤ s ∧ i = .int .i64 ((k : Int) - 1) ∧ m = .int .u64 ((n / 256 ^ (s - k) : Nat) : Int) ∧ OwnB wr w.heap.size (.slice (some ⟨w.heap.size, 0, none⟩) s s) (numTail n s k) ∧ Below w.heap.size w wr) (fun m i _ => (intOf i + 1).toNat)
  case atStart =>
    refine ⟨s, Nat.le_refl _, rfl, ?_, ?_, hb1⟩
    · rw [Nat.sub_self, Nat.pow_zero, Nat.div_one]
    · rw [numTail_start]; exact ho1
  case round =>
    obtain ⟨k, hk, rfl, rfl, hown, hb⟩ := hrel
    rcases Nat.eq_zero_or_pos k with h0 | h0
    · subst h0
      go_wp2
      go_ret
      refine ⟨_, rfl, ?_, hb⟩
      rw [HF.out, ← numTail_zero]; exact hown
    · obtain ⟨j, rfl⟩ : ∃ j, k = j + 1 := ⟨k - 1, by omega⟩
      have hcell := hown.cell j (by rw [numTail_length _ _ _ hk]; omega)
      have hfree := hown.free j
      obtain ⟨x, hx⟩ : ∃ x, x = n / 256 ^ (s - (j + 1)) := ⟨_, rfl⟩
      have hq : x / 256 = n / 256 ^ (s - j) := by
        rw [hx, Nat.div_div_eq_div_mul, ← Nat.pow_succ, show (s - (j + 1)).succ = s - j by omega]
      rw [← hx]
      have HX := Lib.hid hx; clear hx
      have HQ := Lib.hid hq; clear hq
      go_wp2
      go_roundw
      case rel =>
        refine ⟨j, by omega, rfl, by rw [← HQ.out]; try rfl, ?_, hb.setCell (Nat.le_refl _) _⟩
        rw [int_lo (x := (x : Int) % 256) (n := x) (by omega), ← numTail_step (by omega)]
        have h := hown.set j (lo x)
        rw [HX.out] at h ⊢
        rw [show s - 1 - j = s - (j + 1) by omega]
        exact h
      case measure => simp [intOf]

set_option maxRecDepth 100000 in
set_option maxHeartbeats 400000 in
theorem refNum_c (n : Nat) (size : Int) (w : World) (hn : U64 n) :
    Calls Try.prog 20 #[.int .u64 n, .int .i64 size] w fun e w' => ∃ v, e = .returned v ∧ OwnB w' w.heap.size v (numLI n size) ∧ Below w.heap.size w w' := by
  rcases Int.lt_or_le size 1 with h1 | h1
  · go_enter Try.func20, Try.ntmps20
    go_wp2
    go_ret
    refine ⟨_, rfl, ?_, Below.refl _ _⟩
    rw [numLI, if_neg (by omega)]; exact Own.nil_ _ _ _
  rcases Int.lt_or_le 8 size with h8 | h8
  · go_enter Try.func20, Try.ntmps20
    go_wp2
    go_ret
    refine ⟨_, rfl, ?_, Below.refl _ _⟩
    rw [numLI, if_neg (by omega)]; exact Own.nil_ _ _ _
  obtain ⟨s, rfl⟩ := Int.eq_ofNat_of_zero_le (show 0 ≤ size by omega)
  have hfin : numLI n (s : Int) = numL n s := by rw [numLI, if_pos ⟨h1, h8⟩, Int.toNat_natCast]
  have HF := Lib.hid hfin; clear hfin
  go_enter Try.func20, Try.ntmps20
  go_wp2_with (first | (at_make; refine wpList_makeB _ rfl (.tmp 13) (.tmp 13) rfl _ _ _ _ s rfl rfl rfl rfl (by omega) ?_))
  intro w1 ho1 hb1 _
  go_wp2
  go_loopw [0, 6] (fun m i wr => ∃ k : Nat, k ≤ s ∧ i = .int .i64 (k : Int) ∧ m = .int .u64 ((n / 256 ^ k : Nat) : Int) ∧ OwnB wr w.heap.size (.slice (some ⟨w.heap.size, 0, none⟩) s s) (numTail n s (s - k)) ∧ Below w.heap.size w wr) (fun m i _ => s - (intOf i).toNat)
  case atStart =>
    refine ⟨0, Nat.zero_le _, rfl, ?_, ?_, hb1⟩
    · rw [Nat.pow_zero, Nat.div_one]
    · rw [Nat.sub_zero, numTail_start]; exact ho1
  case round =>
    obtain ⟨k, hk, rfl, rfl, hown, hb⟩ := hrel
    rcases Nat.lt_or_ge k s with h0 | h0
    · obtain ⟨x, hx⟩ : ∃ x, x = n / 256 ^ k := ⟨_, rfl⟩
      have hu : U64 x := hn.le (by rw [hx]; exact Nat.div_le_self _ _)
      have hw : IntKind.u64.wrap ((x : Int) / 256) = (x : Int) / 256 := u64_div hu 256
      have hq : x / 256 = n / 256 ^ (k + 1) := by rw [hx, Nat.div_div_eq_div_mul, ← Nat.pow_succ]
      obtain ⟨old, hcell⟩ : ∃ old, wr.cell? ⟨w.heap.size, s - 1 - k, none⟩ = some old := ⟨_, hown.cell (s - 1 - k) (by rw [numTail_length _ _ _ (by omega)]; omega)⟩
      have hfree := hown.free (s - 1 - k)
      rw [← hx]
      have HX := Lib.hid hx; clear hx
      have HQ := Lib.hid hq; clear hq
      go_wp2
      go_roundw
      case rel =>
        refine ⟨k + 1, by omega, by go_num, by rw [← HQ.out]; try rfl, ?_, hb.setCell (Nat.le_refl _) _⟩
        rw [int_lo (x := (x : Int) % 256) (n := x) (by omega), ← numTail_step (by omega), show s - (k + 1) + 1 = s - k by omega, show s - 1 - (s - (k + 1)) = k by omega, ← HX.out, show s - (k + 1) = s - 1 - k by omega]
        exact hown.set _ _
      case measure => simp [intOf]; omega
    · obtain rfl : k = s := by omega
      go_wp2
      go_ret
      refine ⟨_, rfl, ?_, hb⟩
      rw [Nat.sub_self, numTail_zero] at hown
      rw [HF.out]; exact hown

/-! ### Text -/
theorem wpList_quietcall : True := trivial

set_option maxRecDepth 100000 in
set_option maxHeartbeats 400000 in
theorem Text_c (A : Option Addr) (n c : Nat) (bs : List UInt8) (w : World) (hn : bs.length = n) (hr : Rd w A (bs.map bv)) (hl : n ≤ 140737488355000) :
    Calls Try.prog 17 #[.slice A n c] w fun e w' => ∃ v, e = .returned (.tuple #[v, .int .i64 (if n ≤ 4096 then 0 else 4)]) ∧ OwnB w' w.heap.size v (if n ≤ 4096 then varL n ++ bs else []) ∧ Below w.heap.size w w' := by
  have HN := Lib.hid hn; clear hn
  rcases Nat.lt_or_ge 4096 n with h | h
  · have e1 : (if n ≤ 4096 then varL n ++ bs else []) = [] := if_neg (by omega)
    have e2 : (if n ≤ 4096 then (0 : Int) else 4) = 4 := if_neg (by omega)
    rw [e1, e2]
    clear e1 e2
    go_enter Try.func17, Try.ntmps17
    go_wp2
    go_ret2
    exact ⟨_, rfl, Own.nil_ _ _ _, Below.refl _ _⟩
  · have e1 : (if n ≤ 4096 then varL n ++ bs else []) = varL n ++ bs := if_pos (by omega)
    have e2 : (if n ≤ 4096 then (0 : Int) else 4) = 0 := if_pos (by omega)
    rw [e1, e2]
    clear e1 e2
    have hu : U64 n := Nat.lt_of_le_of_lt h (by decide)
    have hv := varL_len10 hu
    go_enter Try.func17, Try.ntmps17
    go_wp2_with (first | (go_at_call 15; refine (Var_c _ _ hu).mono ?_; rintro e w1 ⟨v, rfl, ho, hb⟩; have hz := hb.size) | (at_builtin; refine wpList_appB _ rfl (.tmp 10) (.tmp 11) rfl w.heap.size _ (varL n) rfl ho A n c bs rfl HN.out (hr.below hb) (by omega) (by omega) ?_; intro v' w2 h1 h2 h3; have H1 := Lib.hid h1; clear h1))
    go_wp2
    go_ret2
    exact ⟨_, rfl, H1.out, hb.grown h2 (by omega) (fun k hk => (ho.lt k hk).1)⟩

set_option maxRecDepth 100000 in
set_option maxHeartbeats 400000 in
theorem refText_c (A : Option Addr) (n c : Nat) (bs : List UInt8) (w : World) (hn : bs.length = n) (hr : Rd w A (bs.map bv)) (hl : n ≤ 140737488355000) :
    Calls Try.prog 18 #[.slice A n c] w fun e w' => ∃ v, e = .returned (.tuple #[v, .int .i64 (if n ≤ 4096 then 0 else 4)]) ∧ OwnB w' w.heap.size v (if n ≤ 4096 then varL n ++ bs else []) ∧ Below w.heap.size w w' := by
  have HN := Lib.hid hn; clear hn
  rcases Nat.lt_or_ge 4096 n with h | h
  · have e1 : (if n ≤ 4096 then varL n ++ bs else []) = [] := if_neg (by omega)
    have e2 : (if n ≤ 4096 then (0 : Int) else 4) = 4 := if_neg (by omega)
    rw [e1, e2]
    clear e1 e2
    go_enter Try.func18, Try.ntmps18
    go_wp2
    go_ret2
    exact ⟨_, rfl, Own.nil_ _ _ _, Below.refl _ _⟩
  · have e1 : (if n ≤ 4096 then varL n ++ bs else []) = varL n ++ bs := if_pos (by omega)
    have e2 : (if n ≤ 4096 then (0 : Int) else 4) = 0 := if_pos (by omega)
    rw [e1, e2]
    clear e1 e2
    have hu : U64 n := Nat.lt_of_le_of_lt h (by decide)
    have hv := varL_len10 hu
    go_enter Try.func18, Try.ntmps18
    go_wp2_with (first | (go_at_call 21; refine (refVar_c _ _ hu).mono ?_; rintro e w1 ⟨v, rfl, ho, hb⟩; have hz := hb.size) | (at_builtin; refine wpList_appB _ rfl (.tmp 10) (.tmp 11) rfl w.heap.size _ (varL n) rfl ho A n c bs rfl HN.out (hr.below hb) (by omega) (by omega) ?_; intro v' w2 h1 h2 h3; have H1 := Lib.hid h1; clear h1))
    go_wp2
    go_ret2
    exact ⟨_, rfl, H1.out, hb.grown h2 (by omega) (fun k hk => (ho.lt k hk).1)⟩

/-! ### Same -/
theorem take_succ_eq {xs ys : List UInt8} {k : Nat} (h : xs.take k = ys.take k) (hx : k < xs.length) (hy : k < ys.length) (he : xs[k] = ys[k]) : xs.take (k + 1) = ys.take (k + 1) := by
  rw [List.take_succ_eq_append_getElem hx, List.take_succ_eq_append_getElem hy, h, he]
theorem bv_bne {x y : UInt8} : (((x.toNat : Int) != (y.toNat : Int)) = true) ↔ x ≠ y := by
  rw [bne_iff_ne]
  constructor
  · rintro h rfl; exact h rfl
  · intro h e; exact h (UInt8.toNat_inj.1 (by omega))
theorem bv_bne_f {x y : UInt8} : (((x.toNat : Int) != (y.toNat : Int)) = false) ↔ x = y := by
  constructor
  · intro h
    apply Classical.byContradiction
    intro hn
    rw [bv_bne.2 hn] at h
    cases h
  · rintro rfl; simp

set_option maxRecDepth 100000 in
set_option maxHeartbeats 400000 in
theorem Same_c (A1 A2 : Option Addr) (n1 n2 c1 c2 : Nat) (xs ys : List UInt8) (w : World) (l1 : xs.length = n1) (l2 : ys.length = n2) (h1 : Rd w A1 (xs.map bv)) (h2 : Rd w A2 (ys.map bv)) (m1 : n1 ≤ maxLen) :
    Calls Try.prog 14 #[.slice A1 n1 c1, .slice A2 n2 c2] w fun e w' => e = .returned (.bool (sameB xs ys)) ∧ ∃ q, w' = w.drewN q := by
  unfold maxLen at m1
  by_cases hne : n1 = n2
  · subst hne
    rcases Nat.eq_zero_or_pos n1 with h0 | h0
    · subst h0
      have e1 : sameB xs ys = true := by rw [List.eq_nil_of_length_eq_zero l1, List.eq_nil_of_length_eq_zero l2]; rfl
      rw [e1]
      go_enter Try.func14, Try.ntmps14
      go_wp2
      go_loopw [13] (fun i wr => i = .int .i64 (0 : Nat) ∧ wr = w) (fun i _ => 0)
      case atStart => exact ⟨rfl, rfl⟩
      case round =>
        obtain ⟨rfl, rfl⟩ := hrel
        go_wp2
        go_ret
        exact ⟨rfl, 0, rfl⟩
    · obtain ⟨b1, o1, rfl, _, g1⟩ := h1.addrB (by omega)
      obtain ⟨b2, o2, rfl, _, g2⟩ := h2.addrB (by omega)
      have H1 : Hid (∀ k (h : k < xs.length), w.cell? ⟨b1, o1 + k, none⟩ = some (bv xs[k])) := g1
      have H2 : Hid (∀ k (h : k < ys.length), w.cell? ⟨b2, o2 + k, none⟩ = some (bv ys[k])) := g2
      clear g1 g2 h1 h2
      have L1 := Lib.hid l1; clear l1
      have L2 := Lib.hid l2; clear l2
      go_enter Try.func14, Try.ntmps14
      go_wp2
      go_loopw [13] (fun i wr => ∃ k : Nat, k ≤ n1 ∧ i = .int .i64 k ∧ (∃ q, wr = w.drewN q) ∧ xs.take k = ys.take k) (fun i _ => n1 - (intOf i).toNat)
      case atStart => exact ⟨0, Nat.zero_le _, rfl, ⟨0, rfl⟩, rfl⟩
      case round =>
        obtain ⟨k, hk, rfl, ⟨q, rfl⟩, ht⟩ := hrel
        have HT := Lib.hid ht; clear ht
        by_cases hlt : k < n1
        · have hx : k < xs.length := by rw [L1.out]; exact hlt
          have hy : k < ys.length := by rw [L2.out]; exact hlt
          obtain ⟨x, ex⟩ : ∃ x, x = xs[k] := ⟨_, rfl⟩
          obtain ⟨y, ey⟩ : ∃ y, y = ys[k] := ⟨_, rfl⟩
          have c1 : w.cell? ⟨b1, o1 + k, none⟩ = some (.int .u8 (x.toNat : Int)) := by rw [ex]; exact H1.out k hx
          have c2 : w.cell? ⟨b2, o2 + k, none⟩ = some (.int .u8 (y.toNat : Int)) := by rw [ey]; exact H2.out k hy
          have EX := Lib.hid ex; clear ex
          have EY := Lib.hid ey; clear ey
          by_cases hxy : x = y
          · have hb := bv_bne_f.2 hxy
            have HXY := Lib.hid hxy; clear hxy
            go_wp2
            go_quiet (fail)
            go_wp2
            go_roundw
            case rel => exact ⟨k + 1, by omega, by go_num, ⟨_, rfl⟩, take_succ_eq HT.out (by rw [L1.out]; exact hlt) (by rw [L2.out]; exact hlt) (by rw [← EX.out, ← EY.out]; exact HXY.out)⟩
            case measure => simp [intOf]; omega
          · have hb := bv_bne.2 hxy
            have HXY := Lib.hid hxy; clear hxy
            have e1 : sameB xs ys = false := by
              unfold sameB
              refine decide_eq_false fun e => HXY.out ?_
              subst e
              rw [EX.out, EY.out]
            go_wp2
            go_quiet (fail)
            go_wp2
            go_ret
            exact ⟨by rw [e1]; rfl, _, World.drewN_drewN _ _ _⟩
        · obtain rfl : k = n1 := by omega
          have e1 : sameB xs ys = true := by
            unfold sameB
            refine decide_eq_true ?_
            have := HT.out
            rw [List.take_of_length_le (by rw [L1.out]; exact Nat.le_refl _), List.take_of_length_le (by rw [L2.out]; exact Nat.le_refl _)] at this
            exact this
          go_wp2
          go_ret
          exact ⟨by rw [e1]; rfl, _, rfl⟩
  · have hb : ((n1 : Int) != (n2 : Int)) = true := by rw [bne_iff_ne]; omega
    have e1 : sameB xs ys = false := by
      unfold sameB
      refine decide_eq_false fun e => hne ?_
      rw [← l1, ← l2, e]
    rw [e1]
    clear e1
    have L1 := Lib.hid l1; clear l1
    have L2 := Lib.hid l2; clear l2
    go_enter Try.func14, Try.ntmps14
    go_wp2
    go_ret
    exact ⟨rfl, 0, rfl⟩
end Go.Proofs.Ytacindehajholaa
