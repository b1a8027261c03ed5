/- What the layer wire's and its reference's Var answer: a number laid by as few bytes as can be. Conditions: a number of 64 bits. -/
import Derived.Test.YtgnciejbhaebeaaBase
import Derived.Test.YtgnciejbhaebeaaPlain
namespace Go.Proofs.Ytgnciejbhaebeaa
open Go Go.RowKit

theorem varStep_hi {n x : Nat} {bs : List UInt8} (h : varL n = bs ++ varL x) (hx : 128 ≤ x) : varL n = (bs ++ [dig x]) ++ varL (x / 128) := by
  rw [h, varL_hi hx, List.append_assoc]; rfl
theorem varStep_len {n x : Nat} {bs : List UInt8} (hn : U64 n) (h : varL n = bs ++ varL x) : bs.length ≤ 10 := by
  have h1 := varL_len10 hn
  rw [h, List.length_append] at h1
  omega

theorem bits_or128 (x : Nat) : Value.int .u8 (bits BinOp.or .u8 (((x : Nat) : Int) % 256) 128) = bv (dig x) := by
  have h := u8_or_nat (x % 256) 128 (by omega) (by omega)
  rw [show ((x % 256 : Nat) : Int) = (x : Int) % 256 by omega] at h
  have h2 := congrArg UInt8.toNat (or128 x)
  simp only [UInt8.toNat_or, UInt8.toNat_ofNat'] at h2
  rw [show (128 : UInt8).toNat = 128 from rfl] at h2
  unfold bv
  rw [show ((128 : Int)) = ((128 : Nat) : Int) from rfl, h, show (256 : Nat) = 2 ^ 8 from rfl, h2]

theorem int_lo {x : Int} {n : Nat} (h : x = ((n % 256 : Nat) : Int)) : Value.int .u8 x = bv (lo n) := by rw [h, bv, lo_nat]

set_option maxRecDepth 100000 in
set_option maxHeartbeats 400000 in
theorem Var_c (n : Nat) (w : World) (hn : U64 n) :
    Calls Try.prog 84 #[.int .u64 n] w fun e w' => ∃ v, e = .returned v ∧ OwnB w' w.heap.size v (varL n) ∧ Below w.heap.size w w' := by
  go_enter Try.func84, Try.ntmps84
  go_wp2
  go_loopw [0, 3] (fun m v wr => ∃ (x : Nat) (bs : List UInt8), m = .int .u64 x ∧ varL n = bs ++ varL x ∧ U64 x ∧ OwnB wr w.heap.size v bs ∧ Below w.heap.size w wr) (fun m v _ => (intOf m).toNat)
  case atStart => exact ⟨n, [], rfl, rfl, hn, Own.nil_ _ _ _, Below.refl _ _⟩
  case round =>
    obtain ⟨x, bs, rfl, hv, hx, hown, hb⟩ := hrel
    have hl := varStep_len hn hv
    have hz := hb.size
    have HV := Lib.hid hv; clear hv
    rcases Int.lt_or_le (x : Int) 128 with hlt | hle
    · go_wp2_with (first | (at_builtin; refine wpList_appB1 _ rfl (.tmp 14) (.tmp 17) rfl w.heap.size _ bs rfl hown _ rfl (lo x) ?_ (by omega) (by omega) ?_))
      · exact int_lo (by omega)
      · intro v' w' h1 h2 _
        go_wp2
        go_ret
        refine ⟨_, rfl, ?_, ?_⟩
        · rw [HV.out, varL_lo (by omega)]; exact h1
        · exact (hb.alloc (by omega) _).grown h2 (by simp; omega) (fun k hk => (hown.lt k hk).1)
    · go_wp2_with (first | (at_builtin; refine wpList_appB1 _ rfl (.tmp 6) (.tmp 10) rfl w.heap.size _ bs rfl hown _ rfl (dig x) ?_ (by omega) (by omega) ?_))
      · exact bits_or128 x
      · intro v' w' h1 h2 _
        go_wp2
        go_roundw
        case rel => exact ⟨x / 128, _, by go_num, varStep_hi HV.out (by omega), hx.le (by omega), h1, (hb.alloc (by omega) _).grown h2 (by simp; omega) (fun k hk => (hown.lt k hk).1)⟩
        case measure => simp [intOf]; omega

/-! ### The reference's Var: the same by division -/
set_option maxRecDepth 100000 in
set_option maxHeartbeats 400000 in
theorem refVar_c (n : Nat) (w : World) (hn : U64 n) :
    Calls Try.prog 86 #[.int .u64 n] w fun e w' => ∃ v, e = .returned v ∧ OwnB w' w.heap.size v (varL n) ∧ Below w.heap.size w w' := by
  go_enter Try.func86, Try.ntmps86
  go_wp2
  go_loopw [0, 3] (fun m v wr => ∃ (x : Nat) (bs : List UInt8), m = .int .u64 x ∧ varL n = bs ++ varL x ∧ U64 x ∧ OwnB wr w.heap.size v bs ∧ Below w.heap.size w wr) (fun m v _ => (intOf m).toNat)
  case atStart => exact ⟨n, [], rfl, rfl, hn, World.ownsRow_made w #[] 0 (Nat.le_refl _) (Nat.zero_le _) rfl, (Below.refl _ _).alloc (Nat.le_refl _) _⟩
  case round =>
    obtain ⟨x, bs, rfl, hv, hx, hown, hb⟩ := hrel
    have hl := varStep_len hn hv
    have hz := hb.size
    have HV := Lib.hid hv; clear hv
    have hw : IntKind.u64.wrap ((x : Int) / 128) = (x : Int) / 128 := u64_div hx 128
    rcases Int.lt_or_le (x : Int) 128 with hlt | hle
    · have hq : (((x : Int) / 128) == 0) = true := by rw [beq_iff_eq]; omega
      go_wp2_with (first | (at_builtin; refine wpList_appB1 _ rfl (.tmp 8) (.tmp 11) rfl w.heap.size _ bs rfl hown _ rfl (lo x) ?_ (by omega) (by omega) ?_))
      · exact int_lo (by omega)
      · intro v' w' h1 h2 _
        go_wp2
        go_ret
        refine ⟨_, rfl, ?_, ?_⟩
        · rw [HV.out, varL_lo (by omega)]; exact h1
        · exact (hb.alloc (by omega) _).grown h2 (by simp; omega) (fun k hk => (hown.lt k hk).1)
    · have hq : (((x : Int) / 128) == 0) = false := by rw [beq_eq_false_iff_ne]; omega
      go_wp2_with (first | (at_builtin; refine wpList_appB1 _ rfl (.tmp 13) (.tmp 18) rfl w.heap.size _ bs rfl hown _ rfl (dig x) ?_ (by omega) (by omega) ?_))
      · unfold bv; rw [dig_nat]; congr 1
      · intro v' w' h1 h2 _
        go_wp2
        go_roundw
        case rel => exact ⟨x / 128, _, by go_num, varStep_hi HV.out (by omega), hx.le (by omega), h1, (hb.alloc (by omega) _).grown h2 (by simp; omega) (fun k hk => (hown.lt k hk).1)⟩
        case measure => simp [intOf]; omega
end Go.Proofs.Ytgnciejbhaebeaa
