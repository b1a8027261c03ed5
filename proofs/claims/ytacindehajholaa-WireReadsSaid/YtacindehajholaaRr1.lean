/- What the reference's reader does: the same as the layer's. Conditions: lengths that fit. -/
import Derived.Test.YtacindehajholaaRd4
namespace Go.Proofs.Ytacindehajholaa
open Go Go.RowKit

/-- The reference's reader as a value. -/
def rsV (A : Option Addr) (c : Nat) (s : RS) : Value := .agg #[.slice A s.b.length c, .int .i64 (s.at_ : Int), .int .i64 (s.err : Int)]
/-- What is known of it. -/
def RsOk (w : World) (A : Option Addr) (c : Nat) (s : RS) : Prop := Rd w A (s.b.map bv) ∧ s.b.length ≤ c ∧ c ≤ maxLen ∧ s.at_ ≤ s.b.length ∧ s.b.length ≤ 140737488355328

set_option maxRecDepth 100000 in
set_option maxHeartbeats 400000 in
theorem refLeft_c (A : Option Addr) (c : Nat) (s : RS) (w : World) (h : RsOk w A c s) :
    Calls Try.prog 29 #[rsV A c s] w fun e w' => e = .returned (.int .i64 ((s.b.length - s.at_ : Nat) : Int)) ∧ Below w.heap.size w w' := by
  obtain ⟨h1, h2, h3, h4, h5⟩ := h
  have e1 : ((s.b.length - s.at_ : Nat) : Int) = (s.b.length : Int) - (s.at_ : Int) := by omega
  rw [e1]
  clear e1
  unfold rsV
  go_enter Try.func29, Try.ntmps29
  go_wp2
  go_ret
  exact ⟨rfl, (Below.refl _ _).alloc (Nat.le_refl _) _⟩

set_option maxRecDepth 100000 in
set_option maxHeartbeats 400000 in
theorem refNumR_c (A : Option Addr) (c : Nat) (s : RS) (size : Int) (w : World) (h : RsOk w A c s) (hs : (Lit.int .i64 size).wf = true) :
    Calls Try.prog 23 #[rsV A c s, .int .i64 size] w fun e w' => e = .returned (.tuple #[.int .u64 ((numR s size).1 : Int), rsV A c (numR s size).2]) ∧ Below w.heap.size w w' := by
  obtain ⟨h1, h2, h3, h4, h5⟩ := h
  by_cases h0 : s.err = 0
  · have hb : (((s.err : Nat) : Int) != 0) = false := by rw [bne_eq_false_iff_eq]; omega
    by_cases hsz : size < 1 ∨ 8 < size
    · have e1 : numR s size = (0, { s with err := 1 }) := by rw [numR, if_neg (by omega), if_pos hsz]
      rw [e1]
      clear e1
      have H0 := Lib.hid h0; clear h0
      unfold rsV
      rcases hsz with k1 | k1
      all_goals
        go_enter Try.func23, Try.ntmps23
        go_wp2
        go_region
        all_goals
          go_wp2
          go_returns
          refine ⟨rfl, ?_⟩
          go_grown
    · obtain ⟨n, rfl⟩ := Int.eq_ofNat_of_zero_le (show 0 ≤ size by omega)
      have hn1 : 1 ≤ (n : Int) := by omega
      have hn8 : (n : Int) ≤ 8 := by omega
      by_cases hsh : (s.b.length : Int) - (s.at_ : Int) < (n : Int)
      · have e1 : numR s n = (0, { s with err := 2 }) := by rw [numR, if_neg (by omega), if_neg (by omega), if_pos hsh]
        rw [e1]
        clear e1
        have H0 := Lib.hid h0; clear h0
        have HS := Lib.hid hsz; clear hsz
        unfold rsV
        go_enter Try.func23, Try.ntmps23
        go_wp2
        go_region
        all_goals
          go_wp2
          go_returns
          refine ⟨rfl, ?_⟩
          go_grown
      · obtain ⟨l, el⟩ : ∃ l, l = s.b.drop s.at_ := ⟨_, rfl⟩
        have e1 : numR s n = (beN (l.take n), { s with at_ := s.at_ + n }) := by rw [numR, if_neg (by omega), if_neg (by omega), if_neg hsh, el]; rfl
        have hll : l.length + s.at_ = s.b.length := by rw [el, List.length_drop]; omega
        have hsh' : (n : Int) ≤ (s.b.length : Int) - (s.at_ : Int) := by omega
        obtain ⟨b, off, rfl, hlt, hcell⟩ := h1.addrB (by omega)
        have hlc : ∀ k (hk : k < l.length), w.cell? ⟨b, off + (s.at_ + k), none⟩ = some (.int .u8 ((l[k]).toNat : Int)) := by
          intro k hk
          rw [hcell (s.at_ + k) (by omega)]
          subst el
          simp [bv]
        rw [e1]
        clear e1
        have H0 := Lib.hid h0; clear h0
        have HS := Lib.hid hsz; clear hsz
        have HC := Lib.hid hlc; clear hlc hcell
        clear hsh el
        unfold rsV
        go_enter Try.func23, Try.ntmps23
        go_wp2
        go_loop [6, 7] (fun x i => ∃ k : Nat, k ≤ n ∧ i = .int .i64 k ∧ x = .int .u64 ((beN (l.take k) : Nat) : Int)) (fun x i => n - (intOf i).toNat)
        case atStart => exact ⟨0, Nat.zero_le _, rfl, rfl⟩
        case round =>
          obtain ⟨k, hkn, rfl, rfl⟩ := hrel
          rcases Nat.lt_or_ge k n with hlt2 | hge
          · have hkl : k < l.length := by omega
            have hc := HC.out k hkl
            obtain ⟨d, ed⟩ : ∃ d, d = (l[k]).toNat := ⟨_, rfl⟩
            rw [← ed] at hc
            have hd : d < 256 := by rw [ed]; exact UInt8.toNat_lt _
            obtain ⟨x, hx⟩ : ∃ x, x = beN (l.take k) := ⟨_, rfl⟩
            have hx1 : beN (l.take (k + 1)) = x * 256 + d := by
              rw [List.take_succ_eq_append_getElem hkl, beN_snoc, hx, ed]
            have hx2 : x < 256 ^ 7 := by
              rw [hx]
              exact Nat.lt_of_lt_of_le (beN_lt _) (Nat.pow_le_pow_right (by decide) (by rw [List.length_take]; omega))
            rw [← hx]
            have hw1 : IntKind.u64.wrap ((x : Int) * 256) = (x : Int) * 256 := IntWalk.u64_in _ ⟨by omega, by omega⟩
            have hw2 : IntKind.u64.wrap ((x : Int) * 256 + (d : Int)) = (x : Int) * 256 + (d : Int) := IntWalk.u64_in _ ⟨by omega, by omega⟩
            have HX1 := Lib.hid hx1; clear hx1
            have HX2 := Lib.hid hx2; clear hx2
            have HX := Lib.hid hx; clear hx
            have ED := Lib.hid ed; clear ed
            have hsk : (s.at_ : Int) + (k : Int) < (s.b.length : Int) := by omega
            go_wp2
            go_round
            case rel => exact ⟨k + 1, by omega, by go_num, by rw [HX1.out]; rfl⟩
            case measure => simp [intOf]; omega
          · obtain rfl : k = n := by omega
            go_wp2
            go_region
            all_goals
              go_wp2
              go_returns
              refine ⟨?_, by go_grown⟩
              simp only [rsV, Int.natCast_add]
  · have hb : (((s.err : Nat) : Int) != 0) = true := by rw [bne_iff_ne]; omega
    have e1 : numR s size = (0, s) := if_pos h0
    rw [e1]
    clear e1
    have H0 := Lib.hid h0; clear h0
    unfold rsV
    go_enter Try.func23, Try.ntmps23
    go_wp2
    go_region
    all_goals
      go_wp2
      go_returns
      refine ⟨rfl, ?_⟩
      go_grown
end Go.Proofs.Ytacindehajholaa
