/- The chapter's examples hold: 'fixed' answers true. Conditions: none. -/
import Derived.Test.YtacindehajholaaRd4
namespace Go.Proofs.Ytacindehajholaa
open Go Go.RowKit

theorem sameB_true {xs ys : List UInt8} (h : xs = ys) : sameB xs ys = true := decide_eq_true h
theorem Same_t (A1 A2 : Option Addr) (n1 n2 c1 c2 : Nat) (xs : List UInt8) (w : World) (l1 : xs.length = n1) (l2 : xs.length = n2) (h1 : Rd w A1 (xs.map bv)) (h2 : Rd w A2 (xs.map bv)) (m1 : n1 ≤ maxLen) :
    Calls Try.prog 14 #[.slice A1 n1 c1, .slice A2 n2 c2] w fun e w' => e = .returned (.bool true) ∧ ∃ q, w' = w.drewN q := by
  have h := Same_c A1 A2 n1 n2 c1 c2 xs xs w l1 l2 h1 h2 m1
  rw [sameB_true rfl] at h
  exact h

theorem var300 : varL 300 = [172, 2] := by rw [varL_hi (by decide), varL_lo (by decide)]; rfl
theorem num258 : numLI 258 3 = [0, 1, 2] := by kernel_rfl

set_option maxRecDepth 100000 in
set_option maxHeartbeats 1000000 in
theorem fixed_c (w : World) : Calls Try.prog 12 #[] w fun e w' => e = .returned (.bool true) ∧ Below w.heap.size w w' := by
  have hT : ∀ gA, textR ⟨[2, 7, 8, 9], 0, 0, gA⟩ 5 = ([7, 8], ⟨[2, 7, 8, 9], 3, 0, gA⟩) := fun _ => by kernel_rfl
  have HT := Lib.hid hT; clear hT
  go_enter Try.func12, Try.ntmps12
  go_wp2_with (fail)
  have hr0 : Rd (w.alloc (.cells #[Value.int .u8 2, Value.int .u8 7, Value.int .u8 8, Value.int .u8 9] 5)) (some ⟨w.heap.size, 0, none⟩) (([2, 7, 8, 9] : List UInt8).map bv) := Rd.lit w (([2, 7, 8, 9] : List UInt8).map bv) _
  refine (Rnew_c _ 4 4 [2, 7, 8, 9] _ rfl hr0 (by decide)).mono ?_
  rintro e w1 ⟨r, gA, rfl, hr, hR, hb, _⟩
  have hb1 : Below w.heap.size w w1 := ((Below.refl _ _).alloc (Nat.le_refl _) _).trans (hb.mono (by simp))
  clear hb hr0
  go_wp2_with (fail)
  refine (Rtext_c r _ 5 _ hR (by decide)).mono ?_
  rintro e w2 ⟨v, rfl, ho, hR2, hg2⟩
  rw [HT.out] at ho hR2
  change OwnB _ _ _ [7, 8] at ho
  change Rdr _ _ ⟨[2, 7, 8, 9], 3, 0, gA⟩ at hR2
  obtain ⟨A, c, rfl, hc, hcm, hrd, hAB⟩ := OwnB.form ho
  obtain ⟨b, off, rfl, hlt, hcell⟩ := hrd.addrB (by decide)
  have k0 : w2.cell? ⟨b, off, none⟩ = some (.int .u8 7) := hcell 0 (by decide)
  have k1 : w2.cell? ⟨b, off + 1, none⟩ = some (.int .u8 8) := hcell 1 (by decide)
  have hb2 : Below w.heap.size w w2 := hb1.grown hg2 hb1.size (fun k hk => by injection hk with hk; subst hk; simp at hr; omega)
  have HC := Lib.hid hcell; clear hcell hrd hAB ho hg2 hR hr hb1
  go_wp2_with (fail)
  refine (Rleft_c r _ _ hR2).mono ?_
  rintro e w3 ⟨rfl, q, rfl⟩
  go_wp2_with (fail)
  refine (Rend_c r _ _ (hR2.drewN q)).mono ?_
  rintro e w3 ⟨rfl, q2, rfl⟩
  go_wp2_with (fail)
  refine (Var_c 300 _ (by show 300 < 2 ^ 64; decide)).mono ?_
  rintro e w3 ⟨v3, rfl, ho3, hb3⟩
  rw [var300] at ho3
  obtain ⟨A3, c3, rfl, hc3, _, hrd3, _⟩ := OwnB.form ho3
  have hb4 : Below w.heap.size w w3 := (below_drewN hb2 (q + q2)).trans (hb3.mono (by simpa using hb2.size))
  clear hb3 ho3
  go_wp2_with (fail)
  refine (Same_t _ _ 2 2 _ _ [172, 2] _ rfl rfl (hrd3.alloc _) (Rd.lit w3 (([172, 2] : List UInt8).map bv) _) (by decide)).mono ?_
  rintro e w5 ⟨rfl, q5, rfl⟩
  have hb5 : Below w.heap.size w ((w3.alloc (.cells #[Value.int .u8 172, Value.int .u8 2] 5)).drewN q5) := below_drewN (hb4.alloc hb4.size _) _
  go_wp2_with (fail)
  refine (Num_c 258 3 _ (by show 258 < 2 ^ 64; decide)).mono ?_
  rintro e w6 ⟨v6, rfl, ho6, hb6⟩
  rw [num258] at ho6
  obtain ⟨A6, c6, rfl, hc6, _, hrd6, _⟩ := OwnB.form ho6
  have hb7 : Below w.heap.size w w6 := hb5.trans (hb6.mono hb5.size)
  clear hb6 ho6 hb5
  go_wp2_with (fail)
  refine (Same_t _ _ 3 3 _ _ [0, 1, 2] _ rfl rfl (hrd6.alloc _) (Rd.lit w6 (([0, 1, 2] : List UInt8).map bv) _) (by decide)).mono ?_
  rintro e w8 ⟨rfl, q8, rfl⟩
  go_wp2_with (fail)
  go_ret
  exact ⟨rfl, below_drewN (hb7.alloc hb7.size _) _⟩
end Go.Proofs.Ytacindehajholaa
