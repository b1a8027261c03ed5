/- What the laws on sums call: the fixed example, the size, all held against all. Conditions: the table stands. -/
import Derived.Test.YtacindehajholaaDoorSh4
import Derived.Test.YtacindehajholaaDoorSr4
import Derived.Test.YtacindehajholaaDoorSv
import Derived.Test.YtacindehajholaaDoorCp
import Derived.Lib.SlBytesConst
import Derived.Lib.SmallJoins
namespace Go.Proofs.YtacindehajholaaDoor
open Go Go.RowKit
attribute [local go_sem] bv_store bv_cells no_cells bv_cellsOf run_eq_sumV run_guard_sumV

theorem Sum_v (A : Option Addr) (n c : Nat) (bss : List (List UInt8)) (b : List UInt8) (w : World) (hn : bss.length = n) (hr : RdS w A bss) (hl : n ≤ 140737488351232) (hb : bss.flatten = b) (hf : b.length ≤ 1000000000) (hT : Tab w) :
    Calls Tryd.prog 15 #[.slice A n c] w fun e w' => e = .returned (sumV b) ∧ Below w.heap.size w w' := by
  subst hb
  exact Sum_c A n c bss w hn hr hl hf hT
theorem refSum_v (A : Option Addr) (n c : Nat) (bss : List (List UInt8)) (b : List UInt8) (w : World) (hn : bss.length = n) (hr : RdS w A bss) (hl : n ≤ 140737488351232) (hb : bss.flatten = b) (hf : b.length ≤ 1000000000) :
    Calls Tryd.prog 16 #[.slice A n c] w fun e w' => e = .returned (sumV b) ∧ Below w.heap.size w w' := by
  subst hb
  exact refSum_c A n c bss w hn hr hl hf

theorem sumV_agg (b : List UInt8) : sumV b = .agg ((sumL b).map bv).toArray := rfl
theorem get_of (l : List UInt8) (i : Nat) (x : UInt8) (h : l[i]? = some x) : getB l i = x := by simp [getB, List.getD, h]
theorem zeroA32 (w : World) : Bs (w.alloc (.cells #[.int .u8 0, .int .u8 0, .int .u8 0, .int .u8 0, .int .u8 0, .int .u8 0, .int .u8 0, .int .u8 0, .int .u8 0, .int .u8 0, .int .u8 0, .int .u8 0, .int .u8 0, .int .u8 0, .int .u8 0, .int .u8 0, .int .u8 0, .int .u8 0, .int .u8 0, .int .u8 0, .int .u8 0, .int .u8 0, .int .u8 0, .int .u8 0, .int .u8 0, .int .u8 0, .int .u8 0, .int .u8 0, .int .u8 0, .int .u8 0, .int .u8 0, .int .u8 0] 27)) w.heap.size 27 (List.replicate 32 0) := heap_alloc_new w _
theorem z32_len : (List.replicate 32 (0 : UInt8)).length = 32 := rfl

theorem conv_const (w : World) (C : Array Value) (n c : Nat) : (convert 25 25 (.slice (some ⟨w.heap.size, 0, none⟩) n c)).run Tryd.prog (w.alloc (.cells C 5)) = .ok (.slice (some ⟨w.heap.size, 0, none⟩) n c) (w.alloc (.cells C 5 (C.size, C.size + 1))) :=
  Lib.run_convert_bytes_const w 25 5 C n c Tryd.underlying25 Tryd.underlying5
theorem Rd.litM (w : World) (vs : List Value) (t : TypeId) (fr : Nat × Nat) : Rd (w.alloc (.cells vs.toArray t fr)) (some ⟨w.heap.size, 0, none⟩) vs := by
  refine .inr ⟨w.heap.size, 0, rfl, by simp, fun k hk => ?_⟩
  rw [Nat.zero_add, World.cell?_alloc_mark]
  simp

/-- A sum stored in a new array. -/
theorem wpList_putSum (w : World) {ops : Array Oper} {rest : List Oper} {o : Oper} {a : Act} {Q : Exit → Act → World → Prop} (hgd : o.guard = none) (x y : Operand) (ho : o.op = .store 27 x y)
    (b : List UInt8) (hx : a.eval x = .pointer (some ⟨w.heap.size, 0, none⟩)) (hy : a.eval y = sumV b)
    (h : ∀ w', Bs w' w.heap.size 27 (sumL b) → Below w.heap.size w w' → wpList Tryd.prog ops Q rest (a.put o.dst undef) w') : wpList Tryd.prog ops Q (o :: rest) a (w.alloc (.cells #[.int .u8 0, .int .u8 0, .int .u8 0, .int .u8 0, .int .u8 0, .int .u8 0, .int .u8 0, .int .u8 0, .int .u8 0, .int .u8 0, .int .u8 0, .int .u8 0, .int .u8 0, .int .u8 0, .int .u8 0, .int .u8 0, .int .u8 0, .int .u8 0, .int .u8 0, .int .u8 0, .int .u8 0, .int .u8 0, .int .u8 0, .int .u8 0, .int .u8 0, .int .u8 0, .int .u8 0, .int .u8 0, .int .u8 0, .int .u8 0, .int .u8 0, .int .u8 0] 27)) := by
  refine wpList_storeA _ hgd x y ho w.heap.size _ hx hy 27 (sumL b) (List.replicate 32 0) rfl (zeroA32 w) (sumL_len b) z32_len fun w' h1 h2 => h w' h1 ?_
  exact ((Below.refl _ _).alloc (Nat.le_refl _) _).grown h2 (by simp) (fun k e => by injection e with e; omega)

theorem RdS_one (w : World) (A : Option Addr) (n c : Nat) (b : List UInt8) (t : TypeId) (hn : b.length = n) (hr : Rd w A (b.map bv)) (h1 : n ≤ c) (h2 : c ≤ maxLen) :
    RdS (w.alloc (.cells #[.slice A n c] t)) (some ⟨w.heap.size, 0, none⟩) [b] := by
  refine .inr ⟨w.heap.size, 0, rfl, by simp, fun k hk => ?_⟩
  obtain rfl : k = 0 := by simp at hk; omega
  refine ⟨A, c, ?_, hr.alloc _, by simpa [hn] using h1, h2⟩
  rw [cell_of_row _ _ 0 _ _ (0, 0) (heap_alloc_new w _)]
  simp [hn]
attribute [local go_sem] conv_const

set_option maxRecDepth 100000 in
set_option maxHeartbeats 2000000 in
theorem fixed3_c (w : World) (hT : Tab w) : Calls Tryd.prog 13 #[] w fun e w' => e = .returned (.bool true) ∧ Below w.heap.size w w' := by
  have HT := Lib.hid hT; clear hT
  go_enter Tryd.func13, Tryd.ntmps13
  go_wp2_with (fail)
  refine (Sum_v none 0 0 [] [] w rfl RdS.nil_ (by omega) rfl (by simp) HT.out).mono ?_
  rintro e w1 ⟨rfl, hb1⟩
  go_wp2_with (first | ((with_reducible refine wpList_putSum w1 rfl (.tmp 1) (.tmp 3) rfl [] rfl rfl ?_); intro w2 hB1 hb2))
  have hR : Rd (w2.alloc (.cells #[.int .u8 97, .int .u8 98, .int .u8 99] 5 (3, 4))) (some ⟨w2.heap.size, 0, none⟩) (([97, 98, 99] : List UInt8).map bv) := Rd.litM w2 (([97, 98, 99] : List UInt8).map bv) 5 (3, 4)
  have hb3 := hb1.trans (hb2.mono hb1.size)
  have hR2 := RdS_one _ _ 3 3 [97, 98, 99] 25 rfl hR (Nat.le_refl _) (by decide)
  have hb4 := (hb3.alloc hb3.size (.cells #[.int .u8 97, .int .u8 98, .int .u8 99] 5 (3, 4))).alloc (by simp; have := hb3.size; omega) (.cells #[.slice (some ⟨w2.heap.size, 0, none⟩) 3 3] 25)
  have hT2 := Tab.below HT.out hb4 HT.out.1
  simp only [World.size_alloc] at hR2

  refine (Sum_v _ 1 1 [[97, 98, 99]] [97, 98, 99] _ rfl hR2 (by omega) rfl (by simp) hT2).mono ?_
  rintro e w3 ⟨rfl, hb5⟩
  simp only [World.size_alloc] at hb5
  have hB2 := (((hB1.alloc (.cells #[.int .u8 97, .int .u8 98, .int .u8 99] 5 (3, 4))).alloc (.cells #[.slice (some ⟨w2.heap.size, 0, none⟩) 3 3] 25))).below (by simpa using hb5)
  have hb6 := hb4.trans (hb5.mono (by have := hb4.size; simpa using this))
  clear hB1 hb2 hb1 hb3 hb4 hb5 hR hR2 hT2
  have k0 := sum_none
  have k1 := sum_abc
  have l0 := sumL_len []
  have l1 := sumL_len [97, 98, 99]
  have a0 := hB2.cell 0 (by rw [l0]; decide)
  have a1 := hB2.cell 31 (by rw [l0]; decide)
  rw [get_of _ 0 _ k0.1] at a0
  rw [get_of _ 31 _ k0.2] at a1
  have q0 := hB2.lt
  have A0 := Lib.hid a0; clear a0
  have A1 := Lib.hid a1; clear a1
  clear k0 l0 hB2
  have K1 := Lib.hid k1; clear k1
  have L1 := Lib.hid l1; clear l1
  go_wp2_with (first | ((with_reducible refine wpList_putSum w3 rfl (.tmp 2) (.tmp 7) rfl [97, 98, 99] rfl rfl ?_); intro w4 hB3 hb7; have a0 : w4.cell? ⟨w1.heap.size, 0, none⟩ = some (.int .u8 227) := (hb7.cell (p := ⟨w1.heap.size, 0, none⟩) q0).trans A0.out; have a1 : w4.cell? ⟨w1.heap.size, 31, none⟩ = some (.int .u8 85) := (hb7.cell (p := ⟨w1.heap.size, 31, none⟩) q0).trans A1.out; have b0 := hB3.cell 0 (by rw [L1.out]; decide); rw [get_of _ 0 _ K1.out.1] at b0; have b1 := hB3.cell 1 (by rw [L1.out]; decide); rw [get_of _ 1 _ K1.out.2.1] at b1; have b2 := hB3.cell 31 (by rw [L1.out]; decide); rw [get_of _ 31 _ K1.out.2.2] at b2; simp only [bv] at b0 b1 b2; have hB := Lib.hid (hb6.trans (hb7.mono hb6.size)); clear hb7 hB3))
  go_ret
  exact ⟨rfl, hB.out⟩

/-! ### The size -/
def SzOk (bss : List (List UInt8)) (e : Ending) : Prop := ∃ r : Int, e = .returned (.int .i64 r) ∧ 0 ≤ r ∧ r ≤ 9000000000000000000 ∧ (r ≤ 16384 → bss.flatten.length ≤ 16384)
set_option maxRecDepth 100000 in
set_option maxHeartbeats 1000000 in
theorem size_c (A : Option Addr) (n c : Nat) (bss : List (List UInt8)) (w : World) (hn : bss.length = n) (hr : RdS w A bss) (hl : n ≤ 140737488351232) (hm : ∀ b ∈ bss, b.length ≤ 140737488351232) :
    Calls Tryd.prog 12 #[.slice A n c] w fun e w' => SzOk bss e ∧ w = w' := by
  have HN := Lib.hid hn; clear hn
  have HM := Lib.hid hm; clear hm
  go_enter Tryd.func12, Tryd.ntmps12
  go_wp2
  go_loop [3, 7] (fun v i => ∃ (k : Nat) (x : Nat), k ≤ n ∧ i = .int .i64 k ∧ v = .int .i64 x ∧ x ≤ 16384 ∧ Hid ((bss.take k).flatten.length ≤ x)) (fun _ i => n - (intOf i).toNat)
  case atStart => exact ⟨0, 0, Nat.zero_le _, rfl, rfl, by omega, Lib.hid (by simp)⟩
  case round =>
    obtain ⟨k, x, hk, rfl, rfl, hx, HX⟩ := hrel
    rcases Nat.lt_or_ge k n with hlt | hge
    · obtain ⟨b, off, rfl, hblt, hc⟩ := hr.addr (by rw [HN.out]; omega)
      obtain ⟨Ak, ck, h1, h2, h3, h4⟩ := hc k (by rw [HN.out]; exact hlt)
      have e1 := flatten_take_succ bss k (by rw [HN.out]; exact hlt)
      have e2 := HM.out _ (List.getElem_mem (by rw [HN.out]; exact hlt : k < bss.length))
      have e3 := flatten_take_le bss (k + 1)
      obtain ⟨m, em⟩ : ∃ m, m = (bss[k]'(by rw [HN.out]; exact hlt)).length := ⟨_, rfl⟩
      have e4 := congrArg List.length e1
      rw [List.length_append, ← em] at e4
      rw [← em] at h1 h3 e2
      clear hc h2 e1 h4
      have EM := Lib.hid em; clear em
      have E4 := Lib.hid e4; clear e4
      have E3 := Lib.hid e3; clear e3
      have hlt' : (k : Int) < (n : Int) := by omega
      by_cases hbig : 16384 < x + (1 + m)
      · have hb : (16384 : Int) < (x : Int) + (1 + (m : Int)) := by omega
        go_wp2
        go_ret
        exact ⟨⟨_, rfl, by omega, by omega, fun h => by omega⟩, rfl⟩
      · have hb : (x : Int) + (1 + (m : Int)) ≤ 16384 := by omega
        go_wp2
        go_round
        case rel => exact ⟨k + 1, x + (1 + m), by omega, by go_num, by go_num, by omega, Lib.hid (by rw [E4.out]; have := HX.out; omega)⟩
        case measure => simp [intOf]; omega
    · obtain rfl : k = n := by omega
      have e1 : (bss.take k).flatten = bss.flatten := by rw [List.take_of_length_le (by rw [HN.out]; exact Nat.le_refl _)]
      go_wp2
      go_ret
      exact ⟨⟨_, rfl, by omega, by omega, fun h => by rw [← e1]; have := HX.out; omega⟩, rfl⟩

/-! ### All held against all -/
theorem Same_q (A1 A2 : Option Addr) (n c1 c2 : Nat) (xs : List UInt8) (w : World) (l1 : xs.length = n) (h1 : Rd w A1 (xs.map bv)) (h2 : Rd w A2 (xs.map bv)) (m1 : n ≤ maxLen) (q m : Nat) :
    Calls Tryd.prog 23 #[.slice A1 n c1, .slice A2 n c2] (w.drewN (q + m)) fun e w' => e = .returned (.bool true) ∧ ∃ k, w' = w.drewN (q + k) :=
  (Same_t A1 A2 n n c1 c2 xs (w.drewN (q + m)) l1 l1 (h1.drewN _) (h2.drewN _) m1).mono fun _ _ ⟨he, q', hw⟩ => ⟨he, m + q', by rw [hw, World.drewN_drewN, Nat.add_assoc]⟩
set_option maxRecDepth 100000 in
set_option maxHeartbeats 1000000 in
theorem SameAll_t (A1 A2 : Option Addr) (n c1 c2 : Nat) (bss : List (List UInt8)) (w : World) (hn : bss.length = n) (hr1 : RdS w A1 bss) (hr2 : RdS w A2 bss) (hl : n ≤ 140737488351232) :
    Calls Tryd.prog 17 #[.slice A1 n c1, .slice A2 n c2] w fun e w' => e = .returned (.bool true) ∧ ∃ q, w' = w.drewN q := by
  have HN := Lib.hid hn; clear hn
  have hnn : ((n : Int) != (n : Int)) = false := by simp
  go_enter Tryd.func17, Tryd.ntmps17
  go_wp2
  go_loopw [13] (fun i wr => ∃ (k : Nat), k ≤ n ∧ i = .int .i64 k ∧ ∃ q, wr = w.drewN q) (fun i _ => n - (intOf i).toNat)
  case atStart => exact ⟨0, Nat.zero_le _, rfl, 0, rfl⟩
  case round =>
    obtain ⟨k, hk, rfl, q, rfl⟩ := hrel
    rcases Nat.lt_or_ge k n with hlt | hge
    · obtain ⟨b, off, rfl, hblt, hc⟩ := hr1.addr (by rw [HN.out]; omega)
      obtain ⟨Ak, ck, h1, h2, h3, h4⟩ := hc k (by rw [HN.out]; exact hlt)
      obtain ⟨b', off', rfl, hblt', hc'⟩ := hr2.addr (by rw [HN.out]; omega)
      obtain ⟨Ak', ck', h1', h2', h3', h4'⟩ := hc' k (by rw [HN.out]; exact hlt)
      obtain ⟨x, ex⟩ : ∃ x, x = bss[k]'(by rw [HN.out]; exact hlt) := ⟨_, rfl⟩
      rw [← ex] at h1 h2 h3 h1' h2' h3'
      obtain ⟨m, em⟩ : ∃ m, m = x.length := ⟨_, rfl⟩
      rw [← em] at h1 h3 h1' h3'
      clear hc hc'
      have EM := Lib.hid em; clear em
      have EX := Lib.hid ex; clear ex
      have hlt' : (k : Int) < (n : Int) := by omega
      go_wp2
      go_quiet ((go_at_call 23; exact Same_q Ak Ak' m ck ck' x _ EM.out.symm h2 h2' (by omega) _ _))
      go_wp2
      go_roundw
      case rel => exact ⟨k + 1, by omega, by go_num, _, rfl⟩
      case measure => simp [intOf]; omega
    · obtain rfl : k = n := by omega
      go_wp2
      go_ret
      exact ⟨rfl, _, rfl⟩
/-- A literal slice of slices in a new block. -/
theorem RdS_lit (w : World) (ps : List (Option Addr × Nat × Nat)) (bss : List (List UInt8)) (t : TypeId) (hl : ps.length = bss.length)
    (h : ∀ x ∈ ps.zip bss, x.2.length = x.1.2.1 ∧ Rd w x.1.1 (x.2.map bv) ∧ x.1.2.1 ≤ x.1.2.2 ∧ x.1.2.2 ≤ maxLen) :
    RdS (w.alloc (.cells (ps.map fun p => Value.slice p.1 p.2.1 p.2.2).toArray t)) (some ⟨w.heap.size, 0, none⟩) bss := by
  refine .inr ⟨w.heap.size, 0, rfl, by simp, fun k hk => ?_⟩
  have hk' : k < ps.length := by omega
  have hz : k < (ps.zip bss).length := by simp; omega
  obtain ⟨h1, h2, h3, h4⟩ := h _ (List.getElem_mem hz)
  simp only [List.getElem_zip] at h1 h2 h3 h4
  refine ⟨ps[k].1, ps[k].2.2, ?_, h2.alloc _, by omega, h4⟩
  rw [Nat.zero_add, cell_of_row _ _ k _ _ (0, 0) (heap_alloc_new w _), h1]
  simp [hk']
end Go.Proofs.YtacindehajholaaDoor
