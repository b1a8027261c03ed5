/- What a header may be, and its bytes: seal.may, the reference's May and Head. Conditions: numbers of their kinds. -/
import Derived.Test.YtecmkdoodlpanaaDoorSe0
import Derived.Test.YtecmkdoodlpanaaDoorNm
import Derived.Test.YtecmkdoodlpanaaDoorHp
namespace Go.Proofs.YtecmkdoodlpanaaDoor
open Go Go.RowKit

set_option maxRecDepth 100000 in
set_option maxHeartbeats 1000000 in
theorem may_c (k e q : Nat) (d : Bool) (w : World) : Calls Tryd.prog 23 #[.agg #[.int .u8 (k : Int), .bool d, .int .u32 (e : Int), .int .u64 (q : Int)]] w fun r w' => r = .returned (.bool (mayB ⟨k, d, e, q⟩)) ∧ Below w.heap.size w w' := by
  have kb : Below w.heap.size w (w.alloc (.cells #[.int .u8 (k : Int), .bool d, .int .u32 (e : Int), .int .u64 (q : Int)] 26)) := (Below.refl _ _).alloc (Nat.le_refl _) _
  by_cases h1 : 1 ≤ k
  · by_cases h2 : k ≤ 5
    · by_cases h3 : e ≤ 1048576
      · by_cases h4 : q ≤ 4611686018427387904
        · have hm : mayB ⟨k, d, e, q⟩ = true := decide_eq_true ⟨h1, h2, h3, h4⟩
          rw [hm]; clear hm
          have d1 : (1 : Int) ≤ (k : Int) := by omega
          have d2 : (k : Int) ≤ 5 := by omega
          have d3 : (e : Int) ≤ 1048576 := by omega
          have d4 : decide ((q : Int) ≤ 4611686018427387904) = true := decide_eq_true (by omega)
          clear h1 h2 h3 h4
          go_enter Tryd.func23, Tryd.ntmps23
          go_wp2
          go_ret
          exact ⟨rfl, kb⟩
        · have hm : mayB ⟨k, d, e, q⟩ = false := decide_eq_false (fun h => h4 h.2.2.2)
          rw [hm]; clear hm
          have d1 : (1 : Int) ≤ (k : Int) := by omega
          have d2 : (k : Int) ≤ 5 := by omega
          have d3 : (e : Int) ≤ 1048576 := by omega
          have d4 : decide ((q : Int) ≤ 4611686018427387904) = false := decide_eq_false (by omega)
          clear h1 h2 h3 h4
          go_enter Tryd.func23, Tryd.ntmps23
          go_wp2
          go_ret
          exact ⟨rfl, kb⟩
      · have hm : mayB ⟨k, d, e, q⟩ = false := decide_eq_false (fun h => h3 h.2.2.1)
        rw [hm]; clear hm
        have d1 : (1 : Int) ≤ (k : Int) := by omega
        have d2 : (k : Int) ≤ 5 := by omega
        have d3 : (1048576 : Int) < (e : Int) := by omega
        clear h1 h2 h3
        go_enter Tryd.func23, Tryd.ntmps23
        go_wp2
        go_ret
        exact ⟨rfl, kb⟩
    · have hm : mayB ⟨k, d, e, q⟩ = false := decide_eq_false (fun h => h2 h.2.1)
      rw [hm]; clear hm
      have d1 : (1 : Int) ≤ (k : Int) := by omega
      have d2 : (5 : Int) < (k : Int) := by omega
      clear h1 h2
      go_enter Tryd.func23, Tryd.ntmps23
      go_wp2
      go_ret
      exact ⟨rfl, kb⟩
  · have hm : mayB ⟨k, d, e, q⟩ = false := decide_eq_false (fun h => h1 h.1)
    rw [hm]; clear hm
    have d1 : (k : Int) < 1 := by omega
    clear h1
    go_enter Tryd.func23, Tryd.ntmps23
    go_wp2
    go_ret
    exact ⟨rfl, kb⟩
set_option maxRecDepth 100000 in
set_option maxHeartbeats 1000000 in
theorem refMay_c (k e q : Nat) (d : Bool) (w : World) : Calls Tryd.prog 18 #[.agg #[.int .u8 (k : Int), .bool d, .int .u32 (e : Int), .int .u64 (q : Int)]] w fun r w' => r = .returned (.bool (mayB ⟨k, d, e, q⟩)) ∧ Below w.heap.size w w' := by
  have kb : Below w.heap.size w (w.alloc (.cells #[.int .u8 (k : Int), .bool d, .int .u32 (e : Int), .int .u64 (q : Int)] 26)) := (Below.refl _ _).alloc (Nat.le_refl _) _
  by_cases h1 : 1 ≤ k
  · by_cases h2 : k ≤ 5
    · by_cases h3 : e ≤ 1048576
      · by_cases h4 : q ≤ 4611686018427387904
        · have hm : mayB ⟨k, d, e, q⟩ = true := decide_eq_true ⟨h1, h2, h3, h4⟩
          rw [hm]; clear hm
          have d1 : (1 : Int) ≤ (k : Int) := by omega
          have d2 : (k : Int) ≤ 5 := by omega
          have d3 : (e : Int) ≤ 1048576 := by omega
          have d4 : decide ((q : Int) ≤ 4611686018427387904) = true := decide_eq_true (by omega)
          clear h1 h2 h3 h4
          go_enter Tryd.func18, Tryd.ntmps18
          go_wp2
          go_ret
          exact ⟨rfl, kb⟩
        · have hm : mayB ⟨k, d, e, q⟩ = false := decide_eq_false (fun h => h4 h.2.2.2)
          rw [hm]; clear hm
          have d1 : (1 : Int) ≤ (k : Int) := by omega
          have d2 : (k : Int) ≤ 5 := by omega
          have d3 : (e : Int) ≤ 1048576 := by omega
          have d4 : decide ((q : Int) ≤ 4611686018427387904) = false := decide_eq_false (by omega)
          clear h1 h2 h3 h4
          go_enter Tryd.func18, Tryd.ntmps18
          go_wp2
          go_ret
          exact ⟨rfl, kb⟩
      · have hm : mayB ⟨k, d, e, q⟩ = false := decide_eq_false (fun h => h3 h.2.2.1)
        rw [hm]; clear hm
        have d1 : (1 : Int) ≤ (k : Int) := by omega
        have d2 : (k : Int) ≤ 5 := by omega
        have d3 : (1048576 : Int) < (e : Int) := by omega
        clear h1 h2 h3
        go_enter Tryd.func18, Tryd.ntmps18
        go_wp2
        go_ret
        exact ⟨rfl, kb⟩
    · have hm : mayB ⟨k, d, e, q⟩ = false := decide_eq_false (fun h => h2 h.2.1)
      rw [hm]; clear hm
      have d1 : (1 : Int) ≤ (k : Int) := by omega
      have d2 : (5 : Int) < (k : Int) := by omega
      clear h1 h2
      go_enter Tryd.func18, Tryd.ntmps18
      go_wp2
      go_ret
      exact ⟨rfl, kb⟩
  · have hm : mayB ⟨k, d, e, q⟩ = false := decide_eq_false (fun h => h1 h.1)
    rw [hm]; clear hm
    have d1 : (k : Int) < 1 := by omega
    clear h1
    go_enter Tryd.func18, Tryd.ntmps18
    go_wp2
    go_ret
    exact ⟨rfl, kb⟩


/-! ### A header's bytes -/
theorem num_le (n size : Nat) (h1 : 1 ≤ size) (h2 : size ≤ 8) : numLI n (size : Int) = numL n size := by
  unfold numLI
  rw [if_pos (by omega)]; rfl
theorem num4 (n : Nat) : numLI n 4 = numL n 4 := by unfold numLI; rw [if_pos (by decide)]; rfl
theorem num8 (n : Nat) : numLI n 8 = numL n 8 := by unfold numLI; rw [if_pos (by decide)]; rfl
/-- Block g holds a header. -/
def Bx (w : World) (g k e q : Nat) (d : Bool) : Prop := w.heap[g]? = some (.cells #[.int .u8 (k : Int), .bool d, .int .u32 (e : Int), .int .u64 (q : Int)] 26 (0, 0))
theorem Bx.cells {w : World} {g k e q : Nat} {d : Bool} (h : Bx w g k e q d) : (w.cell? ⟨g, 0, none⟩ = some (.int .u8 (k : Int)) ∧ w.cell? ⟨g, 1, none⟩ = some (.bool d) ∧ w.cell? ⟨g, 2, none⟩ = some (.int .u32 (e : Int)) ∧ w.cell? ⟨g, 3, none⟩ = some (.int .u64 (q : Int))) ∧
    (w.frozen? ⟨g, 0, none⟩ = false ∧ w.frozen? ⟨g, 1, none⟩ = false ∧ w.frozen? ⟨g, 2, none⟩ = false ∧ w.frozen? ⟨g, 3, none⟩ = false) :=
  ⟨⟨by rw [heap_cell h]; rfl, by rw [heap_cell h]; rfl, by rw [heap_cell h]; rfl, by rw [heap_cell h]; rfl⟩, heap_free h _, heap_free h _, heap_free h _, heap_free h _⟩
theorem Bx.new (w : World) (k e q : Nat) (d : Bool) : Bx (w.alloc (.cells #[.int .u8 (k : Int), .bool d, .int .u32 (e : Int), .int .u64 (q : Int)] 26)) w.heap.size k e q d := heap_alloc_new w _
theorem Bx.lt {w : World} {g k e q : Nat} {d : Bool} (h : Bx w g k e q d) : g < w.heap.size := heap_lt h
theorem Bx.below {w w' : World} {g k e q : Nat} {d : Bool} (h : Bx w g k e q d) (hb : Below w.heap.size w w') : Bx w' g k e q d := (hb.block g h.lt).trans h
theorem Bx.grown {w w' : World} {g k e q : Nat} {d : Bool} (h : Bx w g k e q d) {r : Option Nat} (hb : w.grownBy w' r) (hr : r ≠ some g) : Bx w' g k e q d := (hb.block g h.lt (fun e => hr e.symm)).trans h
theorem Bx.drewN {w : World} {g k e q : Nat} {d : Bool} (h : Bx w g k e q d) (n : Nat) : Bx (w.drewN n) g k e q d := h
/-- A literal row of bytes in a new block. -/
theorem OwnB.lit (w : World) (bs : List UInt8) (n : Nat) (hn : bs.length = n) (hm : n ≤ maxLen) : OwnB (w.alloc (.cells (bs.map bv).toArray 5)) w.heap.size (.slice (some ⟨w.heap.size, 0, none⟩) n n) bs := by
  subst hn
  exact ⟨by simp, .inr ⟨w.heap.size, bs.length, _, by simp, Nat.le_refl _, heap_alloc_new w _, by simp, hm, by simp, by simp [List.take_of_length_le]⟩⟩
set_option maxRecDepth 100000 in
set_option maxHeartbeats 1000000 in
theorem refHead_c (k e q : Nat) (d : Bool) (w : World) (hk : k < 256) (he : e < 4294967296) (hq : U64 q) : Calls Tryd.prog 26 #[.agg #[.int .u8 (k : Int), .bool d, .int .u32 (e : Int), .int .u64 (q : Int)]] w fun r w' => ∃ v, r = .returned v ∧ OwnB w' w.heap.size v (headL ⟨k, d, e, q⟩) ∧ Below w.heap.size w w' := by
  have kb : Below w.heap.size w (w.alloc (.cells #[.int .u8 (k : Int), .bool d, .int .u32 (e : Int), .int .u64 (q : Int)] 26)) := (Below.refl _ _).alloc (Nat.le_refl _) _
  have hbx := Bx.new w k e q d
  have HBX := Lib.hid hbx; clear hbx
  have hue : U64 e := Nat.lt_trans he (by decide)
  have elo : Value.int .u8 (k : Int) = bv (lo k) := by unfold bv; rw [lo_nat, Nat.mod_eq_of_lt hk]
  have ELO := Lib.hid elo; clear elo
  have hown := OwnB.lit (w.alloc (.cells #[.int .u8 (k : Int), .bool d, .int .u32 (e : Int), .int .u64 (q : Int)] 26)) [lo k] 1 rfl (by decide)
  simp only [List.map_cons, List.map_nil] at hown
  rw [← ELO.out] at hown
  have HO := Lib.hid hown; clear hown
  have k1 := kb.alloc kb.size (.cells #[.int .u8 (k : Int)] 5)
  have s0 : (w.alloc (.cells #[.int .u8 (k : Int), .bool d, .int .u32 (e : Int), .int .u64 (q : Int)] 26)).heap.size = w.heap.size + 1 := by simp
  have ho := HO.out
  simp only [World.size_alloc] at ho
  clear HO s0
  have HO := Lib.hid ho; clear ho
  have b0 : Below w.heap.size w ((w.alloc (.cells #[.int .u8 (k : Int), .bool d, .int .u32 (e : Int), .int .u64 (q : Int)] 26)).alloc (.cells #[.int .u8 (k : Int)] 5)) := k1
  have HB0 := Lib.hid (HBX.out.below ((Below.refl _ _).alloc (Nat.le_refl _) (.cells #[.int .u8 (k : Int)] 5)))
  clear HBX k1
  have fin : ∀ (wa : World) (v : Value) (x : UInt8), x = (if d then 1 else 0) → Hid (OwnB wa (w.heap.size + 1) v [lo k, x]) → Below w.heap.size w wa → Hid (Bx wa w.heap.size k e q d) → True := fun _ _ _ _ _ _ _ => trivial
  clear fin
  cases d with
  | true =>
    go_enter Tryd.func26, Tryd.ntmps26
    go_wp2_with (first
      | (at_builtin; (refine wpList_appB1 _ rfl (.tmp 9) (.tmp 10) rfl (w.heap.size + 1) _ [lo k] rfl HO.out _ (by simp [Act.eval]) 1 rfl (by simp) (by simp) ?_; intro va wa ha ga _; have HA := Lib.hid ha; clear ha; have ba := (b0.alloc b0.size (.cells #[.int .u8 1] 5)).grown ga (by simp; omega) (fun k e => by have := (Own.lt HO.out k e).1; omega); have HBa := Lib.hid ((HB0.out.below ((Below.refl _ _).alloc (Nat.le_refl _) (.cells #[.int .u8 1] 5))).grown ga (fun e => by have := (Own.lt HO.out _ e).1; omega)); have za := ga.size; simp only [World.size_alloc] at za; clear ga; obtain ⟨⟨c0, c1, c2, c4⟩, _⟩ := HBa.out.cells))
      | (at_builtin; refine wpList_appB1 _ rfl (.tmp 12) (.tmp 13) rfl (w.heap.size + 1) _ [lo k] rfl HO.out _ (by simp [Act.eval]) 0 rfl (by simp) (by simp) ?_; intro va wa ha ga _; have HA := Lib.hid ha; clear ha; have ba := (b0.alloc b0.size (.cells #[.int .u8 0] 5)).grown ga (by simp; omega) (fun k e => by have := (Own.lt HO.out k e).1; omega); have HBa := Lib.hid ((HB0.out.below ((Below.refl _ _).alloc (Nat.le_refl _) (.cells #[.int .u8 0] 5))).grown ga (fun e => by have := (Own.lt HO.out _ e).1; omega)); have za := ga.size; simp only [World.size_alloc] at za; clear ga; obtain ⟨⟨c0, c1, c2, c4⟩, _⟩ := HBa.out.cells))
    refine (refNum_c e 4 _ hue).mono ?_
    rintro r w3 ⟨v3, rfl, ho3, hb3⟩
    rw [num4] at ho3
    obtain ⟨A3, c3, rfl, q1, q2, q3, _⟩ := OwnB.form ho3
    have HA3 : Hid (OwnB w3 (w.heap.size + 1) _ ([lo k] ++ [1])) := Lib.hid (Own.below HA.out hb3)
    have HB3 := Lib.hid (HBa.out.below hb3)
    have b3 := ba.trans (hb3.mono ba.size)
    have z3 := Nat.le_trans za hb3.size
    clear c0 c1 c2 c4
    obtain ⟨⟨c0, c1, c2, c4⟩, _⟩ := HB3.out.cells
    rw [numL_length] at q1 ⊢
    clear HA HBa ba hb3 ho3 za
    go_wp2_with (first
      | (at_builtin; refine wpList_appB _ rfl (.tmp 15) (.tmp 19) rfl (w.heap.size + 1) _ _ rfl HA3.out A3 4 c3 (numL e 4) rfl (numL_length _ _) q3 (by simp) (by omega) ?_; intro v4 w4 ha ga _; have HA4 := Lib.hid ha; clear ha; have b4 := b3.grown ga b3.size (fun k e => by have := (Own.lt HA3.out k e).1; omega); have HB4 := Lib.hid (HB3.out.grown ga (fun e => by have := (Own.lt HA3.out _ e).1; omega)); have z4 := Nat.le_trans z3 ga.size; clear ga c0 c1 c2 c4; obtain ⟨⟨c0, c1, c2, c4⟩, _⟩ := HB4.out.cells))
    refine (refNum_c q 8 _ hq).mono ?_
    rintro r w5 ⟨v5, rfl, ho5, hb5⟩
    rw [num8] at ho5
    obtain ⟨A5, c5, rfl, p1, p2, p3, _⟩ := OwnB.form ho5
    have HA5 : Hid (OwnB w5 (w.heap.size + 1) _ ([lo k] ++ [1] ++ numL e 4)) := Lib.hid (Own.below HA4.out hb5)
    have b5 := b4.trans (hb5.mono b4.size)
    have z5 := Nat.le_trans z4 hb5.size
    rw [numL_length] at p1 ⊢
    clear HA4 HB4 HB3 HA3 b4 b3 hb5 ho5 z4 q3 c0 c1 c2 c4
    go_wp2_with (first
      | (at_builtin; refine wpList_appB _ rfl (.tmp 21) (.tmp 24) rfl (w.heap.size + 1) _ _ rfl HA5.out A5 8 c5 (numL q 8) rfl (numL_length _ _) p3 (by simp [numL_length]) (by omega) ?_; intro v6 w6 ha ga _; have HA6 := Lib.hid ha; clear ha; have b6 := b5.grown ga b5.size (fun k e => by have := (Own.lt HA5.out k e).1; omega); clear ga))
    go_ret
    exact ⟨_, rfl, Own.low HA6.out (by omega), b6⟩
  | false =>
    go_enter Tryd.func26, Tryd.ntmps26
    go_wp2_with (first
      | (at_builtin; (refine wpList_appB1 _ rfl (.tmp 9) (.tmp 10) rfl (w.heap.size + 1) _ [lo k] rfl HO.out _ (by simp [Act.eval]) 1 rfl (by simp) (by simp) ?_; intro va wa ha ga _; have HA := Lib.hid ha; clear ha; have ba := (b0.alloc b0.size (.cells #[.int .u8 1] 5)).grown ga (by simp; omega) (fun k e => by have := (Own.lt HO.out k e).1; omega); have HBa := Lib.hid ((HB0.out.below ((Below.refl _ _).alloc (Nat.le_refl _) (.cells #[.int .u8 1] 5))).grown ga (fun e => by have := (Own.lt HO.out _ e).1; omega)); have za := ga.size; simp only [World.size_alloc] at za; clear ga; obtain ⟨⟨c0, c1, c2, c4⟩, _⟩ := HBa.out.cells))
      | (at_builtin; refine wpList_appB1 _ rfl (.tmp 12) (.tmp 13) rfl (w.heap.size + 1) _ [lo k] rfl HO.out _ (by simp [Act.eval]) 0 rfl (by simp) (by simp) ?_; intro va wa ha ga _; have HA := Lib.hid ha; clear ha; have ba := (b0.alloc b0.size (.cells #[.int .u8 0] 5)).grown ga (by simp; omega) (fun k e => by have := (Own.lt HO.out k e).1; omega); have HBa := Lib.hid ((HB0.out.below ((Below.refl _ _).alloc (Nat.le_refl _) (.cells #[.int .u8 0] 5))).grown ga (fun e => by have := (Own.lt HO.out _ e).1; omega)); have za := ga.size; simp only [World.size_alloc] at za; clear ga; obtain ⟨⟨c0, c1, c2, c4⟩, _⟩ := HBa.out.cells))
    refine (refNum_c e 4 _ hue).mono ?_
    rintro r w3 ⟨v3, rfl, ho3, hb3⟩
    rw [num4] at ho3
    obtain ⟨A3, c3, rfl, q1, q2, q3, _⟩ := OwnB.form ho3
    have HA3 : Hid (OwnB w3 (w.heap.size + 1) _ ([lo k] ++ [0])) := Lib.hid (Own.below HA.out hb3)
    have HB3 := Lib.hid (HBa.out.below hb3)
    have b3 := ba.trans (hb3.mono ba.size)
    have z3 := Nat.le_trans za hb3.size
    clear c0 c1 c2 c4
    obtain ⟨⟨c0, c1, c2, c4⟩, _⟩ := HB3.out.cells
    rw [numL_length] at q1 ⊢
    clear HA HBa ba hb3 ho3 za
    go_wp2_with (first
      | (at_builtin; refine wpList_appB _ rfl (.tmp 15) (.tmp 19) rfl (w.heap.size + 1) _ _ rfl HA3.out A3 4 c3 (numL e 4) rfl (numL_length _ _) q3 (by simp) (by omega) ?_; intro v4 w4 ha ga _; have HA4 := Lib.hid ha; clear ha; have b4 := b3.grown ga b3.size (fun k e => by have := (Own.lt HA3.out k e).1; omega); have HB4 := Lib.hid (HB3.out.grown ga (fun e => by have := (Own.lt HA3.out _ e).1; omega)); have z4 := Nat.le_trans z3 ga.size; clear ga c0 c1 c2 c4; obtain ⟨⟨c0, c1, c2, c4⟩, _⟩ := HB4.out.cells))
    refine (refNum_c q 8 _ hq).mono ?_
    rintro r w5 ⟨v5, rfl, ho5, hb5⟩
    rw [num8] at ho5
    obtain ⟨A5, c5, rfl, p1, p2, p3, _⟩ := OwnB.form ho5
    have HA5 : Hid (OwnB w5 (w.heap.size + 1) _ ([lo k] ++ [0] ++ numL e 4)) := Lib.hid (Own.below HA4.out hb5)
    have b5 := b4.trans (hb5.mono b4.size)
    have z5 := Nat.le_trans z4 hb5.size
    rw [numL_length] at p1 ⊢
    clear HA4 HB4 HB3 HA3 b4 b3 hb5 ho5 z4 q3 c0 c1 c2 c4
    go_wp2_with (first
      | (at_builtin; refine wpList_appB _ rfl (.tmp 21) (.tmp 24) rfl (w.heap.size + 1) _ _ rfl HA5.out A5 8 c5 (numL q 8) rfl (numL_length _ _) p3 (by simp [numL_length]) (by omega) ?_; intro v6 w6 ha ga _; have HA6 := Lib.hid ha; clear ha; have b6 := b5.grown ga b5.size (fun k e => by have := (Own.lt HA5.out k e).1; omega); clear ga))
    go_ret
    exact ⟨_, rfl, Own.low HA6.out (by omega), b6⟩
end Go.Proofs.YtecmkdoodlpanaaDoor
