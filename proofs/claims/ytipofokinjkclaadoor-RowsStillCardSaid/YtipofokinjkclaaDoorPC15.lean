/- Parts one behind the other: What the reference's Parts answers of any colour; What the reference's Far answers of any colours; What the reference's Near, To256, To16 and Fit answer of any colours; What project.fit answers of any cell. Conditions: as told at each. -/
import Derived.Test.YtipofokinjkclaaDoorPC14
import Derived.Great.BuildSlice
import Derived.Test.YtipofokinjkclaaDoorPC12

set_option linter.unusedVariables false
set_option linter.unusedSimpArgs false
/- What the reference's Parts answers of any colour. Conditions: none. -/
namespace Go.Proofs.YtipofokinjkclaaDoor
open Go Go.RowKit Go.Lib

theorem info_a3 : (Tryd.prog.info? 170).map (·.size) = some 3 := by kernel_rfl
theorem info_a48 : (Tryd.prog.info? 175).map (·.size) = some 48 := by kernel_rfl
def a3V (p : Int × Int × Int) : Array Value := #[.int .i64 p.1, .int .i64 p.2.1, .int .i64 p.2.2]
theorem a3_one (p : Int × Int × Int) : (a3V p).all (·.oneCell') = true := by
  unfold a3V
  simp [Value.oneCell']
def firstW : List Value := firstT.flatMap fun p => [.int .i64 p.1, .int .i64 p.2.1, .int .i64 p.2.2]
theorem firstW_at (i : Nat) (hi : i < 16) : firstW[i * 3]? = some (.int .i64 (firstT.getD i (0, 0, 0)).1) ∧ firstW[i * 3 + 1]? = some (.int .i64 (firstT.getD i (0, 0, 0)).2.1) ∧ firstW[i * 3 + 2]? = some (.int .i64 (firstT.getD i (0, 0, 0)).2.2) := by
  match i, hi with
  | 0, _ => exact ⟨rfl, rfl, rfl⟩
  | 1, _ => exact ⟨rfl, rfl, rfl⟩
  | 2, _ => exact ⟨rfl, rfl, rfl⟩
  | 3, _ => exact ⟨rfl, rfl, rfl⟩
  | 4, _ => exact ⟨rfl, rfl, rfl⟩
  | 5, _ => exact ⟨rfl, rfl, rfl⟩
  | 6, _ => exact ⟨rfl, rfl, rfl⟩
  | 7, _ => exact ⟨rfl, rfl, rfl⟩
  | 8, _ => exact ⟨rfl, rfl, rfl⟩
  | 9, _ => exact ⟨rfl, rfl, rfl⟩
  | 10, _ => exact ⟨rfl, rfl, rfl⟩
  | 11, _ => exact ⟨rfl, rfl, rfl⟩
  | 12, _ => exact ⟨rfl, rfl, rfl⟩
  | 13, _ => exact ⟨rfl, rfl, rfl⟩
  | 14, _ => exact ⟨rfl, rfl, rfl⟩
  | 15, _ => exact ⟨rfl, rfl, rfl⟩
  | n + 16, hi => omega
theorem firstW_one : (firstW.toArray).all (·.oneCell') = true := by kernel_rfl
/-- The reference's answer. -/
def partsW (c : Int) : Value := if hasP c then .tuple #[.agg (a3V (partsI c)), .bool true] else .tuple #[.agg (a3V (0, 0, 0)), .bool false]
theorem ref13_results (tmps : Array Value) (g : Nat) (t : TypeId) (cs : Array Value) (fr : Nat × Nat) (y : Bool) (h2 : tmps.getD 2 undef = .pointer (some ⟨g, 0, none⟩)) (h3 : tmps.getD 3 undef = .bool y) (w : World) (hg : w.heap[g]? = some (.cells cs t fr)) (hi : (Tryd.prog.info? 170).map (·.size) = some cs.size) :
    (results Tryd.f149 tmps).run Tryd.prog w = .ok (.tuple #[.agg cs, .bool y]) w := by
  have h2' : tmps[2]?.getD undef = .pointer (some ⟨g, 0, none⟩) := by simpa using h2
  have h3' : tmps[3]?.getD undef = .bool y := by simpa using h3
  simp [results, Tryd.results149, h2', h3', asAddr, run_loadVar_row w g t 170 cs fr _ hg Tryd.underlying170 rfl hi]
set_option maxRecDepth 100000 in
theorem level_c (k : Int) (w : World) (h0 : 0 ≤ k) (h1 : k ≤ 5) : Calls Tryd.prog 151 #[.int .i64 k] w fun e w' => e = .returned (.int .i64 (lvl k)) ∧ w' = w := by
  unfold lvl
  by_cases h : k = 0
  · subst h
    simp only [if_true]
    go_enter Tryd.func151, Tryd.ntmps151
    go_wp2_with (fail)
    go_ret
    exact ⟨rfl, rfl⟩
  · rw [if_neg h]
    have d0 : (k == 0) = false := beq_eq_false_iff_ne.2 h
    go_enter Tryd.func151, Tryd.ntmps151
    go_wp2_with (fail)
    go_ret
    exact ⟨rfl, rfl⟩
set_option maxRecDepth 100000 in
set_option maxHeartbeats 16000000 in
theorem rpartsN_c (c : Int) (w : World) (hc : 0 ≤ c) (h : hasP c = false) (h1 : c ≠ 0) :
    Calls Tryd.prog 149 #[.int .u32 c] w fun e w' => e = .returned (.tuple #[.agg (a3V (0, 0, 0)), .bool false]) ∧ Below w.heap.size w w' := by
  have d0 : (c == 0) = false := beq_eq_false_iff_ne.2 h1
  have HM : Hid (colMay c = false) := Lib.hid (by unfold hasP at h; simpa [h1] using h)
  clear h h1
  obtain ⟨W0, eW0⟩ : ∃ W0, W0 = w.alloc (.cells #[.int .i64 0, .int .i64 0, .int .i64 0] 170) := ⟨_, rfl⟩
  have hb0 : Below w.heap.size w W0 := by rw [eW0]; exact (Below.refl _ _).alloc (Nat.le_refl _) _
  have h0 : W0.heap[w.heap.size]? = some (.cells #[.int .i64 0, .int .i64 0, .int .i64 0] 170 (0, 0)) := by rw [eW0]; exact heap_alloc_new _ _
  have HB0 := Lib.hid hb0
  have H0 := Lib.hid h0
  have EW0 := Lib.hid eW0
  clear hb0 h0 eW0
  go_enter Tryd.func149, Tryd.ntmps149
  go_upto_region 1 with (fail)
  rw [← EW0.out]
  clear EW0
  go_wp2_with (first
    | (go_at_call 141; (with_reducible refine (refColorMay_c c _).mono ?_); rintro _ _ ⟨rfl, rfl⟩; rw [HM.out])
    | (refine wpList_store_rowTo rfl 170 (.tmp 2) (.tmp 14) rfl rfl w.heap.size #[.int .i64 0, .int .i64 0, .int .i64 0] rfl rfl 170 _ H0.out (info_a3.trans rfl) rfl (by simp [Value.oneCell']) ?_))
  refine bodyPost_ret (v := .tuple #[.agg #[.int .i64 0, .int .i64 0, .int .i64 0], .bool false]) (ref13_results _ w.heap.size 170 _ (0, 0) false rfl rfl _ (setRow_heap _ w.heap.size _ _ _ _ H0.out) (info_a3.trans rfl)) rfl ?_
  exact ⟨rfl, below_setRow HB0.out (Nat.le_refl _) _⟩
set_option maxRecDepth 100000 in
set_option maxHeartbeats 16000000 in
theorem rpartsZ_c (c : Int) (w : World) (h1 : c = 0) :
    Calls Tryd.prog 149 #[.int .u32 c] w fun e w' => e = .returned (.tuple #[.agg (a3V (0, 0, 0)), .bool false]) ∧ Below w.heap.size w w' := by
  subst h1
  obtain ⟨W0, eW0⟩ : ∃ W0, W0 = w.alloc (.cells #[.int .i64 0, .int .i64 0, .int .i64 0] 170) := ⟨_, rfl⟩
  have hb0 : Below w.heap.size w W0 := by rw [eW0]; exact (Below.refl _ _).alloc (Nat.le_refl _) _
  have h0 : W0.heap[w.heap.size]? = some (.cells #[.int .i64 0, .int .i64 0, .int .i64 0] 170 (0, 0)) := by rw [eW0]; exact heap_alloc_new _ _
  have HB0 := Lib.hid hb0
  have H0 := Lib.hid h0
  have EW0 := Lib.hid eW0
  clear hb0 h0 eW0
  go_enter Tryd.func149, Tryd.ntmps149
  go_upto_region 1 with (fail)
  rw [← EW0.out]
  clear EW0
  go_wp2_with (first
    | (refine wpList_store_rowTo rfl 170 (.tmp 2) (.tmp 14) rfl rfl w.heap.size #[.int .i64 0, .int .i64 0, .int .i64 0] rfl rfl 170 _ H0.out (info_a3.trans rfl) rfl (by simp [Value.oneCell']) ?_))
  refine bodyPost_ret (v := .tuple #[.agg #[.int .i64 0, .int .i64 0, .int .i64 0], .bool false]) (ref13_results _ w.heap.size 170 _ (0, 0) false rfl rfl _ (setRow_heap _ w.heap.size _ _ _ _ H0.out) (info_a3.trans rfl)) rfl ?_
  exact ⟨rfl, below_setRow HB0.out (Nat.le_refl _) _⟩
set_option maxRecDepth 100000 in
set_option maxHeartbeats 16000000 in
theorem rparts3_c (c : Int) (w : World) (h0 : 16777216 ≤ c) (h1 : c ≤ 33554431) :
    Calls Tryd.prog 149 #[.int .u32 c] w fun e w' => e = .returned (.tuple #[.agg (a3V (partsI c)), .bool true]) ∧ Below w.heap.size w w' := by
  have d0 : (c == 0) = false := by rw [beq_eq_false_iff_ne]; omega
  have d1 : decide (16777216 ≤ c) = true := decide_eq_true h0
  have HM : Hid (colMay c = true) := Lib.hid ((colMay_iff c).2 (.inr ⟨h0, h1⟩))
  have ep : partsI c = ((c - 16777216) / 65536, (c - 16777216) / 256 % 256, (c - 16777216) % 256) := by rw [partsI, if_pos h0]
  rw [ep]
  clear ep
  obtain ⟨W0, eW0⟩ : ∃ W0, W0 = w.alloc (.cells #[.int .i64 0, .int .i64 0, .int .i64 0] 170) := ⟨_, rfl⟩
  have hb0 : Below w.heap.size w W0 := by rw [eW0]; exact (Below.refl _ _).alloc (Nat.le_refl _) _
  have h0 : W0.heap[w.heap.size]? = some (.cells #[.int .i64 0, .int .i64 0, .int .i64 0] 170 (0, 0)) := by rw [eW0]; exact heap_alloc_new _ _
  have HB0 := Lib.hid hb0
  have H0 := Lib.hid h0
  have EW0 := Lib.hid eW0
  clear hb0 h0 eW0
  go_enter Tryd.func149, Tryd.ntmps149
  go_upto_region 1 with (fail)
  rw [← EW0.out]
  clear EW0
  go_wp2_with (first
    | (go_at_call 141; (with_reducible refine (refColorMay_c c _).mono ?_); rintro _ _ ⟨rfl, rfl⟩; rw [HM.out])
    | (refine wpList_store_rowTo rfl 170 (.tmp 2) (.tmp 27) rfl rfl w.heap.size (a3V ((c - 16777216) / 65536, (c - 16777216) / 256 % 256, (c - 16777216) % 256)) rfl rfl 170 _ H0.out (info_a3.trans rfl) rfl (a3_one _) ?_))
  refine bodyPost_ret (v := .tuple #[.agg (a3V ((c - 16777216) / 65536, (c - 16777216) / 256 % 256, (c - 16777216) % 256)), .bool true]) (ref13_results _ w.heap.size 170 _ (0, 0) true rfl rfl _ (setRow_heap _ w.heap.size _ _ _ _ H0.out) (info_a3.trans rfl)) rfl ?_
  exact ⟨rfl, below_setRow HB0.out (Nat.le_refl _) _⟩
set_option maxRecDepth 100000 in
set_option maxHeartbeats 16000000 in
theorem rpartsG_c (c : Int) (w : World) (h0 : 233 ≤ c) (h1 : c ≤ 256) :
    Calls Tryd.prog 149 #[.int .u32 c] w fun e w' => e = .returned (.tuple #[.agg (a3V (partsI c)), .bool true]) ∧ Below w.heap.size w w' := by
  have d0 : (c == 0) = false := by rw [beq_eq_false_iff_ne]; omega
  have d1 : decide (16777216 ≤ c) = false := decide_eq_false (by omega)
  have d3 : decide (232 ≤ c - 1) = true := decide_eq_true (by omega)
  have HM : Hid (colMay c = true) := Lib.hid ((colMay_iff c).2 (.inl h1))
  have ep : partsI c = (10 * (c - 1) - 2312, 10 * (c - 1) - 2312, 10 * (c - 1) - 2312) := by
    rw [partsI, if_neg (by omega), partsT, if_neg (by omega), if_neg (by omega)]
    rw [show 8 + 10 * (c - 1 - 232) = 10 * (c - 1) - 2312 by omega]
  rw [ep]
  clear ep
  obtain ⟨W0, eW0⟩ : ∃ W0, W0 = w.alloc (.cells #[.int .i64 0, .int .i64 0, .int .i64 0] 170) := ⟨_, rfl⟩
  have hb0 : Below w.heap.size w W0 := by rw [eW0]; exact (Below.refl _ _).alloc (Nat.le_refl _) _
  have h0 : W0.heap[w.heap.size]? = some (.cells #[.int .i64 0, .int .i64 0, .int .i64 0] 170 (0, 0)) := by rw [eW0]; exact heap_alloc_new _ _
  have HB0 := Lib.hid hb0
  have H0 := Lib.hid h0
  have EW0 := Lib.hid eW0
  clear hb0 h0 eW0
  go_enter Tryd.func149, Tryd.ntmps149
  go_upto_region 1 with (fail)
  rw [← EW0.out]
  clear EW0
  go_wp2_with (first
    | (go_at_call 141; (with_reducible refine (refColorMay_c c _).mono ?_); rintro _ _ ⟨rfl, rfl⟩; rw [HM.out])
    | (refine wpList_store_rowTo rfl 170 (.tmp 2) (.tmp 42) rfl rfl w.heap.size (a3V (10 * (c - 1) - 2312, 10 * (c - 1) - 2312, 10 * (c - 1) - 2312)) rfl rfl 170 _ H0.out (info_a3.trans rfl) rfl (a3_one _) ?_))
  refine bodyPost_ret (v := .tuple #[.agg (a3V (10 * (c - 1) - 2312, 10 * (c - 1) - 2312, 10 * (c - 1) - 2312)), .bool true]) (ref13_results _ w.heap.size 170 _ (0, 0) true rfl rfl _ (setRow_heap _ w.heap.size _ _ _ _ H0.out) (info_a3.trans rfl)) rfl ?_
  exact ⟨rfl, below_setRow HB0.out (Nat.le_refl _) _⟩
set_option maxRecDepth 100000 in
set_option maxHeartbeats 16000000 in
theorem rpartsM_c (c : Int) (w : World) (h0 : 17 ≤ c) (h1 : c ≤ 232) :
    Calls Tryd.prog 149 #[.int .u32 c] w fun e w' => e = .returned (.tuple #[.agg (a3V (partsI c)), .bool true]) ∧ Below w.heap.size w w' := by
  have d0 : (c == 0) = false := by rw [beq_eq_false_iff_ne]; omega
  have d1 : decide (16777216 ≤ c) = false := decide_eq_false (by omega)
  have d3 : decide (232 ≤ c - 1) = false := decide_eq_false (by omega)
  have d4 : decide (16 ≤ c - 1) = true := decide_eq_true (by omega)
  have HM : Hid (colMay c = true) := Lib.hid ((colMay_iff c).2 (.inl (by omega)))
  have ep : partsI c = (lvl ((c - 1 - 16) / 36), lvl ((c - 1 - 16) / 6 % 6), lvl ((c - 1 - 16) % 6)) := by rw [partsI, if_neg (by omega), partsT, if_neg (by omega), if_pos (by omega)]
  rw [ep]
  clear ep
  obtain ⟨W0, eW0⟩ : ∃ W0, W0 = w.alloc (.cells #[.int .i64 0, .int .i64 0, .int .i64 0] 170) := ⟨_, rfl⟩
  have hb0 : Below w.heap.size w W0 := by rw [eW0]; exact (Below.refl _ _).alloc (Nat.le_refl _) _
  have h0 : W0.heap[w.heap.size]? = some (.cells #[.int .i64 0, .int .i64 0, .int .i64 0] 170 (0, 0)) := by rw [eW0]; exact heap_alloc_new _ _
  have HB0 := Lib.hid hb0
  have H0 := Lib.hid h0
  have EW0 := Lib.hid eW0
  clear hb0 h0 eW0
  go_enter Tryd.func149, Tryd.ntmps149
  go_upto_region 1 with (fail)
  rw [← EW0.out]
  clear EW0
  go_wp2_with (first
    | (go_at_call 141; (with_reducible refine (refColorMay_c c _).mono ?_); rintro _ _ ⟨rfl, rfl⟩; rw [HM.out])
    | (go_at_call 151; (with_reducible refine (level_c _ _ (by omega) (by omega)).mono ?_); rintro _ _ ⟨rfl, rfl⟩)
    | (refine wpList_store_rowTo rfl 170 (.tmp 2) (.tmp 58) rfl rfl w.heap.size (a3V (lvl ((c - 1 - 16) / 36), lvl ((c - 1 - 16) / 6 % 6), lvl ((c - 1 - 16) % 6))) rfl rfl 170 _ H0.out (info_a3.trans rfl) rfl (a3_one _) ?_))
  refine bodyPost_ret (v := .tuple #[.agg (a3V (lvl ((c - 1 - 16) / 36), lvl ((c - 1 - 16) / 6 % 6), lvl ((c - 1 - 16) % 6))), .bool true]) (ref13_results _ w.heap.size 170 _ (0, 0) true rfl rfl _ (setRow_heap _ w.heap.size _ _ _ _ H0.out) (info_a3.trans rfl)) rfl ?_
  exact ⟨rfl, below_setRow HB0.out (Nat.le_refl _) _⟩
set_option maxRecDepth 100000 in
set_option maxHeartbeats 16000000 in
theorem rpartsF_c (c : Int) (w : World) (h0 : 1 ≤ c) (h1 : c ≤ 16) :
    Calls Tryd.prog 149 #[.int .u32 c] w fun e w' => e = .returned (.tuple #[.agg (a3V (partsI c)), .bool true]) ∧ Below w.heap.size w w' := by
  obtain ⟨i, ei⟩ : ∃ i : Nat, c = (i : Int) + 1 := ⟨(c - 1).toNat, by omega⟩
  subst ei
  have hi : i < 16 := by omega
  have d0 : ((i : Int) + 1 == 0) = false := by rw [beq_eq_false_iff_ne]; omega
  have d1 : decide (16777216 ≤ (i : Int) + 1) = false := decide_eq_false (by omega)
  have d3 : decide (232 ≤ (i : Int) + 1 - 1) = false := decide_eq_false (by omega)
  have d4 : decide (16 ≤ (i : Int) + 1 - 1) = false := decide_eq_false (by omega)
  have d5 : (i : Int) + 1 - 1 = (i : Int) := by omega
  have d6 : decide (232 ≤ (i : Int)) = false := decide_eq_false (by omega)
  have d7 : decide (16 ≤ (i : Int)) = false := decide_eq_false (by omega)
  have HM : Hid (colMay ((i : Int) + 1) = true) := Lib.hid ((colMay_iff _).2 (.inl (by omega)))
  have ep : partsI ((i : Int) + 1) = firstT.getD i (0, 0, 0) := by rw [partsI, if_neg (by omega), partsT, d5, if_pos (by omega)]; rfl
  rw [ep]
  obtain ⟨f0, f1, f2⟩ := firstW_at i hi
  obtain ⟨P, eP⟩ : ∃ P, firstT.getD i (0, 0, 0) = P := ⟨_, rfl⟩
  rw [eP] at f0 f1 f2 ⊢
  have F0 := Lib.hid f0
  have F1 := Lib.hid f1
  have F2 := Lib.hid f2
  clear ep eP f0 f1 f2
  obtain ⟨W0, eW0⟩ : ∃ W0, W0 = w.alloc (.cells #[.int .i64 0, .int .i64 0, .int .i64 0] 170) := ⟨_, rfl⟩
  have hb0 : Below w.heap.size w W0 := by rw [eW0]; exact (Below.refl _ _).alloc (Nat.le_refl _) _
  have h0 : W0.heap[w.heap.size]? = some (.cells #[.int .i64 0, .int .i64 0, .int .i64 0] 170 (0, 0)) := by rw [eW0]; exact heap_alloc_new _ _
  have HB0 := Lib.hid hb0
  have H0 := Lib.hid h0
  have EW0 := Lib.hid eW0
  clear hb0 h0 eW0
  go_enter Tryd.func149, Tryd.ntmps149
  go_upto_region 1 with (fail)
  rw [← EW0.out]
  clear EW0
  go_upto_region 11 with (first
    | (go_at_call 141; (with_reducible refine (refColorMay_c _ _).mono ?_); rintro _ wx ⟨rfl, hwx⟩; rw [hwx]; clear hwx; rw [HM.out]))
  go_upto_region 12 with (first
    | (refine wpList_buildTo rfl 175 _ rfl (some 75) rfl firstW.toArray (by kernel_rfl) ?_)
    | (refine wpList_store_rowTo rfl 175 (.tmp 6) (.tmp 75) rfl rfl W0.heap.size firstW.toArray rfl rfl 175 _ (heap_alloc_new W0 _) (info_a48.trans rfl) (by kernel_rfl) firstW_one ?_))
  generalize eX1 : World.alloc W0 _ = X1
  have hx1 : Below W0.heap.size W0 X1 := by rw [← eX1]; exact (Below.refl _ _).alloc (Nat.le_refl _) _
  obtain ⟨old, hq1⟩ : ∃ old, X1.heap[W0.heap.size]? = some (.cells old 175 (0, 0)) := ⟨_, by rw [← eX1]; exact heap_alloc_new _ _⟩
  obtain ⟨q, eq⟩ : ∃ q, q = W0.heap.size := ⟨_, rfl⟩
  have hwq : w.heap.size < q := by rw [eq]; exact heap_lt H0.out
  obtain ⟨W2, eW2⟩ : ∃ W2, W2 = X1.setRow W0.heap.size firstW.toArray := ⟨_, rfl⟩
  rw [← eW2, ← eq]
  rw [← eq] at hq1 eW2
  have hq2 : W2.heap[q]? = some (.cells firstW.toArray 175 (0, 0)) := by rw [eW2]; exact setRow_heap _ _ _ _ _ _ hq1
  have h02 : W2.heap[w.heap.size]? = some (.cells #[.int .i64 0, .int .i64 0, .int .i64 0] 170 (0, 0)) := by
    rw [eW2]
    exact (setRow_other _ _ _ _ (Nat.ne_of_lt hwq)).trans ((hx1.block _ (heap_lt H0.out)).trans H0.out)
  have hb2 : Below w.heap.size w W2 := by rw [eW2]; exact below_setRow (HB0.out.trans (hx1.mono HB0.out.size)) (Nat.le_of_lt hwq) _
  have c0 : W2.cell? ⟨q, i * 3, none⟩ = some (.int .i64 P.1) := (heap_cell hq2 _).trans (by have := F0.out; simpa using this)
  have c1 : W2.cell? ⟨q, i * 3 + 1, none⟩ = some (.int .i64 P.2.1) := (heap_cell hq2 _).trans (by have := F1.out; simpa using this)
  have c2 : W2.cell? ⟨q, i * 3 + 2, none⟩ = some (.int .i64 P.2.2) := (heap_cell hq2 _).trans (by have := F2.out; simpa using this)
  have H2 := Lib.hid h02
  have HB2 := Lib.hid hb2
  clear eX1 hx1 hq1 eq hwq eW2 hq2 h02 hb2 F0 F1 F2
  go_wp2_with (first
    | (refine wpList_store_rowTo rfl 170 (.tmp 2) (.tmp 78) rfl rfl w.heap.size (a3V P) rfl rfl 170 _ H2.out (info_a3.trans rfl) rfl (a3_one _) ?_))
  refine bodyPost_ret (v := .tuple #[.agg (a3V P), .bool true]) (ref13_results _ w.heap.size 170 _ (0, 0) true rfl rfl _ (setRow_heap _ w.heap.size _ _ _ _ H2.out) (info_a3.trans rfl)) rfl ?_
  exact ⟨rfl, below_setRow HB2.out (Nat.le_refl _) _⟩
theorem refParts_c (c : Int) (w : World) (hc : 0 ≤ c) :
    Calls Tryd.prog 149 #[.int .u32 c] w fun e w' => e = .returned (partsW c) ∧ Below w.heap.size w w' := by
  unfold partsW
  cases h : hasP c
  · by_cases h0 : c = 0
    · exact rpartsZ_c c w h0
    · exact rpartsN_c c w hc h h0
  · have h2 := (hasP_iff c).1 h
    have h3 := (colMay_iff c).1 h2.2
    simp only [if_true]
    by_cases h4 : c ≤ 16
    · exact rpartsF_c c w (by omega) h4
    by_cases h5 : c ≤ 232
    · exact rpartsM_c c w (by omega) h5
    by_cases h6 : c ≤ 256
    · exact rpartsG_c c w (by omega) h6
    · exact rparts3_c c w (by omega) (by omega)
end Go.Proofs.YtipofokinjkclaaDoor

/- What the reference's Far answers of any colours. Conditions: none. -/
namespace Go.Proofs.YtipofokinjkclaaDoor
open Go Go.RowKit Go.Lib

def comp (p : Int × Int × Int) (k : Nat) : Int := if k = 0 then p.1 else if k = 1 then p.2.1 else p.2.2
theorem a3V_at (p : Int × Int × Int) (k : Nat) (h : k < 3) : (a3V p)[k]? = some (.int .i64 (comp p k)) := by
  match k, h with
  | 0, _ => rfl
  | 1, _ => rfl
  | 2, _ => rfl
def sumQ (p q : Int × Int × Int) : Nat → Int
  | 0 => 0
  | k + 1 => sumQ p q k + (comp p k - comp q k) * (comp p k - comp q k)
def byteT (p : Int × Int × Int) : Prop := byteI p.1 ∧ byteI p.2.1 ∧ byteI p.2.2
theorem comp_byte {p : Int × Int × Int} (h : byteT p) (k : Nat) : byteI (comp p k) := by
  unfold comp
  split
  · exact h.1
  · split
    · exact h.2.1
    · exact h.2.2
theorem sumQ_le {p q : Int × Int × Int} (hp : byteT p) (hq : byteT q) : ∀ k, 0 ≤ sumQ p q k ∧ sumQ p q k ≤ 65025 * k
  | 0 => by simp [sumQ]
  | k + 1 => by
    have h1 := sumQ_le hp hq k
    have h2 := sq_byte (comp_byte hp k) (comp_byte hq k)
    rw [sumQ]
    omega
/-- What is told of a colour: its parts, and whether it has some. -/
def ptC (c : Int) : Int × Int × Int := if hasP c then partsI c else (0, 0, 0)
theorem partsW_eq (c : Int) : partsW c = .tuple #[.agg (a3V (ptC c)), .bool (hasP c)] := by
  unfold partsW ptC
  cases hasP c <;> rfl
theorem ptC_byte (c : Int) (h : 0 ≤ c) : byteT (ptC c) := by
  unfold ptC
  cases hh : hasP c
  · show byteT (0, 0, 0)
    exact ⟨⟨by decide, by decide⟩, ⟨by decide, by decide⟩, ⟨by decide, by decide⟩⟩
  · exact partsI_byte c hh h
theorem farI_eq (x y : Int) : farI x y = if hasP x && hasP y then sumQ (ptC x) (ptC y) 3 else -1 := by
  unfold farI
  cases hp : hasP x <;> cases hq : hasP y <;> simp [sumQ, comp, ptC, hp, hq, sq]
set_option maxRecDepth 100000 in
set_option maxHeartbeats 16000000 in
theorem refFar_c (x y : Int) (w : World) (hx : 0 ≤ x) (hy : 0 ≤ y) :
    Calls Tryd.prog 145 #[.int .u32 x, .int .u32 y] w fun e w' => e = .returned (.int .i64 (farI x y)) ∧ Below w.heap.size w w' := by
  rw [farI_eq]
  have hpb := ptC_byte x hx
  have hqb := ptC_byte y hy
  obtain ⟨b1, e1⟩ : ∃ b, hasP x = b := ⟨_, rfl⟩
  obtain ⟨b2, e2⟩ : ∃ b, hasP y = b := ⟨_, rfl⟩
  obtain ⟨P, eP⟩ : ∃ b, ptC x = b := ⟨_, rfl⟩
  obtain ⟨Q, eQ⟩ : ∃ b, ptC y = b := ⟨_, rfl⟩
  have PX : Hid (partsW x = .tuple #[.agg (a3V P), .bool b1]) := Lib.hid (by rw [partsW_eq, eP, e1])
  have PY : Hid (partsW y = .tuple #[.agg (a3V Q), .bool b2]) := Lib.hid (by rw [partsW_eq, eQ, e2])
  rw [e1, e2, eP, eQ]
  rw [eP] at hpb
  rw [eQ] at hqb
  have HPB := Lib.hid hpb
  have HQB := Lib.hid hqb
  clear e1 e2 eP eQ hpb hqb
  obtain ⟨R, eR⟩ : ∃ R, (if b1 && b2 then sumQ P Q 3 else -1) = R := ⟨_, rfl⟩
  rw [eR]
  have ER := Lib.hid eR
  clear eR
  go_enter Tryd.func145, Tryd.ntmps145
  go_upto_region 2 with (first
    | (go_at_call 149; (with_reducible refine (refParts_c x w hx).mono ?_); rintro _ w1 ⟨rfl, hb1⟩; rw [PX.out]; have HB1 := Lib.hid hb1; clear hb1)
    | (refine wpList_store_rowTo rfl 170 (.tmp 5) (.tmp 14) rfl rfl w1.heap.size (a3V P) rfl rfl 170 _ (heap_alloc_new w1 _) (info_a3.trans rfl) rfl (a3_one _) ?_))
  generalize eX1 : World.alloc w1 _ = X1
  have hx1 : Below w1.heap.size w1 X1 := by rw [← eX1]; exact (Below.refl _ _).alloc (Nat.le_refl _) _
  obtain ⟨old, hq1⟩ : ∃ old, X1.heap[w1.heap.size]? = some (.cells old 170 (0, 0)) := ⟨_, by rw [← eX1]; exact heap_alloc_new _ _⟩
  obtain ⟨p, ep⟩ : ∃ p, p = w1.heap.size := ⟨_, rfl⟩
  obtain ⟨W2, eW2⟩ : ∃ W2, W2 = X1.setRow w1.heap.size (a3V P) := ⟨_, rfl⟩
  rw [← eW2, ← ep]
  have hq2 : W2.heap[p]? = some (.cells (a3V P) 170 (0, 0)) := by rw [eW2, ep]; exact setRow_heap _ _ _ _ _ _ hq1
  have hb2 : Below w.heap.size w W2 := by rw [eW2]; exact below_setRow (HB1.out.trans (hx1.mono HB1.out.size)) HB1.out.size _
  have HP2 := Lib.hid hq2
  have HB2 := Lib.hid hb2
  clear eX1 hx1 hq1 ep eW2 hq2 hb2
  go_upto_region 3 with (first
    | (go_at_call 149; (with_reducible refine (refParts_c y W2 hy).mono ?_); rintro _ w3 ⟨rfl, hb3⟩; rw [PY.out]; have HB3 := Lib.hid hb3; clear hb3)
    | (refine wpList_store_rowTo rfl 170 (.tmp 7) (.tmp 19) rfl rfl w3.heap.size (a3V Q) rfl rfl 170 _ (heap_alloc_new w3 _) (info_a3.trans rfl) rfl (a3_one _) ?_))
  generalize eX3 : World.alloc w3 _ = X3
  have hx3 : Below w3.heap.size w3 X3 := by rw [← eX3]; exact (Below.refl _ _).alloc (Nat.le_refl _) _
  obtain ⟨old, hq3⟩ : ∃ old, X3.heap[w3.heap.size]? = some (.cells old 170 (0, 0)) := ⟨_, by rw [← eX3]; exact heap_alloc_new _ _⟩
  obtain ⟨q, eq⟩ : ∃ q, q = w3.heap.size := ⟨_, rfl⟩
  obtain ⟨W4, eW4⟩ : ∃ W4, W4 = X3.setRow w3.heap.size (a3V Q) := ⟨_, rfl⟩
  rw [← eW4, ← eq]
  have hq4 : W4.heap[q]? = some (.cells (a3V Q) 170 (0, 0)) := by rw [eW4, eq]; exact setRow_heap _ _ _ _ _ _ hq3
  have hp4 : W4.heap[p]? = some (.cells (a3V P) 170 (0, 0)) := by
    have h1 : p < W2.heap.size := heap_lt HP2.out
    have h2 : p < w3.heap.size := Nat.lt_of_lt_of_le h1 HB3.out.size
    rw [eW4]
    exact (setRow_other _ _ _ _ (Nat.ne_of_lt h2)).trans ((hx3.block p h2).trans ((HB3.out.block p h1).trans HP2.out))
  have hb4 : Below w.heap.size w W4 := by
    have h1 := HB2.out.trans (HB3.out.mono HB2.out.size)
    rw [eW4]; exact below_setRow (h1.trans (hx3.mono h1.size)) h1.size _
  have HP4 := Lib.hid hp4
  have HQ4 := Lib.hid hq4
  have HB4 := Lib.hid hb4
  clear eX3 hx3 hq3 eq eW4 hq4 hp4 hb4
  cases b1
  · have HR : Hid (R = -1) := Lib.hid (by rw [← ER.out]; rfl)
    go_wp2_with (fail)
    go_ret
    exact ⟨by rw [HR.out] <;> rfl, HB4.out⟩
  cases b2
  · have HR : Hid (R = -1) := Lib.hid (by rw [← ER.out]; rfl)
    go_wp2_with (fail)
    go_ret
    exact ⟨by rw [HR.out] <;> rfl, HB4.out⟩
  have HR : Hid (R = sumQ P Q 3) := Lib.hid (by rw [← ER.out]; rfl)
  go_wp2_with (fail)
  go_loopw [9, 10] (fun s i wr => ∃ (k : Nat) (S : Int), k ≤ 3 ∧ i = .int .i64 k ∧ s = .int .i64 S ∧ Hid (S = sumQ P Q k) ∧ Hid (Below W4.heap.size W4 wr)) (fun _ i _ => 3 - (intOf i).toNat)
  case atStart => exact ⟨0, 0, Nat.zero_le _, rfl, rfl, Lib.hid rfl, Lib.hid (Below.refl _ _)⟩
  case round =>
    obtain ⟨k, S, hk, rfl, rfl, HS, HW⟩ := hrel
    rcases Nat.lt_or_ge k 3 with hlt | hge
    · have hlt' : decide ((k : Int) < 3) = true := decide_eq_true (by omega)
      obtain ⟨a, ea⟩ : ∃ a, comp P k = a := ⟨_, rfl⟩
      obtain ⟨b, eb⟩ : ∃ a, comp Q k = a := ⟨_, rfl⟩
      have c0 : wr.cell? ⟨p, k, none⟩ = some (.int .i64 a) := (heap_cell ((HW.out.block p (heap_lt HP4.out)).trans HP4.out) k).trans ((a3V_at P k hlt).trans (by rw [ea])) -- HP4.out k).trans ((a3V_at P k hlt).trans (by rw [ea]))
      have c1 : wr.cell? ⟨q, k, none⟩ = some (.int .i64 b) := (heap_cell ((HW.out.block q (heap_lt HQ4.out)).trans HQ4.out) k).trans ((a3V_at Q k hlt).trans (by rw [eb])) -- HQ4.out k).trans ((a3V_at Q k hlt).trans (by rw [eb]))
      have ha := comp_byte HPB.out k
      have hb := comp_byte HQB.out k
      rw [ea] at ha
      rw [eb] at hb
      obtain ⟨s1, s2⟩ := sq_byte ha hb
      obtain ⟨a1, a2⟩ := ha
      obtain ⟨b1, b2⟩ := hb
      obtain ⟨t1, t2⟩ := sumQ_le HPB.out HQB.out k
      rw [← HS.out] at t1 t2
      have hst : Hid (S + (a - b) * (a - b) = sumQ P Q (k + 1)) := Lib.hid (by rw [sumQ, ea, eb, HS.out])
      clear ea eb
      go_wp2_with (fail)
      go_quiet (fail)
      go_wp2_with (fail)
      go_roundw
      case rel => exact ⟨k + 1, _, by omega, by go_num, rfl, hst, Lib.hid (below_drewN HW.out _)⟩
      case measure => simp [intOf]; omega
    · obtain rfl : k = 3 := by omega
      clear hge hk
      go_wp2_with (fail)
      go_ret
      exact ⟨by rw [HR.out, ← HS.out] <;> rfl, HB4.out.trans (HW.out.mono HB4.out.size)⟩
end Go.Proofs.YtipofokinjkclaaDoor

/- What the reference's Near, To256, To16 and Fit answer of any colours. Conditions: none. -/
namespace Go.Proofs.YtipofokinjkclaaDoor
open Go Go.RowKit Go.Lib

set_option maxRecDepth 100000 in
set_option maxHeartbeats 16000000 in
theorem refNear_c (c frm tt : Int) (n : Nat) (w : World) (hc : 0 ≤ c) (hf : 0 ≤ frm) (hf2 : frm ≤ 255) (ht : tt ≤ 255) (hn : tt = frm + n - 1) :
    Calls Tryd.prog 131 #[.int .u32 c, .int .i64 frm, .int .i64 tt] w fun e w' => e = .returned (.int .u32 (nearI c frm n)) ∧ Below w.heap.size w w' := by
  have hn1 : tt ≤ frm + n - 1 := by omega
  have hn2 : frm + n - 1 ≤ tt := by omega
  have hnn : nearR c frm n ≤ tt ∨ n = 0 := by
    cases n with
    | zero => exact .inr rfl
    | succ m => left; have := nearR_lt c frm m; omega
  have HNN := Lib.hid hnn
  clear hn hnn
  unfold nearI
  go_enter Tryd.func131, Tryd.ntmps131
  go_wp2_with (fail)
  go_loopw [7, 8] (fun b i wr => ∃ (k : Nat) (B I : Int), k ≤ n ∧ i = .int .i64 I ∧ b = .int .i64 B ∧ Hid (I = frm + k) ∧ Hid (nearR c frm k = B) ∧ Hid (Below w.heap.size w wr)) (fun _ i _ => (tt + 1 - intOf i).toNat)
  case atStart => exact ⟨0, frm, frm, Nat.zero_le _, rfl, rfl, Lib.hid (by omega), Lib.hid rfl, Lib.hid (Below.refl _ _)⟩
  case round =>
    obtain ⟨k, B, I, hk, rfl, rfl, HI, HK, HBW⟩ := hrel
    have hb := nearR_in c frm k
    rw [HK.out] at hb
    obtain ⟨hb1, hb2⟩ := hb
    have hI1 : frm ≤ I := by rw [HI.out]; omega
    have hI2 : I ≤ tt + 1 := by rw [HI.out]; omega
    have hBI : B ≤ I := by rw [HI.out]; exact hb2
    clear hb2
    rcases Nat.lt_or_ge k n with hlt | hge
    · have hle : I ≤ tt := by rw [HI.out]; omega
      have hd : decide (I ≤ tt) = true := decide_eq_true hle
      obtain ⟨D, eD⟩ : ∃ D, farI c (I + 1) = D := ⟨_, rfl⟩
      obtain ⟨F, eF⟩ : ∃ D, farI c (B + 1) = D := ⟨_, rfl⟩
      have ED := Lib.hid eD
      have EF := Lib.hid eF
      have hst : nearR c frm (k + 1) = if D < F then I else B := by rw [nearR, HK.out, ← HI.out, eD, eF]
      have HLT := Lib.hid hlt
      clear eD eF hk
      by_cases hD : D < F
      · have d2 : decide (D < F) = true := decide_eq_true hD
        rw [if_pos hD] at hst
        have HST := Lib.hid hst
        clear hst
        go_wp2_with (first
          | (go_at_call 145; (with_reducible refine (refFar_c c (I + 1) wr hc (by omega)).mono ?_); rintro _ w1 ⟨rfl, hb1⟩; rw [ED.out]; have HB1 := Lib.hid (HBW.out.trans (hb1.mono HBW.out.size)); clear hb1)
          | (go_at_call 145; (with_reducible refine (refFar_c c (B + 1) w1 hc (by omega)).mono ?_); rintro _ w2 ⟨rfl, hb2⟩; rw [EF.out]; have HB2 := Lib.hid (HB1.out.trans (hb2.mono HB1.out.size)); clear hb2))
        go_roundw
        case rel => exact ⟨k + 1, I, I + 1, by have := HLT.out; omega, rfl, rfl, Lib.hid (by rw [HI.out]; push_cast; omega), HST, HB2⟩
        case measure => simp [intOf]; omega
      · have d2 : decide (D < F) = false := decide_eq_false hD
        rw [if_neg hD] at hst
        have HST := Lib.hid hst
        clear hst
        go_wp2_with (first
          | (go_at_call 145; (with_reducible refine (refFar_c c (I + 1) wr hc (by omega)).mono ?_); rintro _ w1 ⟨rfl, hb1⟩; rw [ED.out]; have HB1 := Lib.hid (HBW.out.trans (hb1.mono HBW.out.size)); clear hb1)
          | (go_at_call 145; (with_reducible refine (refFar_c c (B + 1) w1 hc (by omega)).mono ?_); rintro _ w2 ⟨rfl, hb2⟩; rw [EF.out]; have HB2 := Lib.hid (HB1.out.trans (hb2.mono HB1.out.size)); clear hb2))
        go_roundw
        case rel => exact ⟨k + 1, B, I + 1, by have := HLT.out; omega, rfl, rfl, Lib.hid (by rw [HI.out]; push_cast; omega), HST, HB2⟩
        case measure => simp [intOf]; omega
    · obtain rfl : n = k := by omega
      have hd : decide (I ≤ tt) = false := decide_eq_false (by rw [HI.out]; omega)
      have hB : B ≤ 255 := by
        rcases HNN.out with h | h
        · rw [HK.out] at h; omega
        · subst h; have := HK.out; rw [nearR] at this; omega
      clear hge hk
      go_wp2_with (fail)
      go_ret
      exact ⟨by rw [HK.out] <;> rfl, HBW.out⟩
set_option maxRecDepth 100000 in
set_option maxHeartbeats 16000000 in
theorem refTo256_c (c : Int) (w : World) (hc : 0 ≤ c) :
    Calls Tryd.prog 93 #[.int .u32 c] w fun e w' => e = .returned (.int .u32 (to256I c)) ∧ Below w.heap.size w w' := by
  obtain ⟨R, eR⟩ : ∃ R, to256I c = R := ⟨_, rfl⟩
  rw [eR]
  unfold to256I isThree at eR
  by_cases h1 : 16777216 ≤ c
  · have d1 : decide (16777216 ≤ c) = true := decide_eq_true h1
    by_cases h2 : c ≤ 33554431
    · have d2 : decide (c < 33554432) = true := decide_eq_true (by omega)
      have HR : Hid (R = nearI c 16 240) := Lib.hid (by rw [← eR, decide_eq_true h1, decide_eq_true h2]; rfl)
      clear eR
      go_enter Tryd.func93, Tryd.ntmps93
      go_wp2_with (go_at_call 131; (with_reducible refine (refNear_c c 16 255 240 w hc (by decide) (by decide) (by decide) (by decide)).mono ?_); rintro _ w1 ⟨rfl, hb1⟩)
      go_ret
      exact ⟨by rw [HR.out] <;> rfl, hb1⟩
    · have d2 : decide (c < 33554432) = false := decide_eq_false (by omega)
      have HR : Hid (R = c) := Lib.hid (by rw [← eR, decide_eq_false h2, Bool.and_false]; rfl)
      clear eR
      go_enter Tryd.func93, Tryd.ntmps93
      go_wp2_with (fail)
      go_ret
      exact ⟨by rw [HR.out] <;> rfl, Below.refl _ _⟩
  · have d1 : decide (16777216 ≤ c) = false := decide_eq_false h1
    have HR : Hid (R = c) := Lib.hid (by rw [← eR, decide_eq_false h1]; rfl)
    clear eR
    go_enter Tryd.func93, Tryd.ntmps93
    go_wp2_with (fail)
    go_ret
    exact ⟨by rw [HR.out] <;> rfl, Below.refl _ _⟩
set_option maxRecDepth 100000 in
set_option maxHeartbeats 16000000 in
theorem refTo16_c (c : Int) (w : World) (hc : 0 ≤ c) :
    Calls Tryd.prog 94 #[.int .u32 c] w fun e w' => e = .returned (.int .u32 (to16I c)) ∧ Below w.heap.size w w' := by
  obtain ⟨R, eR⟩ : ∃ R, to16I c = R := ⟨_, rfl⟩
  rw [eR]
  unfold to16I isThree isTab at eR
  obtain ⟨b1, e1⟩ : ∃ b, decide (16777216 ≤ c) = b := ⟨_, rfl⟩
  obtain ⟨b2, e2⟩ : ∃ b, decide (c ≤ 33554431) = b := ⟨_, rfl⟩
  obtain ⟨b3, e3⟩ : ∃ b, decide (17 ≤ c) = b := ⟨_, rfl⟩
  obtain ⟨b4, e4⟩ : ∃ b, decide (c ≤ 256) = b := ⟨_, rfl⟩
  have e2' : decide (c < 33554432) = b2 := by rw [← e2]; exact decide_eq_decide.2 ⟨fun h => by omega, fun h => by omega⟩
  rw [e1, e2, e3, e4] at eR
  have ER := Lib.hid eR
  clear eR
  cases b1 <;> cases b2 <;> cases b3 <;> cases b4 <;>
  (go_enter Tryd.func94, Tryd.ntmps94
   go_wp2_with (go_at_call 131; (with_reducible refine (refNear_c c 0 15 16 w hc (by decide) (by decide) (by decide) (by decide)).mono ?_); rintro _ w1 ⟨rfl, hb1⟩)
   go_ret
   exact ⟨by rw [← ER.out] <;> rfl, by first | assumption | exact Below.refl _ _⟩)
set_option maxRecDepth 100000 in
set_option maxHeartbeats 16000000 in
theorem refFit_c (c f : Int) (col tru : Bool) (w : World) (hc : 0 ≤ c) (hf : 0 ≤ f) (hf2 : f ≤ 4294967295) (h1 : (f % 2 == 1) = col) (h2 : (f / 2 % 2 == 1) = tru) :
    Calls Tryd.prog 57 #[.int .u32 c, .int .u32 f] w fun e w' => e = .returned (.int .u32 (fitC col tru c)) ∧ Below w.heap.size w w' := by
  obtain ⟨R, eR⟩ : ∃ R, fitC col tru c = R := ⟨_, rfl⟩
  rw [eR]
  unfold fitC isThree isTab at eR
  obtain ⟨b1, e1⟩ : ∃ b, decide (16777216 ≤ c) = b := ⟨_, rfl⟩
  obtain ⟨b2, e2⟩ : ∃ b, decide (c ≤ 33554431) = b := ⟨_, rfl⟩
  obtain ⟨b3, e3⟩ : ∃ b, decide (17 ≤ c) = b := ⟨_, rfl⟩
  obtain ⟨b4, e4⟩ : ∃ b, decide (c ≤ 256) = b := ⟨_, rfl⟩
  have e2' : decide (c < 33554432) = b2 := by rw [← e2]; exact decide_eq_decide.2 ⟨fun h => by omega, fun h => by omega⟩
  rw [e1, e2, e3, e4] at eR
  have ER := Lib.hid eR
  clear eR
  cases b1 <;> cases b2 <;> cases b3 <;> cases b4 <;> cases col <;> cases tru <;>
  (go_enter Tryd.func57, Tryd.ntmps57
   go_wp2_with (first
     | (go_at_call 93; (with_reducible refine (refTo256_c c w hc).mono ?_); rintro _ w1 ⟨rfl, hb1⟩)
     | (go_at_call 94; (with_reducible refine (refTo16_c c w hc).mono ?_); rintro _ w1 ⟨rfl, hb1⟩))
   go_ret
   exact ⟨by rw [← ER.out] <;> rfl, by first | assumption | exact Below.refl _ _⟩)
end Go.Proofs.YtipofokinjkclaaDoor

/- What project.fit answers of any cell. Conditions: the tables lie where they were laid. -/
namespace Go.Proofs.YtipofokinjkclaaDoor
open Go Go.RowKit Go.Lib

def CeD.arr (d : CeD) : Array Value := #[.int .i32 d.r, .int .u8 d.w, .int .u32 d.fg, .int .u32 d.bg, .int .u8 d.at_, .int .u16 d.ln]
theorem CeD.one (d : CeD) : d.arr.all (·.oneCell') = true := by
  unfold CeD.arr
  simp [Value.oneCell']
theorem info_cell : (Tryd.prog.info? 47).map (·.size) = some 6 := by kernel_rfl
/-- The cell by the features: colours (two ways), wide letters, links. -/
def fitD (col tru wid lnk : Bool) (d : CeD) : CeD :=
  ⟨if !wid && d.w != 0 then (if d.w == 2 then 32 else 63) else d.r, if !wid && d.w != 0 then 0 else d.w, fitC col tru d.fg, fitC col tru d.bg, d.at_, if lnk then d.ln else 0⟩
/-- What the features' bits say. -/
structure Fts (ft : Int) (col tru wid lnk : Bool) : Prop where
  col : (bits BinOp.and .u32 ft 1 != 0) = col
  tru : (bits BinOp.and .u32 ft 2 != 0) = tru
  wid : (bits BinOp.and .u32 ft 4 == 0) = !wid
  lnk : (bits BinOp.and .u32 ft 8 == 0) = !lnk
set_option maxRecDepth 100000 in
set_option maxHeartbeats 16000000 in
theorem fit_c (d : CeD) (ft : Int) (col tru wid lnk : Bool) (w : World) (hf : Fts ft col tru wid lnk) (hfg : 0 ≤ d.fg) (hbg : 0 ≤ d.bg) (hT : TabC w) :
    Calls Tryd.prog 56 #[d.val, .int .u32 ft] w fun e w' => e = .returned (fitD col tru wid lnk d).val ∧ Below w.heap.size w w' := by
  obtain ⟨N, eN⟩ : ∃ N, fitD col tru wid lnk d = N := ⟨_, rfl⟩
  rw [eN]
  have EN : Hid (N = ⟨if !wid && d.w != 0 then (if d.w == 2 then 32 else 63) else d.r, if !wid && d.w != 0 then 0 else d.w, fitC col tru d.fg, fitC col tru d.bg, d.at_, if lnk then d.ln else 0⟩) := Lib.hid (by rw [← eN]; rfl)
  clear eN
  have hw := hf.wid
  have hl := hf.lnk
  have HF := Lib.hid hf
  have HT := Lib.hid hT
  obtain ⟨W0, eW0⟩ : ∃ W0, W0 = (w.alloc (.cells d.arr 47)).alloc (.cells (CeD.arr ⟨0, 0, 0, 0, 0, 0⟩) 47) := ⟨_, rfl⟩
  have hb0 : Below w.heap.size w W0 := by rw [eW0]; exact ((Below.refl _ _).alloc (Nat.le_refl _) _).alloc (by simp) _
  obtain ⟨p, ep⟩ : ∃ p, p = w.heap.size := ⟨_, rfl⟩
  obtain ⟨q, eq⟩ : ∃ q, q = w.heap.size + 1 := ⟨_, rfl⟩
  have hp0 : W0.heap[p]? = some (.cells d.arr 47 (0, 0)) := by rw [eW0, ep]; exact (Below.heap_alloc _ _ _ (by simp)).trans (heap_alloc_new _ _)
  have hq0 : W0.heap[q]? = some (.cells (CeD.arr ⟨0, 0, 0, 0, 0, 0⟩) 47 (0, 0)) := by rw [eW0, eq]; exact heap_alloc2_new _ _ _
  have eW0' : (w.alloc (.cells #[.int .i32 d.r, .int .u8 d.w, .int .u32 d.fg, .int .u32 d.bg, .int .u8 d.at_, .int .u16 d.ln] 47)).alloc (.cells #[.int .i32 0, .int .u8 0, .int .u32 0, .int .u32 0, .int .u8 0, .int .u16 0] 47) = W0 := by rw [eW0]; rfl
  have EW0 := Lib.hid eW0'
  have EQ := Lib.hid eq
  have EP := Lib.hid ep
  have HP0 := Lib.hid hp0
  have HQ0 := Lib.hid hq0
  have HB0 := Lib.hid hb0
  have HT0 := Lib.hid (hT.next hb0)
  have HPQ : Hid (w.heap.size ≤ p ∧ w.heap.size ≤ q ∧ p ≠ q) := Lib.hid ⟨by omega, by omega, by omega⟩
  clear hf hT eW0 hb0 ep eq hp0 hq0 eW0'
  show Calls _ _ #[.agg #[.int .i32 d.r, .int .u8 d.w, .int .u32 d.fg, .int .u32 d.bg, .int .u8 d.at_, .int .u16 d.ln], .int .u32 ft] w _
  go_enter Tryd.func56, Tryd.ntmps56
  go_upto_region 1 with (fail)
  rw [EW0.out, ← EQ.out, ← EP.out]
  clear EW0 EQ
  refine wp_region_rt 40 12 [Rl.eq (.pointer (some ⟨p, 2, none⟩)), Rl.eq (.pointer (some ⟨p, 2, none⟩)), Rl.eq (.int .u32 d.fg), Rl.eq (.int .u32 ft), Rl.eq (.int .u32 (fitC col tru d.fg)), Rl.eq (.pointer (some ⟨p, 2, none⟩)), Rl.eq (.pointer (some ⟨p, 3, none⟩)), Rl.eq (.int .u32 d.bg), Rl.eq (.int .u32 ft), Rl.eq (.int .u32 (fitC col tru d.bg)), Rl.eq (.pointer (some ⟨p, 2, none⟩)), Rl.eq (.pointer (some ⟨p, 2, none⟩))] [6, 7, 8, 9, 10, 11, 12, 13, 14, 15, 16, 17, 18, 19] (by kernel_rfl) rfl (by kernel_rfl) (by kernel_rfl) (by decide) (by kernel_rfl) (by kernel_rfl) ?_ ?_
  · simp only [List.take_succ_cons, List.take_zero]
    repeat (first | exact AllFrom.nil_ | (refine AllFrom.cons_ (by rfl) ?_ ?_; rotate_left))
    · intro f w' g hF hD
      have h2 : f 2 = .pointer (some ⟨p, 0, none⟩) := hF 2 (by kernel_rfl)
      rw [if_pos (wanted_none rfl)]
      clear hF hD
      exact gives_val (by simp only [execOp, evF, h2]; first | rfl | go_simp) ⟨Gr.refl _, rfl⟩
    · intro f w' g hF hD
      have h6 : f 6 = (.pointer (some ⟨p, 2, none⟩)) := hD 0 6 (by kernel_rfl) rfl
      rw [if_pos (wanted_none rfl)]
      clear hF hD
      exact gives_val (by simp only [execOp, evF, h6]; first | rfl | go_simp) ⟨Gr.refl _, rfl⟩
    · intro f w' g hF hD
      have h7 : f 7 = (.pointer (some ⟨p, 2, none⟩)) := hD 1 7 (by kernel_rfl) rfl
      rw [if_pos (wanted_none rfl)]
      clear hF hD
      have cl : w'.cell? ⟨p, 2, none⟩ = some (.int .u32 d.fg) := (heap_cell ((g.block p (heap_lt HP0.out)).trans HP0.out) 2)
      exact gives_val (by simp only [execOp, evF, h7]; go_simp) ⟨Gr.refl _, rfl⟩
    · intro f w' g hF hD
      have h1 : f 1 = .int .u32 ft := hF 1 (by kernel_rfl)
      rw [if_pos (wanted_none rfl)]
      clear hF hD
      exact gives_val (by simp only [execOp, evF, h1]; first | rfl | go_simp) ⟨Gr.refl _, rfl⟩
    · intro f w' g hF hD
      have h8 : f 8 = (.int .u32 d.fg) := hD 2 8 (by kernel_rfl) rfl
      have h9 : f 9 = (.int .u32 ft) := hD 3 9 (by kernel_rfl) rfl
      rw [if_pos (wanted_none rfl)]
      clear hF hD
      have kg : Below W0.heap.size W0 w' := (below_drewN (Below.refl _ _) 1).trans g
      refine gives_func rfl Tryd.func92 (by kernel_rfl) rfl (by simp only [List.map_toArray, List.map_cons, List.map_nil, evF, h8, h9]) ((Fit_c d.fg ft col tru w' hfg HF.out.col HF.out.tru (HT0.out.next kg)).mono ?_)
      rintro e w'' ⟨rfl, hb⟩
      exact ⟨_, rfl, hb, rfl⟩
    · intro f w' g hF hD
      have h2 : f 2 = .pointer (some ⟨p, 0, none⟩) := hF 2 (by kernel_rfl)
      rw [if_pos (wanted_none rfl)]
      clear hF hD
      exact gives_val (by simp only [execOp, evF, h2]; first | rfl | go_simp) ⟨Gr.refl _, rfl⟩
    · intro f w' g hF hD
      have h11 : f 11 = (.pointer (some ⟨p, 2, none⟩)) := hD 5 11 (by kernel_rfl) rfl
      rw [if_pos (wanted_none rfl)]
      clear hF hD
      exact gives_val (by simp only [execOp, evF, h11]; first | rfl | go_simp) ⟨Gr.refl _, rfl⟩
    · intro f w' g hF hD
      have h12 : f 12 = (.pointer (some ⟨p, 3, none⟩)) := hD 6 12 (by kernel_rfl) rfl
      rw [if_pos (wanted_none rfl)]
      clear hF hD
      have cl : w'.cell? ⟨p, 3, none⟩ = some (.int .u32 d.bg) := (heap_cell ((g.block p (heap_lt HP0.out)).trans HP0.out) 3)
      exact gives_val (by simp only [execOp, evF, h12]; go_simp) ⟨Gr.refl _, rfl⟩
    · intro f w' g hF hD
      have h1 : f 1 = .int .u32 ft := hF 1 (by kernel_rfl)
      rw [if_pos (wanted_none rfl)]
      clear hF hD
      exact gives_val (by simp only [execOp, evF, h1]; first | rfl | go_simp) ⟨Gr.refl _, rfl⟩
    · intro f w' g hF hD
      have h13 : f 13 = (.int .u32 d.bg) := hD 7 13 (by kernel_rfl) rfl
      have h14 : f 14 = (.int .u32 ft) := hD 8 14 (by kernel_rfl) rfl
      rw [if_pos (wanted_none rfl)]
      clear hF hD
      have kg : Below W0.heap.size W0 w' := (below_drewN (Below.refl _ _) 1).trans g
      refine gives_func rfl Tryd.func92 (by kernel_rfl) rfl (by simp only [List.map_toArray, List.map_cons, List.map_nil, evF, h13, h14]) ((Fit_c d.bg ft col tru w' hbg HF.out.col HF.out.tru (HT0.out.next kg)).mono ?_)
      rintro e w'' ⟨rfl, hb⟩
      exact ⟨_, rfl, hb, rfl⟩
    · intro f w' g hF hD
      have h2 : f 2 = .pointer (some ⟨p, 0, none⟩) := hF 2 (by kernel_rfl)
      rw [if_pos (wanted_none rfl)]
      clear hF hD
      exact gives_val (by simp only [execOp, evF, h2]; first | rfl | go_simp) ⟨Gr.refl _, rfl⟩
    · intro f w' g hF hD
      have h16 : f 16 = (.pointer (some ⟨p, 2, none⟩)) := hD 10 16 (by kernel_rfl) rfl
      rw [if_pos (wanted_none rfl)]
      clear hF hD
      exact gives_val (by simp only [execOp, evF, h16]; first | rfl | go_simp) ⟨Gr.refl _, rfl⟩
  intro g w1 gg hD
  have h10 : g 10 = .int .u32 (fitC col tru d.fg) := hD 4 10 (by decide) rfl
  have h17 : g 17 = .pointer (some ⟨p, 2, none⟩) := hD 11 17 (by decide) rfl
  have h15 : g 15 = .int .u32 (fitC col tru d.bg) := hD 9 15 (by decide) rfl
  have kg : Below W0.heap.size W0 w1 := (below_drewN (Below.refl _ _) 1).trans gg
  have hp1 := (kg.block p (heap_lt HP0.out)).trans HP0.out
  have HQ1 := Lib.hid ((kg.block q (heap_lt HQ0.out)).trans HQ0.out)
  have HB1 := Lib.hid (HB0.out.trans (kg.mono HB0.out.size))
  simp only [List.drop_succ_cons, List.drop_zero, putAll, List.setIfInBounds_toArray, List.set_cons_zero, List.set_cons_succ, h10, h15, h17]
  clear hD gg kg h10 h15 h17
  have c2 : w1.cell? ⟨p, 2, none⟩ = some (.int .u32 d.fg) := heap_cell hp1 2
  have c3 : w1.cell? ⟨p, 3, none⟩ = some (.int .u32 d.bg) := heap_cell hp1 3
  have f2 := heap_free hp1 2
  have f3 := heap_free hp1 3
  have HP1 := Lib.hid hp1
  clear hp1
  go_upto_region 2 with (fail)
  obtain ⟨D3, eD3⟩ : ∃ D : CeD, D = ⟨d.r, d.w, fitC col tru d.fg, fitC col tru d.bg, d.at_, d.ln⟩ := ⟨_, rfl⟩
  obtain ⟨W3, eW3⟩ : ∃ W3, W3 = (w1.setCell ⟨p, 2, none⟩ (.int .u32 (fitC col tru d.fg))).setCell ⟨p, 3, none⟩ (.int .u32 (fitC col tru d.bg)) := ⟨_, rfl⟩
  rw [← eW3]
  have hp3 : W3.heap[p]? = some (.cells D3.arr 47 (0, 0)) := by rw [eW3, heap_set (heap_set HP1.out 2 _) 3 _, eD3]; rfl
  have HQ3 : Hid (W3.heap[q]? = some (.cells (CeD.arr ⟨0, 0, 0, 0, 0, 0⟩) 47 (0, 0))) := Lib.hid (by rw [eW3]; exact (heap_far _ (Ne.symm HPQ.out.2.2)).trans ((heap_far _ (Ne.symm HPQ.out.2.2)).trans HQ1.out))
  have HB3 : Hid (Below w.heap.size w W3) := Lib.hid (by rw [eW3]; exact below_set (below_set HB1.out p _ _ HPQ.out.1) p _ _ HPQ.out.1)
  have c5 : W3.cell? ⟨p, 5, none⟩ = some (.int .u16 d.ln) := (heap_cell hp3 5).trans (by rw [eD3]; rfl)
  have f5 := heap_free hp3 5
  have HP3 := Lib.hid hp3
  have ED3 := Lib.hid eD3
  clear c2 c3 f2 f3 eD3 eW3 hp3 HP1 HQ1 HB1
  cases lnk
  · go_upto_region 4 with (fail)
    obtain ⟨D4, eD4⟩ : ∃ D : CeD, D = ⟨d.r, d.w, fitC col tru d.fg, fitC col tru d.bg, d.at_, 0⟩ := ⟨_, rfl⟩
    obtain ⟨W4, eW4⟩ : ∃ W4, W4 = (W3.setCell ⟨p, 5, none⟩ (.int .u16 0)) := ⟨_, rfl⟩
    rw [← eW4]
    have hp4 : W4.heap[p]? = some (.cells D4.arr 47 (0, 0)) := by rw [eW4, heap_set HP3.out 5 _, ED3.out, eD4]; rfl
    have HQ4 : Hid (W4.heap[q]? = some (.cells (CeD.arr ⟨0, 0, 0, 0, 0, 0⟩) 47 (0, 0))) := Lib.hid (by rw [eW4]; exact (heap_far _ (Ne.symm HPQ.out.2.2)).trans HQ3.out)
    have HB4 : Hid (Below w.heap.size w W4) := Lib.hid (by rw [eW4]; exact below_set HB3.out p _ _ HPQ.out.1)
    have x0 : W4.cell? ⟨p, 0, none⟩ = some (.int .i32 d.r) := (heap_cell hp4 0).trans (by rw [eD4]; rfl)
    have x1 : W4.cell? ⟨p, 1, none⟩ = some (.int .u8 d.w) := (heap_cell hp4 1).trans (by rw [eD4]; rfl)
    have y0 := heap_free hp4 0
    have y1 := heap_free hp4 1
    have HP4 := Lib.hid hp4
    have ED4 := Lib.hid eD4
    clear c5 f5 hl HP3 HQ3 HB3 ED3 hp4 eD4 eW4
    cases wid
    rotate_left
    · skip
      go_upto_region 9 with (fail)
      obtain ⟨D9, eD9⟩ : ∃ D : CeD, D = D4 := ⟨_, rfl⟩
      obtain ⟨W9, eW9⟩ : ∃ W9, W9 = W4 := ⟨_, rfl⟩
      rw [← eW9]
      have HP9 : Hid (W9.heap[p]? = some (.cells D9.arr 47 (0, 0))) := Lib.hid (by rw [eW9, HP4.out, eD9])
      have HQ9 : Hid (W9.heap[q]? = some (.cells (CeD.arr ⟨0, 0, 0, 0, 0, 0⟩) 47 (0, 0))) := Lib.hid (by rw [eW9]; exact HQ4.out)
      have HB9 : Hid (Below w.heap.size w W9) := Lib.hid (by rw [eW9]; exact HB4.out)
      have HN : Hid (N = D9) := Lib.hid (by rw [EN.out, eD9]; rw [ED4.out]; simp)
      clear eD9 eW9
      go_wp2_with (first
        | (refine wpList_load_row rfl 47 (.tmp 2) rfl p rfl 47 _ (0, 0) _ HP9.out Tryd.underlying47 rfl (info_cell.trans rfl) ?_)
        | (refine wpList_store_row rfl 47 (.tmp 4) (.tmp 39) rfl q D9.arr rfl rfl 47 _ HQ9.out (info_cell.trans rfl) rfl (CeD.one _) ?_))
      refine bodyPost_ret (v := .agg D9.arr) (results_cell_row (p := 4) (ty := 47) rfl _ _ q 47 _ (0, 0) _ rfl (setRow_heap W9 q _ _ _ _ HQ9.out) Tryd.underlying47 rfl (info_cell.trans rfl)) rfl ?_
      exact ⟨by rw [HN.out] <;> rfl, below_setRow HB9.out HPQ.out.2.1 _⟩
    by_cases hz : d.w = 0
    · have d0 : (d.w != 0) = false := by rw [hz]; rfl
      go_upto_region 9 with (fail)
      obtain ⟨D9, eD9⟩ : ∃ D : CeD, D = D4 := ⟨_, rfl⟩
      obtain ⟨W9, eW9⟩ : ∃ W9, W9 = W4 := ⟨_, rfl⟩
      rw [← eW9]
      have HP9 : Hid (W9.heap[p]? = some (.cells D9.arr 47 (0, 0))) := Lib.hid (by rw [eW9, HP4.out, eD9])
      have HQ9 : Hid (W9.heap[q]? = some (.cells (CeD.arr ⟨0, 0, 0, 0, 0, 0⟩) 47 (0, 0))) := Lib.hid (by rw [eW9]; exact HQ4.out)
      have HB9 : Hid (Below w.heap.size w W9) := Lib.hid (by rw [eW9]; exact HB4.out)
      have HN : Hid (N = D9) := Lib.hid (by rw [EN.out, eD9]; rw [ED4.out]; simp [hz])
      clear eD9 eW9
      go_wp2_with (first
        | (refine wpList_load_row rfl 47 (.tmp 2) rfl p rfl 47 _ (0, 0) _ HP9.out Tryd.underlying47 rfl (info_cell.trans rfl) ?_)
        | (refine wpList_store_row rfl 47 (.tmp 4) (.tmp 39) rfl q D9.arr rfl rfl 47 _ HQ9.out (info_cell.trans rfl) rfl (CeD.one _) ?_))
      refine bodyPost_ret (v := .agg D9.arr) (results_cell_row (p := 4) (ty := 47) rfl _ _ q 47 _ (0, 0) _ rfl (setRow_heap W9 q _ _ _ _ HQ9.out) Tryd.underlying47 rfl (info_cell.trans rfl)) rfl ?_
      exact ⟨by rw [HN.out] <;> rfl, below_setRow HB9.out HPQ.out.2.1 _⟩
    have d0 : (d.w != 0) = true := bne_iff_ne.2 hz
    by_cases h2 : d.w = 2
    · have d2 : (d.w == 2) = true := beq_iff_eq.2 h2
      go_upto_region 9 with (fail)
      obtain ⟨D9, eD9⟩ : ∃ D : CeD, D = ⟨32, 0, fitC col tru d.fg, fitC col tru d.bg, d.at_, 0⟩ := ⟨_, rfl⟩
      obtain ⟨W9, eW9⟩ : ∃ W9, W9 = (W4.setCell ⟨p, 0, none⟩ (.int .i32 32)).setCell ⟨p, 1, none⟩ (.int .u8 0) := ⟨_, rfl⟩
      rw [← eW9]
      have HP9 : Hid (W9.heap[p]? = some (.cells D9.arr 47 (0, 0))) := Lib.hid (by rw [eW9, heap_set (heap_set HP4.out 0 _) 1 _, ED4.out, eD9]; rfl)
      have HQ9 : Hid (W9.heap[q]? = some (.cells (CeD.arr ⟨0, 0, 0, 0, 0, 0⟩) 47 (0, 0))) := Lib.hid (by rw [eW9]; exact (heap_far _ (Ne.symm HPQ.out.2.2)).trans ((heap_far _ (Ne.symm HPQ.out.2.2)).trans HQ4.out))
      have HB9 : Hid (Below w.heap.size w W9) := Lib.hid (by rw [eW9]; exact below_set (below_set HB4.out p _ _ HPQ.out.1) p _ _ HPQ.out.1)
      have HN : Hid (N = D9) := Lib.hid (by rw [EN.out, eD9]; simp [hz, h2])
      clear eD9 eW9
      go_wp2_with (first
        | (refine wpList_load_row rfl 47 (.tmp 2) rfl p rfl 47 _ (0, 0) _ HP9.out Tryd.underlying47 rfl (info_cell.trans rfl) ?_)
        | (refine wpList_store_row rfl 47 (.tmp 4) (.tmp 39) rfl q D9.arr rfl rfl 47 _ HQ9.out (info_cell.trans rfl) rfl (CeD.one _) ?_))
      refine bodyPost_ret (v := .agg D9.arr) (results_cell_row (p := 4) (ty := 47) rfl _ _ q 47 _ (0, 0) _ rfl (setRow_heap W9 q _ _ _ _ HQ9.out) Tryd.underlying47 rfl (info_cell.trans rfl)) rfl ?_
      exact ⟨by rw [HN.out] <;> rfl, below_setRow HB9.out HPQ.out.2.1 _⟩
    · have d2 : (d.w == 2) = false := beq_eq_false_iff_ne.2 h2
      go_upto_region 9 with (fail)
      obtain ⟨D9, eD9⟩ : ∃ D : CeD, D = ⟨63, 0, fitC col tru d.fg, fitC col tru d.bg, d.at_, 0⟩ := ⟨_, rfl⟩
      obtain ⟨W9, eW9⟩ : ∃ W9, W9 = (W4.setCell ⟨p, 0, none⟩ (.int .i32 63)).setCell ⟨p, 1, none⟩ (.int .u8 0) := ⟨_, rfl⟩
      rw [← eW9]
      have HP9 : Hid (W9.heap[p]? = some (.cells D9.arr 47 (0, 0))) := Lib.hid (by rw [eW9, heap_set (heap_set HP4.out 0 _) 1 _, ED4.out, eD9]; rfl)
      have HQ9 : Hid (W9.heap[q]? = some (.cells (CeD.arr ⟨0, 0, 0, 0, 0, 0⟩) 47 (0, 0))) := Lib.hid (by rw [eW9]; exact (heap_far _ (Ne.symm HPQ.out.2.2)).trans ((heap_far _ (Ne.symm HPQ.out.2.2)).trans HQ4.out))
      have HB9 : Hid (Below w.heap.size w W9) := Lib.hid (by rw [eW9]; exact below_set (below_set HB4.out p _ _ HPQ.out.1) p _ _ HPQ.out.1)
      have HN : Hid (N = D9) := Lib.hid (by rw [EN.out, eD9]; simp [hz, h2])
      clear eD9 eW9
      go_wp2_with (first
        | (refine wpList_load_row rfl 47 (.tmp 2) rfl p rfl 47 _ (0, 0) _ HP9.out Tryd.underlying47 rfl (info_cell.trans rfl) ?_)
        | (refine wpList_store_row rfl 47 (.tmp 4) (.tmp 39) rfl q D9.arr rfl rfl 47 _ HQ9.out (info_cell.trans rfl) rfl (CeD.one _) ?_))
      refine bodyPost_ret (v := .agg D9.arr) (results_cell_row (p := 4) (ty := 47) rfl _ _ q 47 _ (0, 0) _ rfl (setRow_heap W9 q _ _ _ _ HQ9.out) Tryd.underlying47 rfl (info_cell.trans rfl)) rfl ?_
      exact ⟨by rw [HN.out] <;> rfl, below_setRow HB9.out HPQ.out.2.1 _⟩
  · go_upto_region 4 with (fail)
    obtain ⟨D4, eD4⟩ : ∃ D : CeD, D = ⟨d.r, d.w, fitC col tru d.fg, fitC col tru d.bg, d.at_, d.ln⟩ := ⟨_, rfl⟩
    obtain ⟨W4, eW4⟩ : ∃ W4, W4 = W3 := ⟨_, rfl⟩
    rw [← eW4]
    have hp4 : W4.heap[p]? = some (.cells D4.arr 47 (0, 0)) := by rw [eW4, HP3.out, ED3.out, eD4]
    have HQ4 : Hid (W4.heap[q]? = some (.cells (CeD.arr ⟨0, 0, 0, 0, 0, 0⟩) 47 (0, 0))) := Lib.hid (by rw [eW4]; exact HQ3.out)
    have HB4 : Hid (Below w.heap.size w W4) := Lib.hid (by rw [eW4]; exact HB3.out)
    have x0 : W4.cell? ⟨p, 0, none⟩ = some (.int .i32 d.r) := (heap_cell hp4 0).trans (by rw [eD4]; rfl)
    have x1 : W4.cell? ⟨p, 1, none⟩ = some (.int .u8 d.w) := (heap_cell hp4 1).trans (by rw [eD4]; rfl)
    have y0 := heap_free hp4 0
    have y1 := heap_free hp4 1
    have HP4 := Lib.hid hp4
    have ED4 := Lib.hid eD4
    clear c5 f5 hl HP3 HQ3 HB3 ED3 hp4 eD4 eW4
    cases wid
    rotate_left
    · skip
      go_upto_region 9 with (fail)
      obtain ⟨D9, eD9⟩ : ∃ D : CeD, D = D4 := ⟨_, rfl⟩
      obtain ⟨W9, eW9⟩ : ∃ W9, W9 = W4 := ⟨_, rfl⟩
      rw [← eW9]
      have HP9 : Hid (W9.heap[p]? = some (.cells D9.arr 47 (0, 0))) := Lib.hid (by rw [eW9, HP4.out, eD9])
      have HQ9 : Hid (W9.heap[q]? = some (.cells (CeD.arr ⟨0, 0, 0, 0, 0, 0⟩) 47 (0, 0))) := Lib.hid (by rw [eW9]; exact HQ4.out)
      have HB9 : Hid (Below w.heap.size w W9) := Lib.hid (by rw [eW9]; exact HB4.out)
      have HN : Hid (N = D9) := Lib.hid (by rw [EN.out, eD9]; rw [ED4.out]; simp)
      clear eD9 eW9
      go_wp2_with (first
        | (refine wpList_load_row rfl 47 (.tmp 2) rfl p rfl 47 _ (0, 0) _ HP9.out Tryd.underlying47 rfl (info_cell.trans rfl) ?_)
        | (refine wpList_store_row rfl 47 (.tmp 4) (.tmp 39) rfl q D9.arr rfl rfl 47 _ HQ9.out (info_cell.trans rfl) rfl (CeD.one _) ?_))
      refine bodyPost_ret (v := .agg D9.arr) (results_cell_row (p := 4) (ty := 47) rfl _ _ q 47 _ (0, 0) _ rfl (setRow_heap W9 q _ _ _ _ HQ9.out) Tryd.underlying47 rfl (info_cell.trans rfl)) rfl ?_
      exact ⟨by rw [HN.out] <;> rfl, below_setRow HB9.out HPQ.out.2.1 _⟩
    by_cases hz : d.w = 0
    · have d0 : (d.w != 0) = false := by rw [hz]; rfl
      go_upto_region 9 with (fail)
      obtain ⟨D9, eD9⟩ : ∃ D : CeD, D = D4 := ⟨_, rfl⟩
      obtain ⟨W9, eW9⟩ : ∃ W9, W9 = W4 := ⟨_, rfl⟩
      rw [← eW9]
      have HP9 : Hid (W9.heap[p]? = some (.cells D9.arr 47 (0, 0))) := Lib.hid (by rw [eW9, HP4.out, eD9])
      have HQ9 : Hid (W9.heap[q]? = some (.cells (CeD.arr ⟨0, 0, 0, 0, 0, 0⟩) 47 (0, 0))) := Lib.hid (by rw [eW9]; exact HQ4.out)
      have HB9 : Hid (Below w.heap.size w W9) := Lib.hid (by rw [eW9]; exact HB4.out)
      have HN : Hid (N = D9) := Lib.hid (by rw [EN.out, eD9]; rw [ED4.out]; simp [hz])
      clear eD9 eW9
      go_wp2_with (first
        | (refine wpList_load_row rfl 47 (.tmp 2) rfl p rfl 47 _ (0, 0) _ HP9.out Tryd.underlying47 rfl (info_cell.trans rfl) ?_)
        | (refine wpList_store_row rfl 47 (.tmp 4) (.tmp 39) rfl q D9.arr rfl rfl 47 _ HQ9.out (info_cell.trans rfl) rfl (CeD.one _) ?_))
      refine bodyPost_ret (v := .agg D9.arr) (results_cell_row (p := 4) (ty := 47) rfl _ _ q 47 _ (0, 0) _ rfl (setRow_heap W9 q _ _ _ _ HQ9.out) Tryd.underlying47 rfl (info_cell.trans rfl)) rfl ?_
      exact ⟨by rw [HN.out] <;> rfl, below_setRow HB9.out HPQ.out.2.1 _⟩
    have d0 : (d.w != 0) = true := bne_iff_ne.2 hz
    by_cases h2 : d.w = 2
    · have d2 : (d.w == 2) = true := beq_iff_eq.2 h2
      go_upto_region 9 with (fail)
      obtain ⟨D9, eD9⟩ : ∃ D : CeD, D = ⟨32, 0, fitC col tru d.fg, fitC col tru d.bg, d.at_, d.ln⟩ := ⟨_, rfl⟩
      obtain ⟨W9, eW9⟩ : ∃ W9, W9 = (W4.setCell ⟨p, 0, none⟩ (.int .i32 32)).setCell ⟨p, 1, none⟩ (.int .u8 0) := ⟨_, rfl⟩
      rw [← eW9]
      have HP9 : Hid (W9.heap[p]? = some (.cells D9.arr 47 (0, 0))) := Lib.hid (by rw [eW9, heap_set (heap_set HP4.out 0 _) 1 _, ED4.out, eD9]; rfl)
      have HQ9 : Hid (W9.heap[q]? = some (.cells (CeD.arr ⟨0, 0, 0, 0, 0, 0⟩) 47 (0, 0))) := Lib.hid (by rw [eW9]; exact (heap_far _ (Ne.symm HPQ.out.2.2)).trans ((heap_far _ (Ne.symm HPQ.out.2.2)).trans HQ4.out))
      have HB9 : Hid (Below w.heap.size w W9) := Lib.hid (by rw [eW9]; exact below_set (below_set HB4.out p _ _ HPQ.out.1) p _ _ HPQ.out.1)
      have HN : Hid (N = D9) := Lib.hid (by rw [EN.out, eD9]; simp [hz, h2])
      clear eD9 eW9
      go_wp2_with (first
        | (refine wpList_load_row rfl 47 (.tmp 2) rfl p rfl 47 _ (0, 0) _ HP9.out Tryd.underlying47 rfl (info_cell.trans rfl) ?_)
        | (refine wpList_store_row rfl 47 (.tmp 4) (.tmp 39) rfl q D9.arr rfl rfl 47 _ HQ9.out (info_cell.trans rfl) rfl (CeD.one _) ?_))
      refine bodyPost_ret (v := .agg D9.arr) (results_cell_row (p := 4) (ty := 47) rfl _ _ q 47 _ (0, 0) _ rfl (setRow_heap W9 q _ _ _ _ HQ9.out) Tryd.underlying47 rfl (info_cell.trans rfl)) rfl ?_
      exact ⟨by rw [HN.out] <;> rfl, below_setRow HB9.out HPQ.out.2.1 _⟩
    · have d2 : (d.w == 2) = false := beq_eq_false_iff_ne.2 h2
      go_upto_region 9 with (fail)
      obtain ⟨D9, eD9⟩ : ∃ D : CeD, D = ⟨63, 0, fitC col tru d.fg, fitC col tru d.bg, d.at_, d.ln⟩ := ⟨_, rfl⟩
      obtain ⟨W9, eW9⟩ : ∃ W9, W9 = (W4.setCell ⟨p, 0, none⟩ (.int .i32 63)).setCell ⟨p, 1, none⟩ (.int .u8 0) := ⟨_, rfl⟩
      rw [← eW9]
      have HP9 : Hid (W9.heap[p]? = some (.cells D9.arr 47 (0, 0))) := Lib.hid (by rw [eW9, heap_set (heap_set HP4.out 0 _) 1 _, ED4.out, eD9]; rfl)
      have HQ9 : Hid (W9.heap[q]? = some (.cells (CeD.arr ⟨0, 0, 0, 0, 0, 0⟩) 47 (0, 0))) := Lib.hid (by rw [eW9]; exact (heap_far _ (Ne.symm HPQ.out.2.2)).trans ((heap_far _ (Ne.symm HPQ.out.2.2)).trans HQ4.out))
      have HB9 : Hid (Below w.heap.size w W9) := Lib.hid (by rw [eW9]; exact below_set (below_set HB4.out p _ _ HPQ.out.1) p _ _ HPQ.out.1)
      have HN : Hid (N = D9) := Lib.hid (by rw [EN.out, eD9]; simp [hz, h2])
      clear eD9 eW9
      go_wp2_with (first
        | (refine wpList_load_row rfl 47 (.tmp 2) rfl p rfl 47 _ (0, 0) _ HP9.out Tryd.underlying47 rfl (info_cell.trans rfl) ?_)
        | (refine wpList_store_row rfl 47 (.tmp 4) (.tmp 39) rfl q D9.arr rfl rfl 47 _ HQ9.out (info_cell.trans rfl) rfl (CeD.one _) ?_))
      refine bodyPost_ret (v := .agg D9.arr) (results_cell_row (p := 4) (ty := 47) rfl _ _ q 47 _ (0, 0) _ rfl (setRow_heap W9 q _ _ _ _ HQ9.out) Tryd.underlying47 rfl (info_cell.trans rfl)) rfl ?_
      exact ⟨by rw [HN.out] <;> rfl, below_setRow HB9.out HPQ.out.2.1 _⟩
end Go.Proofs.YtipofokinjkclaaDoor
