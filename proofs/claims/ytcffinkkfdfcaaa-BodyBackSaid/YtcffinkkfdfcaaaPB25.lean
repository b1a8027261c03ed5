/- Parts one behind the other: What GetSelect answers; What GetConfirm answers. Conditions: as told at each. -/
import Derived.Test.YtcffinkkfdfcaaaPB17

set_option linter.unusedVariables false
set_option linter.unusedSimpArgs false
/- What GetSelect answers. Conditions: bytes that can be read. -/
namespace Go.Proofs.Ytcffinkkfdfcaaa
open Go Go.RowKit

set_option maxRecDepth 100000 in
set_option maxHeartbeats 4000000 in
theorem GetSelect_c (bs : List UInt8) (A : Option Addr) (n c : Nat) (w : World) (hn : bs.length = n) (hr : Rd w A (bs.map bv)) (hl : n ≤ 140737488355328) :
    Calls Try.prog 23 #[.slice A n c] w fun r w' => r = .returned (.tuple #[(selR bs).val, .int .i64 (selE bs : Int)]) ∧ Below w.heap.size w w' := by
  have HN := Lib.hid hn
  have hmf : ∀ (fn : Fn) (first cap : Array Value) (w : World), (Instr.makeFunc fn first cap).run Try.prog w = .ok (.func fn first cap) w := fun _ _ _ _ => rfl
  obtain ⟨w1, ew1⟩ : ∃ w1, w1 = w.alloc (.cells #[.int .i64 0, .int .u32 0, .int .i64 0, .int .u32 0, .int .u8 0, .int .u8 0, .int .u8 0, .int .u8 0, .int .u8 0, .int .u8 0, .int .u8 0, .int .u8 0, .int .u8 0, .int .u8 0, .int .u8 0, .int .u8 0, .int .u8 0, .int .u8 0, .int .u8 0, .int .u8 0, .int .u8 0, .int .u8 0, .int .u8 0, .int .u8 0, .int .u8 0, .int .u8 0, .int .u8 0, .int .u8 0, .int .u8 0, .int .u8 0, .int .u8 0, .int .u8 0, .int .u8 0, .int .u8 0, .int .u8 0, .int .u8 0, .int .u8 0, .int .u8 0, .int .u8 0, .int .u8 0, .int .u8 0, .int .u8 0, .int .u8 0, .int .u8 0, .int .u8 0, .int .u8 0, .int .u8 0, .int .u8 0, .int .u8 0, .int .u8 0, .int .u8 0, .int .u8 0] 49) := ⟨_, rfl⟩
  obtain ⟨gr, egr⟩ : ∃ gr, gr = w.heap.size := ⟨_, rfl⟩
  have b1 : Below w.heap.size w w1 := by rw [ew1]; exact (Below.refl _ _).alloc (Nat.le_refl _) _
  have HG1 : Hid (w1.heap[gr]? = some (.cells (selC 0 0 0 0 (zerB 16) (zerB 32)).toArray 49 (0, 0))) := Lib.hid (by rw [ew1, egr, ← sel_zero]; exact heap_alloc_new _ _)
  have HR1 := Lib.hid (hr.below b1)
  have HB1 := Lib.hid b1
  have EW1 := Lib.hid ew1
  have EGR := Lib.hid egr
  obtain ⟨E, eE⟩ : ∃ E, selE bs = E := ⟨_, rfl⟩
  obtain ⟨R, eR⟩ : ∃ R, selR bs = R := ⟨_, rfl⟩
  rw [eE, eR]
  have HE := Lib.hid eE
  have HRR := Lib.hid eR
  clear ew1 egr b1 hn hr eE eR
  go_enter Try.func23, Try.ntmps23
  go_upto_region 1 with (fail)
  rw [← EW1.out, ← EGR.out]
  go_wp2_with (fail)
  refine (open_c bs A n c 6 w1 HN.out HR1.out hl (by decide)).mono ?_
  rintro _ w2 ⟨p, A', n', c', rfl, hp, hf, hb⟩
  have HF2 : Hid (Flds w2 p A' n' c' (selS1 bs)) := Lib.hid hf
  have HG2 := Lib.hid ((hb.block gr (heap_lt HG1.out)).trans HG1.out)
  have HB2 := Lib.hid (HB1.out.trans (hb.mono HB1.out.size))
  have HP : Hid (w.heap.size < p ∧ gr ≠ p) := Lib.hid (by have := heap_lt HG1.out; have := EGR.out; omega)
  clear hp hf hb
  go_upto_region 3 with (fail)
  obtain ⟨Z0, eZ⟩ : ∃ Z0, (selC 0 0 0 0 (zerB 16) (zerB 32)).toArray = Z0 := ⟨_, rfl⟩
  have HZ := Lib.hid eZ
  have HZI : Hid ((Try.prog.info? 49).map (·.size) = some Z0.size) := Lib.hid (by rw [← eZ]; exact info_sel.trans rfl)
  have HZS : Hid ((selC 0 0 0 0 (zerB 16) (zerB 32)).toArray.size = Z0.size) := Lib.hid (by rw [← eZ])
  have HZO : Hid (Z0.all (·.oneCell') = true) := Lib.hid (by rw [← eZ]; exact sel_one _ _ _ _ _ _)
  obtain ⟨w3, ew3⟩ : ∃ w3, w3 = (w2.alloc (.cells #[.int .i64 0, .int .u32 0, .int .i64 0, .int .u32 0, .int .u8 0, .int .u8 0, .int .u8 0, .int .u8 0, .int .u8 0, .int .u8 0, .int .u8 0, .int .u8 0, .int .u8 0, .int .u8 0, .int .u8 0, .int .u8 0, .int .u8 0, .int .u8 0, .int .u8 0, .int .u8 0, .int .u8 0, .int .u8 0, .int .u8 0, .int .u8 0, .int .u8 0, .int .u8 0, .int .u8 0, .int .u8 0, .int .u8 0, .int .u8 0, .int .u8 0, .int .u8 0, .int .u8 0, .int .u8 0, .int .u8 0, .int .u8 0, .int .u8 0, .int .u8 0, .int .u8 0, .int .u8 0, .int .u8 0, .int .u8 0, .int .u8 0, .int .u8 0, .int .u8 0, .int .u8 0, .int .u8 0, .int .u8 0, .int .u8 0, .int .u8 0, .int .u8 0, .int .u8 0] 49)).setRow w2.heap.size Z0 := ⟨_, rfl⟩
  obtain ⟨g5, eg5⟩ : ∃ g5, g5 = w2.heap.size := ⟨_, rfl⟩
  have b3 : Below w2.heap.size w2 w3 := by rw [ew3]; exact below_setRow ((Below.refl _ _).alloc (Nat.le_refl _) _) (Nat.le_refl _) _
  have hh3 : w3.heap[g5]? = some (.cells (selC 0 0 0 0 (zerB 16) (zerB 32)).toArray 49 (0, 0)) := by rw [ew3, eg5, HZ.out]; exact setRow_heap _ _ _ _ _ _ (heap_alloc_new w2 _)
  have EW3 := Lib.hid ew3
  have EG5 := Lib.hid eg5
  have HF3 := Lib.hid (HF2.out.below b3)
  have HH3 := Lib.hid hh3
  have HG3 := Lib.hid ((b3.block gr (heap_lt HG2.out)).trans HG2.out)
  have HB3 := Lib.hid (HB2.out.trans (b3.mono HB2.out.size))
  have HQ : Hid (gr < g5 ∧ p < g5 ∧ w.heap.size ≤ g5 ∧ g5 ≠ p) := Lib.hid (by have := heap_lt HG2.out; have := HF2.out.lt; have := HB2.out.size; omega)
  have KP3 : Keeps (fun j => j = p) w2 w3 := Keeps.of_below b3 _ (fun k hk _ => hk)
  clear eZ ew3 eg5 b3 hh3 HG2 HB2
  go_upto_region 4 with (first
    | (refine wpList_buildTo rfl 49 #[] rfl _ rfl Z0 (by rw [HZ.out.symm]; kernel_rfl) ?_; trace "B")
    | (refine wpList_store_row rfl 49 (.tmp 7) (.tmp 14) rfl w2.heap.size Z0 rfl rfl 49 _ ((heap_alloc_new w2 _).trans (congrArg (fun x => some (Obj.cells x 49 (0, 0))) sel_zero)) HZI.out HZS.out HZO.out ?_; trace "S"))
  rw [← EW3.out, ← EG5.out]
  have KK3 : Hid (Keeps (fun j => j = p) w2 w3) := Lib.hid KP3
  clear KP3
  go_wp2_with (fail)
  refine (one_c p A' n' c' (selS1 bs) w3 HF3.out (by rw [selS1_at]; decide)).mono ?_
  rintro _ w4 ⟨rfl, hf, hk⟩
  have HF4 : Hid (Flds w4 p A' n' c' (selS2 bs)) := Lib.hid hf
  have KK4 := Lib.hid (KK3.out.trans hk)
  have HG4 := Lib.hid ((hk.block gr (heap_lt HG3.out) HP.out.2).trans HG3.out)
  have HH4 := Lib.hid ((hk.block g5 (heap_lt HH3.out) HQ.out.2.2.2).trans HH3.out)
  have HB4 := Lib.hid (keepsP_b HB3.out hk (Nat.le_of_lt HP.out.1) (Nat.le_refl _))
  clear hf hk HF3 HG3 HH3 HB3 KK3
  obtain ⟨V, hV⟩ : ∃ M, oneN (selS1 bs) = M := ⟨_, rfl⟩
  rw [hV]
  have EV := Lib.hid hV
  clear hV
  go_wp2_with (fail)
  refine (four_c p A' n' c' (selS2 bs) w4 HF4.out (by rw [selS2_at]; decide)).mono ?_
  rintro _ w5 ⟨rfl, hf, hk⟩
  have HF5 : Hid (Flds w5 p A' n' c' (selS3 bs)) := Lib.hid hf
  have KK5 := Lib.hid (KK4.out.trans hk)
  have HG5 := Lib.hid ((hk.block gr (heap_lt HG4.out) HP.out.2).trans HG4.out)
  have HH5 := Lib.hid ((hk.block g5 (heap_lt HH4.out) HQ.out.2.2.2).trans HH4.out)
  have HB5 := Lib.hid (keepsP_b HB4.out hk (Nat.le_of_lt HP.out.1) (Nat.le_refl _))
  clear hf hk HF4 HG4 HH4 HB4 KK4
  obtain ⟨F1, hV⟩ : ∃ M, fourN (selS2 bs) = M := ⟨_, rfl⟩
  rw [hV]
  have EF1 := Lib.hid hV
  clear hV
  have hf : w5.frozen? ⟨g5, 0, none⟩ = false := heap_free HH5.out 0
  have hg : w5.frozen? ⟨g5, 1, none⟩ = false := heap_free HH5.out 1
  have hc : w5.cell? ⟨g5, 0, none⟩ = some _ := (heap_cell HH5.out 0).trans rfl
  have hd : w5.cell? ⟨g5, 1, none⟩ = some _ := (heap_cell HH5.out 1).trans rfl
  go_upto_region 5 with (fail)
  obtain ⟨w6, ew⟩ : ∃ w', w' = (w5.setCell ⟨g5, 0, none⟩ (.int .i64 (V : Int))).setCell ⟨g5, 1, none⟩ (.int .u32 (F1 : Int)) := ⟨_, rfl⟩
  rw [← ew]
  have kg : Keeps (fun j => j = g5) w5 w6 := by rw [ew]; exact (Keeps.set (fun j => j = g5) w5 ⟨g5, 0, none⟩ _ rfl).trans (Keeps.set (fun j => j = g5) _ ⟨g5, 1, none⟩ _ rfl)
  have hh : w6.heap[g5]? = some (.cells (selC V F1 0 0 (zerB 16) (zerB 32)).toArray 49 (0, 0)) := by rw [ew]; exact (heap_set (heap_set HH5.out 0 _) 1 _).trans (by simp [selC])
  have kn : Keeps (fun j => w2.heap.size ≤ j) w5 w6 := kg.mono (fun j e => by rw [e, EG5.out]; exact Nat.le_refl _)
  have HF6 : Hid (Flds w6 p A' n' c' (selS3 bs)) := Lib.hid (HF2.out.far2 HF5.out KK5.out (selS3_l bs) kn (kg.block p HF5.out.lt (fun e => HQ.out.2.2.2 e.symm)))
  have KK6 := Lib.hid (KK5.out.over kn)
  have HG6 := Lib.hid ((kg.block gr (heap_lt HG5.out) (by have := HQ.out.1; omega)).trans HG5.out)
  have HH6 := Lib.hid hh
  have HB6 : Hid (Below w.heap.size w w6) := Lib.hid (HB5.out.trans (kg.below (fun k hk => ⟨Nat.lt_of_lt_of_le hk HB5.out.size, by have := HQ.out.2.2.1; omega⟩)))
  clear hf hg hc hd ew kg hh kn HF5 KK5 HG5 HH5 HB5
  go_wp2_with (fail)
  refine (one_c p A' n' c' (selS3 bs) w6 HF6.out (by rw [selS3_at]; decide)).mono ?_
  rintro _ w7 ⟨rfl, hf, hk⟩
  have HF7 : Hid (Flds w7 p A' n' c' (selS4 bs)) := Lib.hid hf
  have KK7 := Lib.hid (KK6.out.trans hk)
  have HG7 := Lib.hid ((hk.block gr (heap_lt HG6.out) HP.out.2).trans HG6.out)
  have HH7 := Lib.hid ((hk.block g5 (heap_lt HH6.out) HQ.out.2.2.2).trans HH6.out)
  have HB7 := Lib.hid (keepsP_b HB6.out hk (Nat.le_of_lt HP.out.1) (Nat.le_refl _))
  clear hf hk HF6 HG6 HH6 HB6 KK6
  obtain ⟨M, hV⟩ : ∃ M, oneN (selS3 bs) = M := ⟨_, rfl⟩
  rw [hV]
  have EM := Lib.hid hV
  clear hV
  go_wp2_with (fail)
  refine (four_c p A' n' c' (selS4 bs) w7 HF7.out (by rw [selS4_at]; decide)).mono ?_
  rintro _ w8 ⟨rfl, hf, hk⟩
  have HF8 : Hid (Flds w8 p A' n' c' (selS5 bs)) := Lib.hid hf
  have KK8 := Lib.hid (KK7.out.trans hk)
  have HG8 := Lib.hid ((hk.block gr (heap_lt HG7.out) HP.out.2).trans HG7.out)
  have HH8 := Lib.hid ((hk.block g5 (heap_lt HH7.out) HQ.out.2.2.2).trans HH7.out)
  have HB8 := Lib.hid (keepsP_b HB7.out hk (Nat.le_of_lt HP.out.1) (Nat.le_refl _))
  clear hf hk HF7 HG7 HH7 HB7 KK7
  obtain ⟨F2, hV⟩ : ∃ M, fourN (selS4 bs) = M := ⟨_, rfl⟩
  rw [hV]
  have EF2 := Lib.hid hV
  clear hV
  have hf : w8.frozen? ⟨g5, 2, none⟩ = false := heap_free HH8.out 2
  have hg : w8.frozen? ⟨g5, 3, none⟩ = false := heap_free HH8.out 3
  have hc : w8.cell? ⟨g5, 2, none⟩ = some _ := (heap_cell HH8.out 2).trans rfl
  have hd : w8.cell? ⟨g5, 3, none⟩ = some _ := (heap_cell HH8.out 3).trans rfl
  go_upto_region 6 with (fail)
  obtain ⟨w9, ew⟩ : ∃ w', w' = (w8.setCell ⟨g5, 2, none⟩ (.int .i64 (M : Int))).setCell ⟨g5, 3, none⟩ (.int .u32 (F2 : Int)) := ⟨_, rfl⟩
  rw [← ew]
  have kg : Keeps (fun j => j = g5) w8 w9 := by rw [ew]; exact (Keeps.set (fun j => j = g5) w8 ⟨g5, 2, none⟩ _ rfl).trans (Keeps.set (fun j => j = g5) _ ⟨g5, 3, none⟩ _ rfl)
  have hh : w9.heap[g5]? = some (.cells (selC V F1 M F2 (zerB 16) (zerB 32)).toArray 49 (0, 0)) := by rw [ew]; exact (heap_set (heap_set HH8.out 2 _) 3 _).trans (by simp [selC])
  have kn : Keeps (fun j => w2.heap.size ≤ j) w8 w9 := kg.mono (fun j e => by rw [e, EG5.out]; exact Nat.le_refl _)
  have HF9 : Hid (Flds w9 p A' n' c' (selS5 bs)) := Lib.hid (HF2.out.far2 HF8.out KK8.out (selS5_l bs) kn (kg.block p HF8.out.lt (fun e => HQ.out.2.2.2 e.symm)))
  have KK9 := Lib.hid (KK8.out.over kn)
  have HG9 := Lib.hid ((kg.block gr (heap_lt HG8.out) (by have := HQ.out.1; omega)).trans HG8.out)
  have HH9 := Lib.hid hh
  have HB9 : Hid (Below w.heap.size w w9) := Lib.hid (HB8.out.trans (kg.below (fun k hk => ⟨Nat.lt_of_lt_of_le hk HB8.out.size, by have := HQ.out.2.2.1; omega⟩)))
  clear hf hg hc hd ew kg hh kn HF8 KK8 HG8 HH8 HB8
  obtain ⟨NC, hNC⟩ : ∃ NC, byB (selS5 bs) 16 = NC := ⟨_, rfl⟩
  have HLNC : Hid (NC.length = 16) := Lib.hid (by rw [← hNC]; exact byB_len _ _)
  have HNM : Hid ((NC.map bv).length = Nat.min 16 16) := Lib.hid (by rw [List.length_map, HLNC.out]; rfl)
  have HFT : Hid (4 + (NC.map bv).length ≤ (selC V F1 M F2 (zerB 16) (zerB 32)).length) := Lib.hid (by rw [HNM.out]; simp [selC, zerB])
  have HSP : Hid (splice (selC V F1 M F2 (zerB 16) (zerB 32)) 4 (NC.map bv) = selC V F1 M F2 NC (zerB 32)) := Lib.hid (sel_splice1 _ _ _ _ _ _ _ HLNC.out (by simp [zerB]))
  have ENC := Lib.hid hNC
  clear hNC
  go_upto_region 6 with (fail)
  go_region_held3 (fun _ => True) (trivial) (first
    | (go_at_call 50; refine (bytes_c p A' n' c' (selS5 bs) 16 (by decide) w9.drew (HF9.out.drewN 1) (by rw [selS5_at]; decide)).mono ?_; rintro _ w10 ⟨Ab, cb, rfl, ht, hf, hk⟩; have hk6 := ((Keeps.refl (fun j => j = p) w9).drewN 1).trans hk; have KK10 := Lib.hid (KK9.out.trans hk6); have HF10 : Hid (Flds w10 p A' n' c' (selS6 bs)) := Lib.hid hf; have HG10 := Lib.hid ((hk6.block gr (heap_lt HG9.out) HP.out.2).trans HG9.out); have HB10 := Lib.hid (keepsP_b HB9.out hk6 (Nat.le_of_lt HP.out.1) (Nat.le_refl _)); have HH10 := Lib.hid ((hk6.block g5 (heap_lt HH9.out) HQ.out.2.2.2).trans HH9.out); have RB10 : Hid (Rd w10 Ab (NC.map bv)) := Lib.hid (by rw [← ENC.out]; exact ht.r.2.1); clear ht hf hk hk6)
    | (refine step_copy_splice rfl (.tmp 32) (.tmp 34) 25 25 rfl 5 Try.underlying25 (by kernel_rfl) _ _ 16 16 16 cb rfl rfl g5 4 (selC V F1 M F2 (zerB 16) (zerB 32)) 49 HH10.out (NC.map bv) HNM.out (fun hp => ⟨rfl, copy_src RB10.out hp⟩) HFT.out (bv_one _) g5 w10 (Below.refl _ _) (Nat.le_refl _) ?_; rw [HSP.out]; intro w11 hg7 hb7; have HB67 := Lib.hid hb7; clear hb7))
  have HH11 := Lib.hid hg7.out
  have kn : Keeps (fun j => w2.heap.size ≤ j) w10 w11 := Keeps.of_below HB67.out _ (fun k _ hk => by rw [EG5.out]; omega)
  have HF11 : Hid (Flds w11 p A' n' c' (selS6 bs)) := Lib.hid (HF2.out.far2 HF10.out KK10.out (selS6_l bs) kn (HB67.out.block p (by have := HQ.out; omega)))
  have KK11 := Lib.hid (KK10.out.over kn)
  have HG11 := Lib.hid ((HB67.out.block gr (by have := HQ.out; omega)).trans HG10.out)
  have HB11 := Lib.hid (HB10.out.trans (HB67.out.mono HQ.out.2.2.1))
  clear hg7 kn HB67 HF10 KK10 HG10 HH10 HB10 RB10 HF9 KK9 HG9 HH9 HB9 HNM HFT HSP
  obtain ⟨CF, hNC⟩ : ∃ NC, byB (selS6 bs) 32 = NC := ⟨_, rfl⟩
  have HLCF : Hid (CF.length = 32) := Lib.hid (by rw [← hNC]; exact byB_len _ _)
  have HNM : Hid ((CF.map bv).length = Nat.min 32 32) := Lib.hid (by rw [List.length_map, HLCF.out]; rfl)
  have HFT : Hid (20 + (CF.map bv).length ≤ (selC V F1 M F2 NC (zerB 32)).length) := Lib.hid (by rw [HNM.out]; simp [selC, zerB, HLNC.out])
  have HSP : Hid (splice (selC V F1 M F2 NC (zerB 32)) 20 (CF.map bv) = selC V F1 M F2 NC CF) := Lib.hid (sel_splice2 _ _ _ _ _ _ _ HLNC.out HLCF.out (by simp [zerB]))
  have ECF := Lib.hid hNC
  clear hNC
  go_upto_region 7 with (fail)
  go_region_held3 (fun _ => True) (trivial) (first
    | (go_at_call 50; refine (bytes_c p A' n' c' (selS6 bs) 32 (by decide) w11.drew (HF11.out.drewN 1) (by rw [selS6_at]; decide)).mono ?_; rintro _ w12 ⟨Ab, cb, rfl, ht, hf, hk⟩; have hk6 := ((Keeps.refl (fun j => j = p) w11).drewN 1).trans hk; have KK12 := Lib.hid (KK11.out.trans hk6); have HF12 : Hid (Flds w12 p A' n' c' (selS7 bs)) := Lib.hid hf; have HG12 := Lib.hid ((hk6.block gr (heap_lt HG11.out) HP.out.2).trans HG11.out); have HB12 := Lib.hid (keepsP_b HB11.out hk6 (Nat.le_of_lt HP.out.1) (Nat.le_refl _)); have HH12 := Lib.hid ((hk6.block g5 (heap_lt HH11.out) HQ.out.2.2.2).trans HH11.out); have RB12 : Hid (Rd w12 Ab (CF.map bv)) := Lib.hid (by rw [← ECF.out]; exact ht.r.2.1); clear ht hf hk hk6)
    | (refine step_copy_splice rfl (.tmp 37) (.tmp 39) 25 25 rfl 5 Try.underlying25 (by kernel_rfl) _ _ 32 32 32 cb rfl rfl g5 20 (selC V F1 M F2 NC (zerB 32)) 49 HH12.out (CF.map bv) HNM.out (fun hp => ⟨rfl, copy_src RB12.out hp⟩) HFT.out (bv_one _) g5 w12 (Below.refl _ _) (Nat.le_refl _) ?_; rw [HSP.out]; intro w13 hg7 hb7; have HB67 := Lib.hid hb7; clear hb7))
  have HH13 := Lib.hid hg7.out
  have kn : Keeps (fun j => w2.heap.size ≤ j) w12 w13 := Keeps.of_below HB67.out _ (fun k _ hk => by rw [EG5.out]; omega)
  have HF13 : Hid (Flds w13 p A' n' c' (selS7 bs)) := Lib.hid (HF2.out.far2 HF12.out KK12.out (selS7_l bs) kn (HB67.out.block p (by have := HQ.out; omega)))
  have KK13 := Lib.hid (KK12.out.over kn)
  have HG13 := Lib.hid ((HB67.out.block gr (by have := HQ.out; omega)).trans HG12.out)
  have HB13 := Lib.hid (HB12.out.trans (HB67.out.mono HQ.out.2.2.1))
  clear hg7 kn HB67 HF12 KK12 HG12 HH12 HB12 RB12 HF11 KK11 HG11 HH11 HB11 HNM HFT HSP
  have a0 : w13.cell? ⟨g5, 0, none⟩ = some (.int .i64 (V : Int)) := (heap_cell HH13.out 0).trans rfl
  have a1 : w13.cell? ⟨g5, 1, none⟩ = some (.int .u32 (F1 : Int)) := (heap_cell HH13.out 1).trans rfl
  have hF1 : F1 < 4294967296 := by rw [← EF1.out, fourN]; have := beN_lt (byB (selS2 bs) 4); rw [byB_len] at this; exact this
  have HFF := Lib.hid hF1
  clear hF1 KK13
  go_wp2_with (fail)
  refine (featMay_c (V : Int) F1 HFF.out w13).mono ?_
  rintro _ w14 ⟨rfl, hb⟩
  obtain ⟨O1, hO⟩ : ∃ O, mayF (V : Int) F1 = O := ⟨_, rfl⟩
  rw [hO]
  have HO1 := Lib.hid hO
  clear hO a0 a1
  have HF14 := Lib.hid (HF13.out.below hb)
  have HG14 := Lib.hid ((hb.block gr (heap_lt HG13.out)).trans HG13.out)
  have HH14 := Lib.hid ((hb.block g5 (heap_lt HH13.out)).trans HH13.out)
  have HB14 := Lib.hid (HB13.out.trans (hb.mono HB13.out.size))
  clear hb HF13 HG13 HH13 HB13
  cases O1 with
  | false =>
    have HS8 : Hid (selS8 bs = badS (selS7 bs) true) := Lib.hid (by unfold selS8 selB; rw [EV.out, EF1.out, HO1.out]; rfl)
    go_wp2_with (fail)
    refine (bad_c p A' n' c' (selS7 bs) true w14 HF14.out).mono ?_
    rintro _ w16 ⟨rfl, hf9, hk9, -⟩
    have hb9 : (badS (selS7 bs) true).err = E := by rw [← HE.out]; unfold selE; rw [HS8.out]
    obtain ⟨⟨c0, c1, c2⟩, -⟩ := three_of hf9.blk
    rw [hb9] at c2
    have HG16 := Lib.hid ((hk9.block gr (heap_lt HG14.out) HP.out.2).trans HG14.out)
    have HH16 := Lib.hid ((hk9.block g5 (heap_lt HH14.out) HQ.out.2.2.2).trans HH14.out)
    have HB16 := Lib.hid (keepsP_b HB14.out hk9 (Nat.le_of_lt HP.out.1) (Nat.le_refl _))
    have hpw : p < w16.drew.heap.size := hf9.lt
    clear hf9 hk9 hb9 HF14 HG14 HH14 HB14
    have HI : Hid ((Try.prog.info? 49).map (·.size) = some (selC V F1 M F2 NC CF).toArray.size) := Lib.hid (info_sel.trans (sel_size HLNC.out HLCF.out))
    have HSZ2 : Hid ((selC 0 0 0 0 (zerB 16) (zerB 32)).toArray.size = (selC V F1 M F2 NC CF).toArray.size) := Lib.hid (by simp [selC, zerB, HLNC.out, HLCF.out])
    by_cases h0 : E = 0
    · have d0 : ((E : Int) != 0) = false := by rw [h0]; rfl
      have eR : R = ⟨V, F1, M, F2, NC, CF⟩ := by rw [← HRR.out]; unfold selR; rw [if_pos (HE.out.trans h0), EV.out, EF1.out, EM.out, EF2.out, ENC.out, ECF.out]
      have ER := Lib.hid eR
      have E0 := Lib.hid h0
      clear eR h0 hpw
      go_wp2_with (first
        | (refine wpList_load_row rfl 49 (.tmp 7) rfl g5 rfl 49 _ (0, 0) _ HH16.out Try.underlying49 rfl HI.out ?_)
        | (refine wpList_store_row rfl 49 (.tmp 2) (.tmp 63) rfl gr (selC V F1 M F2 NC CF).toArray rfl rfl 49 _ HG16.out HI.out HSZ2.out (sel_one _ _ _ _ _ _) ?_))
      have HBF := Lib.hid (below_setRow (g := gr) HB16.out (Nat.le_of_eq EGR.out.symm) (selC V F1 M F2 NC CF).toArray)
      refine bodyPost_ret (v := .tuple #[.agg (selC V F1 M F2 NC CF).toArray, .int .i64 0]) (sel_results _ gr 49 _ (0, 0) 0 rfl rfl _ (setRow_heap w16 gr _ _ _ _ HG16.out) HI.out) rfl ?_
      rw [ER.out, E0.out]
      exact ⟨rfl, HBF.out⟩
    · have d0 : ((E : Int) != 0) = true := by rw [bne_iff_ne]; omega
      have eR : R = selZ := by rw [← HRR.out]; unfold selR; rw [if_neg (by rw [HE.out]; exact h0)]
      have ER := Lib.hid eR
      clear eR h0
      go_upto_region 10 with (fail)
      have HNE : Hid (p ≠ gr) := Lib.hid (Ne.symm HP.out.2)
      refine wp_region_rv 64 (Zg gr (.cells ((selC 0 0 0 0 (zerB 16) (zerB 32)).toArray) 49 (0, 0))) [(.agg (selC 0 0 0 0 (zerB 16) (zerB 32)).toArray), .pointer (some ⟨p, 0, none⟩), .pointer (some ⟨p, 0, none⟩), .pointer (some ⟨p, 2, none⟩), .int .i64 (E : Int), undef, .int .i64 (E : Int)] [58, 59, 60, 61, 62, 3] (by kernel_rfl) rfl (by kernel_rfl) (by kernel_rfl) (Zg.refl _ _) Zg.trans ?_ ?_
      · repeat (first | exact AllFrom.nil_ | (refine AllFrom.cons_ (by rfl) ?_ ?_; rotate_left))
        · intro f w' g hF hD
          rw [if_pos (wanted_none rfl)]
          clear hF hD
          exact gives_build 49 #[] rfl ((selC 0 0 0 0 (zerB 16) (zerB 32)).toArray) (by kernel_rfl) ⟨Zg.refl _ _ _, rfl⟩
        · intro f w' g hF hD
          have h4 : f 4 = .pointer (some ⟨p, 0, none⟩) := hF 4 (by kernel_rfl)
          rw [if_pos (wanted_none rfl)]
          clear hF hD
          exact gives_val (by simp only [execOp, evF, h4]; first | rfl | go_simp) ⟨Zg.refl _ _ _, rfl⟩
        · intro f w' g hF hD
          have h59 : f 59 = .pointer (some ⟨p, 0, none⟩) := hD 1 59 (by kernel_rfl) rfl
          rw [if_pos (wanted_none rfl)]
          clear hF hD
          exact gives_val (by simp only [execOp, evF, h59]; first | rfl | go_simp) ⟨Zg.refl _ _ _, rfl⟩
        · intro f w' g hF hD
          have h60 : f 60 = .pointer (some ⟨p, 0, none⟩) := hD 2 60 (by kernel_rfl) rfl
          rw [if_pos (wanted_none rfl)]
          clear hF hD
          exact gives_val (by simp only [execOp, evF, h60]; first | rfl | go_simp) ⟨Zg.refl _ _ _, rfl⟩
        · intro f w' g hF hD
          have h61 : f 61 = .pointer (some ⟨p, 2, none⟩) := hD 3 61 (by kernel_rfl) rfl
          rw [if_pos (wanted_none rfl)]
          clear hF hD
          have cl := g.cell (p := p) (i := 2) HNE.out hpw c2
          exact gives_val (by simp only [execOp, evF, h61]; go_simp) ⟨Zg.refl _ _ _, rfl⟩
        · intro f w' g hF hD
          have h2 : f 2 = .pointer (some ⟨gr, 0, none⟩) := hF 2 (by kernel_rfl)
          have h58 : f 58 = (.agg (selC 0 0 0 0 (zerB 16) (zerB 32)).toArray) := hD 0 58 (by kernel_rfl) rfl
          rw [if_pos (wanted_none rfl)]
          clear hF hD
          exact gives_store_row 49 (.tmp 2) (.tmp 58) rfl gr ((selC 0 0 0 0 (zerB 16) (zerB 32)).toArray) (by simp only [evF, h2]) (by simp only [evF, h58]) 49 ((selC 0 0 0 0 (zerB 16) (zerB 32)).toArray) (g.2 HG16.out) (info_sel.trans rfl) rfl (sel_one _ _ _ _ _ _) ⟨Zg.row (g.2 HG16.out), rfl⟩
        · intro f w' g hF hD
          have h62 : f 62 = .int .i64 (E : Int) := hD 4 62 (by kernel_rfl) rfl
          rw [if_pos (wanted_none rfl)]
          clear hF hD
          exact gives_val (by simp only [execOp, evF, h62]; first | rfl | go_simp) ⟨Zg.refl _ _ _, rfl⟩
      intro f' w10 g hD
      have h58 : f' 58 = (.agg (selC 0 0 0 0 (zerB 16) (zerB 32)).toArray) := hD 0 58 rfl
      have h59 : f' 59 = .pointer (some ⟨p, 0, none⟩) := hD 1 59 rfl
      have h60 : f' 60 = .pointer (some ⟨p, 0, none⟩) := hD 2 60 rfl
      have h61 : f' 61 = .pointer (some ⟨p, 2, none⟩) := hD 3 61 rfl
      have h62 : f' 62 = .int .i64 (E : Int) := hD 4 62 rfl
      have h3 : f' 3 = .int .i64 (E : Int) := hD 6 3 rfl
      simp only [putAll, List.setIfInBounds_toArray, List.set_cons_zero, List.set_cons_succ, h58, h59, h60, h61, h62, h3]
      have HG17 := Lib.hid (g.2 HG16.out)
      have HB17 := Lib.hid ((below_drewN HB16.out 1).trans (g.1.below (fun k hk => ⟨Nat.lt_of_lt_of_le hk HB16.out.size, by have := EGR.out; omega⟩)))
      clear hD g c0 c1 c2 hpw h58 h59 h60 h61 h62 h3
      go_wp2_with (fail)
      refine bodyPost_ret (v := .tuple #[.agg (selC 0 0 0 0 (zerB 16) (zerB 32)).toArray, .int .i64 (E : Int)]) (sel_results _ gr 49 _ (0, 0) (E : Int) rfl rfl _ HG17.out (info_sel.trans rfl)) rfl ?_
      rw [ER.out]
      exact ⟨rfl, HB17.out⟩
  | true =>
    have a2 : w14.cell? ⟨g5, 2, none⟩ = some (.int .i64 (M : Int)) := (heap_cell HH14.out 2).trans rfl
    have a3 : w14.cell? ⟨g5, 3, none⟩ = some (.int .u32 (F2 : Int)) := (heap_cell HH14.out 3).trans rfl
    go_wp2_with (fail)
    refine (offerMay_c M F2 w14).mono ?_
    rintro _ w15 ⟨rfl, hb⟩
    obtain ⟨O, hO⟩ : ∃ O, offB M = O := ⟨_, rfl⟩
    rw [hO]
    have HS8 : Hid (selS8 bs = badS (selS7 bs) (!O)) := Lib.hid (by unfold selS8 selB; rw [EV.out, EF1.out, HO1.out, EM.out, hO, Bool.true_and])
    clear hO a2 a3
    have HF15 := Lib.hid (HF14.out.below hb)
    have HG15 := Lib.hid ((hb.block gr (heap_lt HG14.out)).trans HG14.out)
    have HH15 := Lib.hid ((hb.block g5 (heap_lt HH14.out)).trans HH14.out)
    have HB15 := Lib.hid (HB14.out.trans (hb.mono HB14.out.size))
    clear hb HF14 HG14 HH14 HB14
    go_wp2_with (fail)
    refine (bad_c p A' n' c' (selS7 bs) (!O) w15 HF15.out).mono ?_
    rintro _ w16 ⟨rfl, hf9, hk9, -⟩
    have hb9 : (badS (selS7 bs) (!O)).err = E := by rw [← HE.out]; unfold selE; rw [HS8.out]
    obtain ⟨⟨c0, c1, c2⟩, -⟩ := three_of hf9.blk
    rw [hb9] at c2
    have HG16 := Lib.hid ((hk9.block gr (heap_lt HG15.out) HP.out.2).trans HG15.out)
    have HH16 := Lib.hid ((hk9.block g5 (heap_lt HH15.out) HQ.out.2.2.2).trans HH15.out)
    have HB16 := Lib.hid (keepsP_b HB15.out hk9 (Nat.le_of_lt HP.out.1) (Nat.le_refl _))
    have hpw : p < w16.drew.heap.size := hf9.lt
    clear hf9 hk9 hb9 HF15 HG15 HH15 HB15
    have HI : Hid ((Try.prog.info? 49).map (·.size) = some (selC V F1 M F2 NC CF).toArray.size) := Lib.hid (info_sel.trans (sel_size HLNC.out HLCF.out))
    have HSZ2 : Hid ((selC 0 0 0 0 (zerB 16) (zerB 32)).toArray.size = (selC V F1 M F2 NC CF).toArray.size) := Lib.hid (by simp [selC, zerB, HLNC.out, HLCF.out])
    by_cases h0 : E = 0
    · have d0 : ((E : Int) != 0) = false := by rw [h0]; rfl
      have eR : R = ⟨V, F1, M, F2, NC, CF⟩ := by rw [← HRR.out]; unfold selR; rw [if_pos (HE.out.trans h0), EV.out, EF1.out, EM.out, EF2.out, ENC.out, ECF.out]
      have ER := Lib.hid eR
      have E0 := Lib.hid h0
      clear eR h0 hpw
      go_wp2_with (first
        | (refine wpList_load_row rfl 49 (.tmp 7) rfl g5 rfl 49 _ (0, 0) _ HH16.out Try.underlying49 rfl HI.out ?_)
        | (refine wpList_store_row rfl 49 (.tmp 2) (.tmp 63) rfl gr (selC V F1 M F2 NC CF).toArray rfl rfl 49 _ HG16.out HI.out HSZ2.out (sel_one _ _ _ _ _ _) ?_))
      have HBF := Lib.hid (below_setRow (g := gr) HB16.out (Nat.le_of_eq EGR.out.symm) (selC V F1 M F2 NC CF).toArray)
      refine bodyPost_ret (v := .tuple #[.agg (selC V F1 M F2 NC CF).toArray, .int .i64 0]) (sel_results _ gr 49 _ (0, 0) 0 rfl rfl _ (setRow_heap w16 gr _ _ _ _ HG16.out) HI.out) rfl ?_
      rw [ER.out, E0.out]
      exact ⟨rfl, HBF.out⟩
    · have d0 : ((E : Int) != 0) = true := by rw [bne_iff_ne]; omega
      have eR : R = selZ := by rw [← HRR.out]; unfold selR; rw [if_neg (by rw [HE.out]; exact h0)]
      have ER := Lib.hid eR
      clear eR h0
      go_upto_region 10 with (fail)
      have HNE : Hid (p ≠ gr) := Lib.hid (Ne.symm HP.out.2)
      refine wp_region_rv 64 (Zg gr (.cells ((selC 0 0 0 0 (zerB 16) (zerB 32)).toArray) 49 (0, 0))) [(.agg (selC 0 0 0 0 (zerB 16) (zerB 32)).toArray), .pointer (some ⟨p, 0, none⟩), .pointer (some ⟨p, 0, none⟩), .pointer (some ⟨p, 2, none⟩), .int .i64 (E : Int), undef, .int .i64 (E : Int)] [58, 59, 60, 61, 62, 3] (by kernel_rfl) rfl (by kernel_rfl) (by kernel_rfl) (Zg.refl _ _) Zg.trans ?_ ?_
      · repeat (first | exact AllFrom.nil_ | (refine AllFrom.cons_ (by rfl) ?_ ?_; rotate_left))
        · intro f w' g hF hD
          rw [if_pos (wanted_none rfl)]
          clear hF hD
          exact gives_build 49 #[] rfl ((selC 0 0 0 0 (zerB 16) (zerB 32)).toArray) (by kernel_rfl) ⟨Zg.refl _ _ _, rfl⟩
        · intro f w' g hF hD
          have h4 : f 4 = .pointer (some ⟨p, 0, none⟩) := hF 4 (by kernel_rfl)
          rw [if_pos (wanted_none rfl)]
          clear hF hD
          exact gives_val (by simp only [execOp, evF, h4]; first | rfl | go_simp) ⟨Zg.refl _ _ _, rfl⟩
        · intro f w' g hF hD
          have h59 : f 59 = .pointer (some ⟨p, 0, none⟩) := hD 1 59 (by kernel_rfl) rfl
          rw [if_pos (wanted_none rfl)]
          clear hF hD
          exact gives_val (by simp only [execOp, evF, h59]; first | rfl | go_simp) ⟨Zg.refl _ _ _, rfl⟩
        · intro f w' g hF hD
          have h60 : f 60 = .pointer (some ⟨p, 0, none⟩) := hD 2 60 (by kernel_rfl) rfl
          rw [if_pos (wanted_none rfl)]
          clear hF hD
          exact gives_val (by simp only [execOp, evF, h60]; first | rfl | go_simp) ⟨Zg.refl _ _ _, rfl⟩
        · intro f w' g hF hD
          have h61 : f 61 = .pointer (some ⟨p, 2, none⟩) := hD 3 61 (by kernel_rfl) rfl
          rw [if_pos (wanted_none rfl)]
          clear hF hD
          have cl := g.cell (p := p) (i := 2) HNE.out hpw c2
          exact gives_val (by simp only [execOp, evF, h61]; go_simp) ⟨Zg.refl _ _ _, rfl⟩
        · intro f w' g hF hD
          have h2 : f 2 = .pointer (some ⟨gr, 0, none⟩) := hF 2 (by kernel_rfl)
          have h58 : f 58 = (.agg (selC 0 0 0 0 (zerB 16) (zerB 32)).toArray) := hD 0 58 (by kernel_rfl) rfl
          rw [if_pos (wanted_none rfl)]
          clear hF hD
          exact gives_store_row 49 (.tmp 2) (.tmp 58) rfl gr ((selC 0 0 0 0 (zerB 16) (zerB 32)).toArray) (by simp only [evF, h2]) (by simp only [evF, h58]) 49 ((selC 0 0 0 0 (zerB 16) (zerB 32)).toArray) (g.2 HG16.out) (info_sel.trans rfl) rfl (sel_one _ _ _ _ _ _) ⟨Zg.row (g.2 HG16.out), rfl⟩
        · intro f w' g hF hD
          have h62 : f 62 = .int .i64 (E : Int) := hD 4 62 (by kernel_rfl) rfl
          rw [if_pos (wanted_none rfl)]
          clear hF hD
          exact gives_val (by simp only [execOp, evF, h62]; first | rfl | go_simp) ⟨Zg.refl _ _ _, rfl⟩
      intro f' w10 g hD
      have h58 : f' 58 = (.agg (selC 0 0 0 0 (zerB 16) (zerB 32)).toArray) := hD 0 58 rfl
      have h59 : f' 59 = .pointer (some ⟨p, 0, none⟩) := hD 1 59 rfl
      have h60 : f' 60 = .pointer (some ⟨p, 0, none⟩) := hD 2 60 rfl
      have h61 : f' 61 = .pointer (some ⟨p, 2, none⟩) := hD 3 61 rfl
      have h62 : f' 62 = .int .i64 (E : Int) := hD 4 62 rfl
      have h3 : f' 3 = .int .i64 (E : Int) := hD 6 3 rfl
      simp only [putAll, List.setIfInBounds_toArray, List.set_cons_zero, List.set_cons_succ, h58, h59, h60, h61, h62, h3]
      have HG17 := Lib.hid (g.2 HG16.out)
      have HB17 := Lib.hid ((below_drewN HB16.out 1).trans (g.1.below (fun k hk => ⟨Nat.lt_of_lt_of_le hk HB16.out.size, by have := EGR.out; omega⟩)))
      clear hD g c0 c1 c2 hpw h58 h59 h60 h61 h62 h3
      go_wp2_with (fail)
      refine bodyPost_ret (v := .tuple #[.agg (selC 0 0 0 0 (zerB 16) (zerB 32)).toArray, .int .i64 (E : Int)]) (sel_results _ gr 49 _ (0, 0) (E : Int) rfl rfl _ HG17.out (info_sel.trans rfl)) rfl ?_
      rw [ER.out]
      exact ⟨rfl, HB17.out⟩
end Go.Proofs.Ytcffinkkfdfcaaa

/- What GetConfirm answers. Conditions: bytes that can be read. -/
namespace Go.Proofs.Ytcffinkkfdfcaaa
open Go Go.RowKit

set_option maxRecDepth 100000 in
set_option maxHeartbeats 4000000 in
theorem GetConfirm_c (bs : List UInt8) (A : Option Addr) (n c : Nat) (w : World) (hn : bs.length = n) (hr : Rd w A (bs.map bv)) (hl : n ≤ 140737488355328) :
    Calls Try.prog 25 #[.slice A n c] w fun r w' => r = .returned (.tuple #[.agg (a32C (conT bs)), .int .i64 (conE bs : Int)]) ∧ Below w.heap.size w w' := by
  have HN := Lib.hid hn
  obtain ⟨w1, ew1⟩ : ∃ w1, w1 = w.alloc (.cells #[.int .u8 0, .int .u8 0, .int .u8 0, .int .u8 0, .int .u8 0, .int .u8 0, .int .u8 0, .int .u8 0, .int .u8 0, .int .u8 0, .int .u8 0, .int .u8 0, .int .u8 0, .int .u8 0, .int .u8 0, .int .u8 0, .int .u8 0, .int .u8 0, .int .u8 0, .int .u8 0, .int .u8 0, .int .u8 0, .int .u8 0, .int .u8 0, .int .u8 0, .int .u8 0, .int .u8 0, .int .u8 0, .int .u8 0, .int .u8 0, .int .u8 0, .int .u8 0] 47) := ⟨_, rfl⟩
  obtain ⟨gr, egr⟩ : ∃ gr, gr = w.heap.size := ⟨_, rfl⟩
  have b1 : Below w.heap.size w w1 := by rw [ew1]; exact (Below.refl _ _).alloc (Nat.le_refl _) _
  have HG1 : Hid (w1.heap[gr]? = some (.cells (a32C (zerB 32)) 47 (0, 0))) := Lib.hid (by rw [ew1, egr, ← a32_zero]; exact heap_alloc_new _ _)
  have HR1 := Lib.hid (hr.below b1)
  have HB1 := Lib.hid b1
  have EW1 := Lib.hid ew1
  have EGR := Lib.hid egr
  obtain ⟨E, eE⟩ : ∃ E, conE bs = E := ⟨_, rfl⟩
  obtain ⟨R, eR⟩ : ∃ R, conT bs = R := ⟨_, rfl⟩
  rw [eE, eR]
  have HE := Lib.hid eE
  have HRR := Lib.hid eR
  clear ew1 egr b1 hn hr eE eR
  go_enter Try.func25, Try.ntmps25
  go_upto_region 1 with (fail)
  rw [← EW1.out, ← EGR.out]
  go_wp2_with (fail)
  refine (open_c bs A n c 1 w1 HN.out HR1.out hl (by decide)).mono ?_
  rintro _ w2 ⟨p, A', n', c', rfl, hp, hf, hb⟩
  have HF2 := Lib.hid hf
  have HG2 := Lib.hid ((hb.block gr (heap_lt HG1.out)).trans HG1.out)
  have HB2 := Lib.hid (HB1.out.trans (hb.mono HB1.out.size))
  have HP : Hid (w.heap.size < p ∧ gr ≠ p) := Lib.hid (by have := heap_lt HG1.out; have := EGR.out; omega)
  clear hp hf hb
  go_wp2_with (fail)
  refine (bytes_c p A' n' c' (opS bs 1) 32 (by decide) w2 HF2.out (by rw [opS_at]; decide)).mono ?_
  rintro _ w3 ⟨Ab, cb, rfl, ht, hf, hk⟩
  obtain ⟨T, hT⟩ : ∃ T, byB (opS bs 1) 32 = T := ⟨_, rfl⟩
  have hlT : T.length = 32 := by rw [← hT]; exact byB_len _ _
  have hrT := ht.r.2.1
  rw [hT] at hrT
  obtain ⟨b, off, rfl, hb, hc⟩ := hrT.addr (by simp [hlT])
  have hrg : w3.rangeAt b off (T.map bv) := fun j v hv => by
    obtain ⟨hj, e⟩ := List.getElem?_eq_some_iff.1 hv
    rw [hc j hj, e]
  have HRG := Lib.hid hrg
  have ka : ∀ (w : World), (Instr.arrayAt 47 (.slice (some ⟨b, off, none⟩) 32 cb)).run Try.prog w = .ok (.pointer (some ⟨b, off, none⟩)) w := fun _ => by kernel_rfl
  have HT := Lib.hid hT
  have HLT := Lib.hid hlT
  have HG3 := Lib.hid ((hk.block gr (heap_lt HG2.out) HP.out.2).trans HG2.out)
  have HB3 := Lib.hid (keepsP_b HB2.out hk (Nat.le_of_lt HP.out.1) (Nat.le_refl _))
  have HP3 : Hid (w3.heap[p]? = some (.cells #[.slice A' n' c', .int .i64 ((conS bs).at_ : Int), .int .i64 ((conS bs).err : Int)] 103 (0, 0))) := Lib.hid hf.blk
  have h31 : (a32C (zerB 32)).size = (a32C T).size := by unfold a32C; simp [hlT, zerB]
  have HSZ2 := Lib.hid h31
  have HI : Hid ((Try.prog.info? 47).map (·.size) = some (T.map bv).length) := Lib.hid (by rw [List.length_map, hlT]; exact info_a32c)
  have HI2 : Hid ((Try.prog.info? 47).map (·.size) = some (a32C T).size) := Lib.hid (info_a32c.trans (a32_size hlT))
  clear ht hf hk hrT hT hc hrg hlT HF2 HG2 HB2 h31
  go_upto_region 3 with (first
    | (refine wpList_load_mid rfl 47 (.tmp 10) rfl b off rfl (T.map bv) _ HRG.out Try.underlying47 rfl HI.out ?_; change wpList _ _ _ _ (Act.put _ _ (.agg (a32C T))) _)
    | (refine wpList_store_row rfl 47 (.tmp 5) (.tmp 11) rfl w3.heap.size (a32C T) rfl rfl 47 _ (heap_alloc_new w3 _) HI2.out HSZ2.out (a32_one _) ?_))
  obtain ⟨w4, ew4⟩ : ∃ w4, w4 = (w3.alloc (.cells #[.int .u8 0, .int .u8 0, .int .u8 0, .int .u8 0, .int .u8 0, .int .u8 0, .int .u8 0, .int .u8 0, .int .u8 0, .int .u8 0, .int .u8 0, .int .u8 0, .int .u8 0, .int .u8 0, .int .u8 0, .int .u8 0, .int .u8 0, .int .u8 0, .int .u8 0, .int .u8 0, .int .u8 0, .int .u8 0, .int .u8 0, .int .u8 0, .int .u8 0, .int .u8 0, .int .u8 0, .int .u8 0, .int .u8 0, .int .u8 0, .int .u8 0, .int .u8 0] 47)).setRow w3.heap.size (a32C T) := ⟨_, rfl⟩
  obtain ⟨g5, eg5⟩ : ∃ g5, g5 = w3.heap.size := ⟨_, rfl⟩
  rw [← ew4, ← eg5]
  have b34 : Below w3.heap.size w3 w4 := by rw [ew4]; exact below_setRow ((Below.refl _ _).alloc (Nat.le_refl _) _) (Nat.le_refl _) _
  have HH4 : Hid (w4.heap[g5]? = some (.cells (a32C T) 47 (0, 0))) := Lib.hid (by rw [ew4, eg5]; exact setRow_heap _ _ _ _ _ _ (heap_alloc_new w3 _))
  have HG4 := Lib.hid ((b34.block gr (heap_lt HG3.out)).trans HG3.out)
  have HB4 := Lib.hid (HB3.out.trans (b34.mono HB3.out.size))
  have hp4 := (b34.block p (heap_lt HP3.out)).trans HP3.out
  obtain ⟨⟨c0, c1, c2⟩, -⟩ := three_of hp4
  have hE : (conS bs).err = E := HE.out
  rw [hE] at c2
  have hpw : p < w4.drew.heap.size := heap_lt hp4
  clear ew4 eg5 b34 hp4 hE ka hb HG3 HB3 HP3 HRG HI
  by_cases h0 : E = 0
  · have d0 : ((E : Int) != 0) = false := by rw [h0]; rfl
    have eR : R = T := by rw [← HRR.out]; unfold conT; rw [if_pos (HE.out.trans h0), HT.out]
    have ER := Lib.hid eR
    have E0 := Lib.hid h0
    clear eR h0 hpw
    go_wp2_with (first
      | (refine wpList_load_row rfl 47 (.tmp 5) rfl g5 rfl 47 _ (0, 0) _ HH4.out Try.underlying47 rfl HI2.out ?_)
      | (refine wpList_store_row rfl 47 (.tmp 2) (.tmp 22) rfl gr (a32C T) rfl rfl 47 _ HG4.out HI2.out HSZ2.out (a32_one _) ?_))
    have HBF := Lib.hid (below_setRow (g := gr) HB4.out (Nat.le_of_eq EGR.out.symm) (a32C T))
    refine bodyPost_ret (v := .tuple #[.agg (a32C T), .int .i64 0]) (con_results _ gr 47 _ (0, 0) 0 rfl rfl _ (setRow_heap w4 gr _ _ _ _ HG4.out) HI2.out) rfl ?_
    rw [ER.out, E0.out]
    exact ⟨rfl, HBF.out⟩
  · have d0 : ((E : Int) != 0) = true := by rw [bne_iff_ne]; omega
    have eR : R = zerB 32 := by rw [← HRR.out]; unfold conT; rw [if_neg (by rw [HE.out]; exact h0)]
    have ER := Lib.hid eR
    clear eR h0
    have HNE : Hid (p ≠ gr) := Lib.hid (Ne.symm HP.out.2)
    go_upto_region 4 with (fail)
    refine wp_region_rv 23 (Zg gr (.cells ((a32C (zerB 32))) 47 (0, 0))) [.agg (a32C (zerB 32)), .pointer (some ⟨p, 0, none⟩), .pointer (some ⟨p, 0, none⟩), .pointer (some ⟨p, 2, none⟩), .int .i64 (E : Int), undef, .int .i64 (E : Int)] [17, 18, 19, 20, 21, 3] (by kernel_rfl) rfl (by kernel_rfl) (by kernel_rfl) (Zg.refl _ _) Zg.trans ?_ ?_
    · repeat (first | exact AllFrom.nil_ | (refine AllFrom.cons_ (by rfl) ?_ ?_; rotate_left))
      · intro f w' g hF hD
        rw [if_pos (wanted_none rfl)]
        clear hF hD
        exact gives_build 47 #[] rfl ((a32C (zerB 32))) (by kernel_rfl) ⟨Zg.refl _ _ _, rfl⟩
      · intro f w' g hF hD
        have h4 : f 4 = .pointer (some ⟨p, 0, none⟩) := hF 4 (by kernel_rfl)
        rw [if_pos (wanted_none rfl)]
        clear hF hD
        exact gives_val (by simp only [execOp, evF, h4]; first | rfl | go_simp) ⟨Zg.refl _ _ _, rfl⟩
      · intro f w' g hF hD
        have h18 : f 18 = .pointer (some ⟨p, 0, none⟩) := hD 1 18 (by kernel_rfl) rfl
        rw [if_pos (wanted_none rfl)]
        clear hF hD
        exact gives_val (by simp only [execOp, evF, h18]; first | rfl | go_simp) ⟨Zg.refl _ _ _, rfl⟩
      · intro f w' g hF hD
        have h19 : f 19 = .pointer (some ⟨p, 0, none⟩) := hD 2 19 (by kernel_rfl) rfl
        rw [if_pos (wanted_none rfl)]
        clear hF hD
        exact gives_val (by simp only [execOp, evF, h19]; first | rfl | go_simp) ⟨Zg.refl _ _ _, rfl⟩
      · intro f w' g hF hD
        have h20 : f 20 = .pointer (some ⟨p, 2, none⟩) := hD 3 20 (by kernel_rfl) rfl
        rw [if_pos (wanted_none rfl)]
        clear hF hD
        have cl := g.cell (p := p) (i := 2) HNE.out hpw c2
        exact gives_val (by simp only [execOp, evF, h20]; go_simp) ⟨Zg.refl _ _ _, rfl⟩
      · intro f w' g hF hD
        have h2 : f 2 = .pointer (some ⟨gr, 0, none⟩) := hF 2 (by kernel_rfl)
        have h17 : f 17 = .agg (a32C (zerB 32)) := hD 0 17 (by kernel_rfl) rfl
        rw [if_pos (wanted_none rfl)]
        clear hF hD
        exact gives_store_row 47 (.tmp 2) (.tmp 17) rfl gr ((a32C (zerB 32))) (by simp only [evF, h2]) (by simp only [evF, h17]) 47 ((a32C (zerB 32))) (g.2 HG4.out) (info_a32c.trans rfl) rfl (a32_one _) ⟨Zg.row (g.2 HG4.out), rfl⟩
      · intro f w' g hF hD
        have h21 : f 21 = .int .i64 (E : Int) := hD 4 21 (by kernel_rfl) rfl
        rw [if_pos (wanted_none rfl)]
        clear hF hD
        exact gives_val (by simp only [execOp, evF, h21]; first | rfl | go_simp) ⟨Zg.refl _ _ _, rfl⟩
    intro f' w5 g hD
    have h17 : f' 17 = .agg (a32C (zerB 32)) := hD 0 17 rfl
    have h18 : f' 18 = .pointer (some ⟨p, 0, none⟩) := hD 1 18 rfl
    have h19 : f' 19 = .pointer (some ⟨p, 0, none⟩) := hD 2 19 rfl
    have h20 : f' 20 = .pointer (some ⟨p, 2, none⟩) := hD 3 20 rfl
    have h21 : f' 21 = .int .i64 (E : Int) := hD 4 21 rfl
    have h3 : f' 3 = .int .i64 (E : Int) := hD 6 3 rfl
    simp only [putAll, List.setIfInBounds_toArray, List.set_cons_zero, List.set_cons_succ, h17, h18, h19, h20, h21, h3]
    have HG5 := Lib.hid (g.2 HG4.out)
    have HB5 := Lib.hid ((below_drewN HB4.out 1).trans (g.1.below (fun k hk => ⟨Nat.lt_of_lt_of_le hk HB4.out.size, by have := EGR.out; omega⟩)))
    clear hD g c0 c1 c2 hpw h17 h18 h19 h20 h21 h3
    go_wp2_with (fail)
    refine bodyPost_ret (v := .tuple #[.agg (a32C (zerB 32)), .int .i64 (E : Int)]) (con_results _ gr 47 _ (0, 0) (E : Int) rfl rfl _ HG5.out (info_a32c.trans rfl)) rfl ?_
    rw [ER.out]
    exact ⟨rfl, HB5.out⟩
end Go.Proofs.Ytcffinkkfdfcaaa
