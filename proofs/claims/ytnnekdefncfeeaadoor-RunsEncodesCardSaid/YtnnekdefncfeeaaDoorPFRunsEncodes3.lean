/- Parts one behind the other: What the reference's Full and Encode (17) answer; A region that draws its order, whose last operations wait for all others, and two of whose operations make a block each: the two blocks differ. Conditions: as told at each. -/
import Derived.Test.YtnnekdefncfeeaaDoorPFRunsEncodes1
import Derived.Test.YtnnekdefncfeeaaDoorPFRunsEncodes2
import Derived.Test.YtnnekdefncfeeaaDoorPF19
import Derived.Test.YtnnekdefncfeeaaDoorPF11

set_option linter.unusedVariables false
set_option linter.unusedSimpArgs false
/- What the reference's Full and Encode (17) answer. Conditions: the screens' parts can be read; the tables lie where they were laid. -/
namespace Go.Proofs.YtnnekdefncfeeaaDoor
open Go Go.RowKit Go.Lib

/-- A row of one byte, with no room. -/
def Rl.lit1 (b : UInt8) : Rl := ⟨fun w v => ∃ g, v = .slice (some ⟨g, 0, none⟩) 1 1 ∧ Rd w (some ⟨g, 0, none⟩) ([b].map bv), fun ⟨g, h, r⟩ hb => ⟨g, h, r.below hb⟩⟩
theorem varL_pos (n : Nat) : 0 < (varL n).length := by rw [varL]; split <;> simp
/-- 'append' where there is no room: a new block. -/
theorem run_appNew (w : World) (ty : TypeId) (g n : Nat) (bs : List UInt8) (hn : bs.length = n) (hp : 0 < n) (hb : Rd w (some ⟨g, 0, none⟩) (bs.map bv)) (A : Option Addr) (m c : Nat) (ns : List UInt8) (hm : ns.length = m) (hq : 0 < m) (hr : Rd w A (ns.map bv)) (hl : n + m ≤ 100000) :
    ∃ v' w', (Builtin.append_ #[29, 29] ty #[.slice (some ⟨g, 0, none⟩) n n, .slice A m c]).run Tryd.prog w = .ok v' w' ∧ OwnB w' w.heap.size v' (bs ++ ns) ∧ Gr w w' := by
  obtain ⟨i0, hi, hz0, hz1, hz2⟩ := info_parts info_u8
  obtain ⟨b', off, rfl, -, -⟩ := hr.addr (by rw [List.length_map]; omega)
  have hl1 : (bs.map bv).length = n * i0.size := by rw [List.length_map, hn, hz1, Nat.mul_one]
  have hl2 : (ns.map bv).length = m * i0.size := by rw [List.length_map, hm, hz1, Nat.mul_one]
  have hrun := run_append_grow (P := Tryd.prog) w 29 ty 5 i0 (.int .u8 0) Tryd.underlying29 hi hz0 ⟨g, 0, none⟩ n n (bs.map bv) hl1 (hb.cellsAt _ rfl) ⟨b', off, none⟩ m c (ns.map bv) hl2 (hr.cellsAt _ rfl) (by omega) (by omega) (growslice_fits (by omega) (by rw [hz2]; omega))
  refine ⟨_, _, hrun, ?_, ?_⟩
  · have hge := grownCap_ge w (n + m) n 5
    have hcm : grownCap w (n + m) n 5 ≤ maxLen := grownCap_le_maxLen w (n + m) n 5 (by simp only [maxLen]; omega)
    have hlen : ((bs ++ ns).map bv).length = n + m := by rw [List.length_map, List.length_append, hn, hm]
    unfold OwnB Own
    rw [hlen]
    refine ⟨by rw [hlen, Nat.mul_one], .inr ⟨w.heap.size, _, _, rfl, Nat.le_refl _, heap_alloc_new w.drew _, hge, hcm, ?_, ?_⟩⟩
    · simp only [Array.size_append, List.size_toArray, size_zeroCells, List.length_map, hn, hm, Value.cells, Nat.mul_one]
      simp
      omega
    · simp only [Array.toList_append, List.append_assoc, List.map_append]
      rw [← List.append_assoc]
      have h2 : (n + m) * 1 = (bs.map bv ++ ns.map bv).length := by rw [List.length_append, List.length_map, List.length_map, hn, hm, Nat.mul_one]
      rw [h2]
      exact List.take_left
  · exact (below_drewN (Below.refl w.heap.size w) 1).alloc (Nat.le_refl _) _
set_option maxRecDepth 100000 in
set_option maxHeartbeats 16000000 in
theorem refFull17_c (b : ScD) (A : Option Addr) (n c : Nat) (L : Option Addr) (m cm : Nat) (w : World) (hs : ScR w b A n c L m cm) (hc : ∀ d ∈ b.cells, CeOk d) (hm : 0 ≤ b.mouse) (hU : TabU w) :
    Calls Tryd.prog 13 #[.agg (scC b A n c L m cm)] w fun e w' => ∃ v, e = .returned (.tuple #[v, .int .i64 ((full17 b).2 : Int)]) ∧ OwnB w' w.heap.size v (full17 b).1 ∧ Below w.heap.size w w' := by
  obtain ⟨X, eX⟩ : ∃ X, X = scC b A n c L m cm := ⟨_, rfl⟩
  rw [← eX]
  obtain ⟨W0, eW0⟩ : ∃ W0, W0 = w.alloc (.cells X 25) := ⟨_, rfl⟩
  obtain ⟨p, ep⟩ : ∃ p, p = w.heap.size := ⟨_, rfl⟩
  have hb0 : Below w.heap.size w W0 := by rw [eW0]; exact (Below.refl _ _).alloc (Nat.le_refl _) _
  have HP0 : Hid (ScB W0 p b A n c L m cm) := Lib.hid (by rw [eW0, ep, eX]; exact heap_alloc_new _ _)
  have EW0 := Lib.hid eW0
  have EP := Lib.hid ep
  have HB0 := Lib.hid hb0
  have HR0 := Lib.hid (hs.below hb0)
  have HU0 := Lib.hid (hU.next hb0)
  have HCO := Lib.hid hc
  have HMO := Lib.hid hm
  clear hm
  obtain ⟨Z, eZ⟩ : ∃ Z, full17 b = Z := ⟨_, rfl⟩
  rw [eZ]
  unfold full17 at eZ
  clear eX eW0 ep hb0 hs hU hc
  obtain ⟨b1, e1⟩ : ∃ t, fit17 b = t := ⟨_, rfl⟩
  rw [e1] at eZ
  have E1 := Lib.hid e1
  have EZ := Lib.hid eZ
  clear eZ e1
  go_enter Tryd.func13, Tryd.ntmps13
  go_upto_region 1 with (fail)
  rw [← EW0.out, ← EP.out]
  cases b1
  · go_wp2_with (first
      | (refine wpList_load_row rfl 25 (.tmp 1) rfl p rfl 25 _ (0, 0) _ HP0.out Tryd.underlying25 rfl (info_sc.trans rfl) ?_)
      | (go_at_call 16; (refine (refFits17_c b A n c L m cm W0 HR0.out HU0.out).mono ?_); rintro _ w1 ⟨rfl, hb1⟩; rw [E1.out]; have HB1 := Lib.hid (HB0.out.trans (hb1.mono HB0.out.size)); clear hb1))
    go_ret2
    exact ⟨_, by rw [← EZ.out] <;> rfl, by rw [← EZ.out]; exact Own.nil_ _ _ _, HB1.out⟩
  · obtain ⟨C, R, hf⟩ := fit17_of E1.out
    have HF := Lib.hid hf
    have HFI := Lib.hid hf.fits
    obtain ⟨N, eN⟩ : ∃ N, N = C * R := ⟨_, rfl⟩
    have HN := Lib.hid eN
    have HZ : Hid ((([1] ++ varsL [C, R]) ++ lay17 (blankS C R) b, 0) = Z) := Lib.hid (by rw [← EZ.out, hf.c, hf.r]; simp only [varsL, List.flatMap_cons, List.flatMap_nil, List.append_nil, Int.toNat_natCast, if_true]; rfl)
    clear hf eN
    go_upto_region 4 with (first
      | (refine wpList_load_row rfl 25 (.tmp 1) rfl p rfl 25 _ (0, 0) _ HP0.out Tryd.underlying25 rfl (info_sc.trans rfl) ?_)
      | (go_at_call 16; (refine (refFits17_c b A n c L m cm W0 HR0.out HU0.out).mono ?_); rintro _ w1 ⟨rfl, hb1⟩; rw [E1.out]; have HB1 := Lib.hid (HB0.out.trans (hb1.mono HB0.out.size)); have HR1 := Lib.hid (HR0.out.below hb1); have HP1 := Lib.hid (HP0.out.below hb1); have x0 : w1.cell? ⟨p, 0, none⟩ = some (.int .i64 (C : Int)) := by { rw [← HF.out.c]; exact HP1.out.nine.1 }; have x1 : w1.cell? ⟨p, 1, none⟩ = some (.int .i64 (R : Int)) := by { rw [← HF.out.r]; exact HP1.out.nine.2.1 }; clear hb1)
      | (go_at_call 19; (refine (refBlank15_c C R N w1 HFI.out HN.out).mono ?_); rintro _ w2 ⟨A2, c2, rfl, ho2, hb2⟩; have HS2 := Lib.hid (blank_read16 HFI.out HN.out ho2); have HB2 := Lib.hid (HB1.out.trans (hb2.mono HB1.out.size)); have HR2 := Lib.hid (HR1.out.below hb2); have HP2 := Lib.hid (HP1.out.below hb2); clear ho2 hb2)
      | (refine wpList_store_rowTo rfl 25 (.tmp 4) (.tmp 15) rfl rfl w2.heap.size (scC (blankS C R) A2 N c2 none 0 0) rfl rfl 25 _ (heap_alloc_new w2 _) (info_sc.trans rfl) rfl (sc_one _ _ _ _ _ _ _) ?_))
    generalize eX : World.alloc w2 _ = X3
    have hx : Below w2.heap.size w2 X3 := by rw [← eX]; exact (Below.refl _ _).alloc (Nat.le_refl _) _
    obtain ⟨old, hq2⟩ : ∃ old, X3.heap[w2.heap.size]? = some (.cells old 25 (0, 0)) := ⟨_, by rw [← eX]; exact heap_alloc_new _ _⟩
    obtain ⟨g, eg⟩ : ∃ g, g = w2.heap.size := ⟨_, rfl⟩
    obtain ⟨W3, eW3⟩ : ∃ W, W = X3.setRow w2.heap.size (scC (blankS C R) A2 N c2 none 0 0) := ⟨_, rfl⟩
    rw [← eW3, ← eg]
    have HG3 : Hid (ScB W3 g (blankS C R) A2 N c2 none 0 0) := Lib.hid (by rw [eW3, eg]; exact setRow_heap _ _ _ _ _ _ hq2)
    have hb3 : Below w2.heap.size w2 W3 := by rw [eW3]; exact below_setRow hx (Nat.le_refl _) _
    have HB3 := Lib.hid (HB2.out.trans (hb3.mono HB2.out.size))
    have HS3 := Lib.hid (HS2.out.below hb3)
    have HR3 := Lib.hid (HR2.out.below hb3)
    have HP3 := Lib.hid (HP2.out.below hb3)
    have HS3z : Hid (w.heap.size ≤ W3.heap.size) := Lib.hid HB3.out.size
    have HCR : Hid ((∀ x ∈ [C, R], x < 2 ^ 63) ∧ (varsL [C, R]).length ≤ 20 ∧ 0 < (varsL [C, R]).length) := Lib.hid (by
      have h1 := HF.out.c2; have h2 := HF.out.r2
      have h3 : ∀ x ∈ [C, R], x < 2 ^ 63 := by
        intro x hx
        simp only [List.mem_cons, List.not_mem_nil, or_false] at hx
        rcases hx with rfl | rfl <;> omega
      refine ⟨h3, ?_, ?_⟩
      · have h4 := varsL_le [C, R] (fun x hx => by have := h3 x hx; unfold U64; omega)
        simpa using h4
      · have h5 := varL_pos C
        simp only [varsL, List.flatMap_cons, List.length_append]
        omega)
    clear eX hx hq2 eg eW3 hb3 x0 x1
    go_upto_region 4 with (fail)
    refine wp_region_rt 29 11 [Rl.lit1 1, Rl.eq (.pointer (some ⟨p, 0, none⟩)), Rl.eq (.int .i64 (C : Int)), Rl.eq (.pointer (some ⟨p, 1, none⟩)), Rl.eq (.int .i64 (R : Int)), Rl.nus 2 [C, R], Rl.ob w.heap.size (varsL [C, R]), Rl.ob w.heap.size ([1] ++ varsL [C, R]), Rl.eq (.agg (scC (blankS C R) A2 N c2 none 0 0)), Rl.eq (.agg (scC b A n c L m cm)), Rl.ownl w.heap.size (lay17 (blankS C R) b)] [17, 18, 19, 20, 21, 22, 23, 24, 25, 26, 27, 28, 2, 3] (by kernel_rfl) rfl (by kernel_rfl) (by kernel_rfl) (by decide) (by kernel_rfl) (by kernel_rfl) ?_ ?_
    · simp only [List.take_succ_cons, List.take_zero]
      repeat (first | exact AllFrom.nil_ | (refine AllFrom.cons_ (by rfl) ?_ ?_; rotate_left))
      · intro f_ w' g_ hF hD
        rw [if_pos (wanted_none rfl)]
        clear hF hD
        have r1 : ∃ g, Value.slice (some ⟨w'.heap.size, 0, none⟩) 1 1 = .slice (some ⟨g, 0, none⟩) 1 1 ∧ Rd (w'.alloc (.cells #[.int .u8 1] 5)) (some ⟨g, 0, none⟩) ([(1 : UInt8)].map bv) := ⟨_, rfl, rd_lit w' [1] _ (by rw [bv_one1]; rfl) (by simp)⟩
        exact gives_val (by simp only [execOp, evF]; first | rfl | go_simp) ⟨(Below.refl _ _).alloc (Nat.le_refl _) _, r1⟩
      · intro f_ w' g_ hF hD
        have h1 : f_ 1 = .pointer (some ⟨p, 0, none⟩) := hF 1 (by kernel_rfl)
        rw [if_pos (wanted_none rfl)]
        clear hF hD
        exact gives_val (by simp only [execOp, evF, h1]; first | rfl | go_simp) ⟨Gr.refl _, rfl⟩
      · intro f_ w' g_ hF hD
        have h18 : f_ 18 = (.pointer (some ⟨p, 0, none⟩)) := hD 1 18 (by kernel_rfl) rfl
        rw [if_pos (wanted_none rfl)]
        clear hF hD
        have kg : Below W3.heap.size W3 w' := (below_drewN (Below.refl _ _) 1).trans g_
        have cl : w'.cell? ⟨p, 0, none⟩ = some (.int .i64 (C : Int)) := by rw [← HF.out.c]; exact (HP3.out.below kg).nine.1
        exact gives_val (by simp only [execOp, evF, h18]; go_simp) ⟨Gr.refl _, rfl⟩
      · intro f_ w' g_ hF hD
        have h1 : f_ 1 = .pointer (some ⟨p, 0, none⟩) := hF 1 (by kernel_rfl)
        rw [if_pos (wanted_none rfl)]
        clear hF hD
        exact gives_val (by simp only [execOp, evF, h1]; first | rfl | go_simp) ⟨Gr.refl _, rfl⟩
      · intro f_ w' g_ hF hD
        have h20 : f_ 20 = (.pointer (some ⟨p, 1, none⟩)) := hD 3 20 (by kernel_rfl) rfl
        rw [if_pos (wanted_none rfl)]
        clear hF hD
        have kg : Below W3.heap.size W3 w' := (below_drewN (Below.refl _ _) 1).trans g_
        have cl : w'.cell? ⟨p, 1, none⟩ = some (.int .i64 (R : Int)) := by rw [← HF.out.r]; exact (HP3.out.below kg).nine.2.1
        exact gives_val (by simp only [execOp, evF, h20]; go_simp) ⟨Gr.refl _, rfl⟩
      · intro f_ w' g_ hF hD
        have h19 : f_ 19 = (.int .i64 (C : Int)) := hD 2 19 (by kernel_rfl) rfl
        have h21 : f_ 21 = (.int .i64 (R : Int)) := hD 4 21 (by kernel_rfl) rfl
        rw [if_pos (wanted_none rfl)]
        clear hF hD
        have r1 : ∃ X, Value.slice (some ⟨w'.heap.size, 0, none⟩) 2 2 = .slice X 2 2 ∧ Rd (w'.alloc (.cells #[.int .i64 (C : Int), .int .i64 (R : Int)] 3)) X ([C, R].map nv) := ⟨_, rfl, rd_nums w' [C, R] _ _ rfl⟩
        exact gives_val (by simp only [execOp, evF, h19, h21]; first | rfl | go_simp) ⟨(Below.refl _ _).alloc (Nat.le_refl _) _, r1⟩
      · intro f_ w' g_ hF hD
        have q22 := hD 5 22 (by kernel_rfl) rfl
        rw [if_pos (wanted_none rfl)]
        clear hF hD
        have kg : Below W3.heap.size W3 w' := (below_drewN (Below.refl _ _) 1).trans g_
        obtain ⟨X22, e22, r22⟩ := q22
        refine gives_func rfl Tryd.func24 (by kernel_rfl) rfl (by simp only [List.map_toArray, List.map_cons, List.map_nil, evF, e22]) ((vars17_c X22 2 2 [C, R] w' rfl r22 (by decide) HCR.out.1).mono ?_)
        rintro e w'' ⟨v, rfl, ho, hb⟩
        exact ⟨_, rfl, hb, Own.low ho (Nat.le_trans HS3z.out kg.size)⟩
      · intro f_ w' g_ hF hD
        have q17 := hD 0 17 (by kernel_rfl) rfl
        have q23 := hD 6 23 (by kernel_rfl) rfl
        rw [if_pos (wanted_none rfl)]
        clear hF hD
        have kg : Below W3.heap.size W3 w' := (below_drewN (Below.refl _ _) 1).trans g_
        obtain ⟨g17, e17, r17⟩ := q17
        obtain ⟨A23, c23, e23, _, _, r23, _⟩ := OwnB.form q23
        obtain ⟨v', w'', hrun, ho, hgr⟩ := run_appNew w' 29 g17 1 [1] rfl (by decide) r17 A23 _ c23 (varsL [C, R]) rfl HCR.out.2.2 r23 (by have := HCR.out.2.1; omega)
        exact gives_val (by unfold execOp; simp only [resolve, invoke, builtin, Sem.run_bind, Sem.run_pure, Result.andThen_ok, List.map_toArray, List.map_cons, List.map_nil, evF, e17, e23, hrun]) ⟨hgr, Own.low ho (Nat.le_trans HS3z.out kg.size)⟩
      · intro f_ w' g_ hF hD
        have h4 : f_ 4 = .pointer (some ⟨g, 0, none⟩) := hF 4 (by kernel_rfl)
        rw [if_pos (wanted_none rfl)]
        clear hF hD
        have kg : Below W3.heap.size W3 w' := (below_drewN (Below.refl _ _) 1).trans g_
        exact gives_load_row 25 (.tmp 4) rfl g (by simp only [evF, h4]) 25 (scC (blankS C R) A2 N c2 none 0 0) (0, 0) _ (HG3.out.below kg) Tryd.underlying25 rfl (info_sc.trans rfl) ⟨Gr.refl _, rfl⟩
      · intro f_ w' g_ hF hD
        have h1 : f_ 1 = .pointer (some ⟨p, 0, none⟩) := hF 1 (by kernel_rfl)
        rw [if_pos (wanted_none rfl)]
        clear hF hD
        have kg : Below W3.heap.size W3 w' := (below_drewN (Below.refl _ _) 1).trans g_
        exact gives_load_row 25 (.tmp 1) rfl p (by simp only [evF, h1]) 25 (scC b A n c L m cm) (0, 0) _ (HP3.out.below kg) Tryd.underlying25 rfl (info_sc.trans rfl) ⟨Gr.refl _, rfl⟩
      · intro f_ w' g_ hF hD
        have h25 : f_ 25 = (.agg (scC (blankS C R) A2 N c2 none 0 0)) := hD 8 25 (by kernel_rfl) rfl
        have h26 : f_ 26 = (.agg (scC b A n c L m cm)) := hD 9 26 (by kernel_rfl) rfl
        rw [if_pos (wanted_none rfl)]
        clear hF hD
        have kg : Below W3.heap.size W3 w' := (below_drewN (Below.refl _ _) 1).trans g_
        refine gives_func rfl Tryd.func21 (by kernel_rfl) rfl (by simp only [List.map_toArray, List.map_cons, List.map_nil, evF, h25, h26]) ((diff17_c (blankS C R) b A2 N c2 none 0 0 A n c L m cm C R w' (HS3.out.below kg) (HR3.out.below kg) HF.out HCO.out (by rw [HS3.out.hn, HN.out]) HMO.out).mono ?_)
        rintro e w'' ⟨v, rfl, ho, hb, hl⟩
        exact ⟨_, rfl, hb, Own.low ho (Nat.le_trans HS3z.out kg.size), hl⟩
    intro f_ w7 gg hD
    have h24 : OwnB w7 w.heap.size (f_ 24) ([1] ++ varsL [C, R]) := hD 7 24 (by decide) rfl
    obtain ⟨h27, hl27⟩ : OwnB w7 w.heap.size (f_ 27) (lay17 (blankS C R) b) ∧ (lay17 (blankS C R) b).length ≤ 200000 := hD 10 27 (by decide) rfl
    simp only [List.drop_succ_cons, List.drop_zero, putAll, List.setIfInBounds_toArray, List.set_cons_zero, List.set_cons_succ]
    have H24 := Lib.hid h24
    obtain ⟨A5, c5, e5, _, _, r5, _⟩ := OwnB.form h27
    have R5 := Lib.hid r5
    have kg : Below W3.heap.size W3 w7 := (below_drewN (Below.refl _ _) 1).trans gg
    have HK7 := Lib.hid (HB3.out.trans (kg.mono HS3z.out))
    have HLN : Hid (([1] ++ varsL [C, R]).length ≤ 21) := Lib.hid (by rw [List.length_append]; have := HCR.out.2.1; simp only [List.length_cons, List.length_nil]; omega)
    have HL5 : Hid ((lay17 (blankS C R) b).length ≤ 200000) := Lib.hid hl27
    rw [e5]
    generalize f_ 17 = d17
    generalize f_ 18 = d18
    generalize f_ 19 = d19
    generalize f_ 20 = d20
    generalize f_ 21 = d21
    generalize f_ 22 = d22
    generalize f_ 23 = d23
    generalize f_ 24 = d24 at H24 ⊢
    generalize f_ 25 = d25
    generalize f_ 26 = d26
    generalize f_ 28 = d28
    clear hD gg h24 h27 hl27 r5 kg e5
    go_wp2_with (first
      | (at_builtin; refine wpList_appB _ rfl (.tmp 24) (.tmp 27) rfl w.heap.size _ _ rfl H24.out A5 _ c5 _ rfl rfl R5.out (by have := HLN.out; have := HL5.out; omega) HK7.out.size ?_; intro v8 w8 h8 hg8 _; have HO8 := Lib.hid h8; have HK8 := Lib.hid (HK7.out.grown hg8 HK7.out.size (fun q e => (Own.lt H24.out q e).1)); clear h8 hg8))
    go_ret2
    exact ⟨_, by rw [← HZ.out] <;> rfl, by rw [← HZ.out]; exact HO8.out, HK8.out⟩
set_option maxRecDepth 100000 in
set_option maxHeartbeats 16000000 in
theorem refEnc17_c (a b : ScD) (A1 : Option Addr) (n1 c1 : Nat) (L1 : Option Addr) (m1 k1 : Nat) (A : Option Addr) (n c : Nat) (L : Option Addr) (m cm : Nat) (w : World) (ha : ScR w a A1 n1 c1 L1 m1 k1) (hs : ScR w b A n c L m cm) (hc : ∀ d ∈ b.cells, CeOk d) (hma : 0 ≤ a.mouse) (hm : 0 ≤ b.mouse) (hU : TabU w) :
    Calls Tryd.prog 11 #[.agg (scC a A1 n1 c1 L1 m1 k1), .agg (scC b A n c L m cm)] w fun e w' => ∃ v, e = .returned (.tuple #[v, .int .i64 ((enc17 a b).2 : Int)]) ∧ OwnB w' w.heap.size v (enc17 a b).1 ∧ Below w.heap.size w w' := by
  obtain ⟨X, eX⟩ : ∃ X, X = scC a A1 n1 c1 L1 m1 k1 := ⟨_, rfl⟩
  obtain ⟨Y, eY⟩ : ∃ Y, Y = scC b A n c L m cm := ⟨_, rfl⟩
  rw [← eX, ← eY]
  obtain ⟨W0, eW0⟩ : ∃ W0, W0 = (w.alloc (.cells X 25)).alloc (.cells Y 25) := ⟨_, rfl⟩
  obtain ⟨p, ep⟩ : ∃ p, p = w.heap.size := ⟨_, rfl⟩
  obtain ⟨q, eq⟩ : ∃ q, q = w.heap.size + 1 := ⟨_, rfl⟩
  have hb0 : Below w.heap.size w W0 := by rw [eW0]; exact ((Below.refl _ _).alloc (Nat.le_refl _) _).alloc (by simp) _
  have HP0 : Hid (ScB W0 p a A1 n1 c1 L1 m1 k1) := Lib.hid (by rw [eW0, ep, eX]; exact (Below.heap_alloc _ _ _ (by simp)).trans (heap_alloc_new _ _))
  have HQ0 : Hid (ScB W0 q b A n c L m cm) := Lib.hid (by rw [eW0, eq, eY]; exact heap_alloc2_new _ _ _)
  have EW0 := Lib.hid eW0
  have EP := Lib.hid ep
  have EQ := Lib.hid eq
  have HB0 := Lib.hid hb0
  have HA0 := Lib.hid (ha.below hb0)
  have HR0 := Lib.hid (hs.below hb0)
  have HU0 := Lib.hid (hU.next hb0)
  have HCO := Lib.hid hc
  have HMO := Lib.hid hm
  have HMA := Lib.hid hma
  clear hm hma
  obtain ⟨Z, eZ⟩ : ∃ Z, enc17 a b = Z := ⟨_, rfl⟩
  rw [eZ]
  unfold enc17 at eZ
  clear eX eY eW0 ep eq hb0 ha hs hU hc
  obtain ⟨b1, e1⟩ : ∃ t, fit17 a = t := ⟨_, rfl⟩
  obtain ⟨b2, e2⟩ : ∃ t, fit17 b = t := ⟨_, rfl⟩
  rw [e1, e2] at eZ
  have E1 := Lib.hid e1
  have E2 := Lib.hid e2
  have EZ := Lib.hid eZ
  clear eZ e1 e2
  go_enter Tryd.func11, Tryd.ntmps11
  go_upto_region 1 with (fail)
  rw [← EW0.out, ← EQ.out, ← EP.out]
  cases b1
  · go_wp2_with (first
      | (refine wpList_load_row rfl 25 (.tmp 2) rfl p rfl 25 _ (0, 0) _ HP0.out Tryd.underlying25 rfl (info_sc.trans rfl) ?_)
      | (go_at_call 16; (refine (refFits17_c a A1 n1 c1 L1 m1 k1 W0 HA0.out HU0.out).mono ?_); rintro _ w1 ⟨rfl, hb1⟩; rw [E1.out]; have HB1 := Lib.hid (HB0.out.trans (hb1.mono HB0.out.size)); clear hb1))
    go_ret2
    exact ⟨_, by rw [← EZ.out] <;> rfl, by rw [← EZ.out]; exact Own.nil_ _ _ _, HB1.out⟩
  · cases b2
    · go_wp2_with (first
        | (refine wpList_load_row rfl 25 (.tmp 2) rfl p rfl 25 _ (0, 0) _ HP0.out Tryd.underlying25 rfl (info_sc.trans rfl) ?_)
        | ((with_reducible refine wpList_openG (o := ⟨some 10, _, _, _, _, _⟩) rfl ?_); (refine wpList_load_row rfl 25 (.tmp 3) rfl q rfl 25 _ (0, 0) _ HQ1.out Tryd.underlying25 rfl (info_sc.trans rfl) ?_))
        | (go_at_call 16; (refine (refFits17_c b A n c L m cm w1 HR1.out HU1.out).mono ?_); rintro _ w2 ⟨rfl, hb2⟩; rw [E2.out]; have HB2 := Lib.hid (HB1.out.trans (hb2.mono HB1.out.size)); clear hb2)
        | (go_at_call 16; (refine (refFits17_c a A1 n1 c1 L1 m1 k1 W0 HA0.out HU0.out).mono ?_); rintro _ w1 ⟨rfl, hb1⟩; rw [E1.out]; have HB1 := Lib.hid (HB0.out.trans (hb1.mono HB0.out.size)); have HR1 := Lib.hid (HR0.out.below hb1); have HQ1 := Lib.hid (HQ0.out.below hb1); have HU1 := Lib.hid (HU0.out.next hb1); clear hb1))
      go_ret2
      exact ⟨_, by rw [← EZ.out] <;> rfl, by rw [← EZ.out]; exact Own.nil_ _ _ _, HB2.out⟩
    · obtain ⟨C1, R1, hf1⟩ := fit17_of E1.out
      obtain ⟨C, R, hf⟩ := fit17_of E2.out
      have HF1 := Lib.hid hf1
      have HF := Lib.hid hf
      clear hf1 hf
      go_upto_if 13 with (first
        | (refine wpList_load_row rfl 25 (.tmp 2) rfl p rfl 25 _ (0, 0) _ HP0.out Tryd.underlying25 rfl (info_sc.trans rfl) ?_)
        | ((with_reducible refine wpList_openG (o := ⟨some 10, _, _, _, _, _⟩) rfl ?_); (refine wpList_load_row rfl 25 (.tmp 3) rfl q rfl 25 _ (0, 0) _ HQ1.out Tryd.underlying25 rfl (info_sc.trans rfl) ?_))
        | (go_at_call 16; (refine (refFits17_c b A n c L m cm w1 HR1.out HU1.out).mono ?_); rintro _ w2 ⟨rfl, hb2⟩; rw [E2.out]; have HB2 := Lib.hid (HB1.out.trans (hb2.mono HB1.out.size)); have HR2 := Lib.hid (HR1.out.below hb2); have HA2 := Lib.hid (HA1.out.below hb2); have HQ2 := Lib.hid (HQ1.out.below hb2); have HP2 := Lib.hid (HP1.out.below hb2); have HU2 := Lib.hid (HU1.out.next hb2); clear hb2)
        | (go_at_call 16; (refine (refFits17_c a A1 n1 c1 L1 m1 k1 W0 HA0.out HU0.out).mono ?_); rintro _ w1 ⟨rfl, hb1⟩; rw [E1.out]; have HB1 := Lib.hid (HB0.out.trans (hb1.mono HB0.out.size)); have HR1 := Lib.hid (HR0.out.below hb1); have HA1 := Lib.hid (HA0.out.below hb1); have HQ1 := Lib.hid (HQ0.out.below hb1); have HP1 := Lib.hid (HP0.out.below hb1); have HU1 := Lib.hid (HU0.out.next hb1); clear hb1))
      have x0 : w2.cell? ⟨p, 0, none⟩ = some (.int .i64 (C1 : Int)) := by rw [← HF1.out.c]; exact HP2.out.nine.1
      have x1 : w2.cell? ⟨p, 1, none⟩ = some (.int .i64 (R1 : Int)) := by rw [← HF1.out.r]; exact HP2.out.nine.2.1
      have y0 : w2.cell? ⟨q, 0, none⟩ = some (.int .i64 (C : Int)) := by rw [← HF.out.c]; exact HQ2.out.nine.1
      have y1 : w2.cell? ⟨q, 1, none⟩ = some (.int .i64 (R : Int)) := by rw [← HF.out.r]; exact HQ2.out.nine.2.1
      by_cases hC : C1 = C
      · have hC' : ((C1 : Int) == (C : Int)) = true := by rw [hC]; exact beq_self_eq_true _
        have hCn : ((C1 : Int) != (C : Int)) = false := by rw [bne, hC']; rfl
        by_cases hR : R1 = R
        · have hR' : ((R1 : Int) == (R : Int)) = true := by rw [hR]; exact beq_self_eq_true _
          have hRn : ((R1 : Int) != (R : Int)) = false := by rw [bne, hR']; rfl
          have HZ : Hid ((lay17 a b, 0) = Z) := Lib.hid (by rw [← EZ.out, HF1.out.c, HF1.out.r, HF.out.c, HF.out.r, hC', hR']; rfl)
          have HAL : Hid (a.cells.length = C * R) := Lib.hid (by rw [HF1.out.len, hC, hR])
          clear hC hR
          go_wp2_with (first
            | (refine wpList_load_row rfl 25 (.tmp 2) rfl p rfl 25 _ (0, 0) _ HP2.out Tryd.underlying25 rfl (info_sc.trans rfl) ?_)
            | (refine wpList_load_row rfl 25 (.tmp 3) rfl q rfl 25 _ (0, 0) _ HQ2.out Tryd.underlying25 rfl (info_sc.trans rfl) ?_)
            | (go_at_call 21; (refine (diff17_c a b A1 n1 c1 L1 m1 k1 A n c L m cm C R w2 HA2.out HR2.out HF.out HCO.out HAL.out HMO.out).mono ?_); rintro _ w4 ⟨v4, rfl, ho4, hb4, -⟩; have HO4 := Lib.hid (Own.low ho4 HB2.out.size); have HB4 := Lib.hid (HB2.out.trans (hb4.mono HB2.out.size)); clear ho4 hb4))
          go_ret2
          exact ⟨_, by rw [← HZ.out] <;> rfl, by rw [← HZ.out]; exact HO4.out, HB4.out⟩
        · have hR' : ((R1 : Int) == (R : Int)) = false := by rw [beq_eq_false_iff_ne]; omega
          have hRn : ((R1 : Int) != (R : Int)) = true := by rw [bne, hR']; rfl
          have HZ : Hid (full17 b = Z) := Lib.hid (by rw [← EZ.out, HF1.out.c, HF1.out.r, HF.out.c, HF.out.r, hC', hR']; rfl)
          clear hC hR
          go_wp2_with (first
            | (refine wpList_load_row rfl 25 (.tmp 3) rfl q rfl 25 _ (0, 0) _ HQ2.out Tryd.underlying25 rfl (info_sc.trans rfl) ?_)
            | (go_at_call 13; (refine (refFull17_c b A n c L m cm w2 HR2.out HCO.out HMO.out HU2.out).mono ?_); rintro _ w4 ⟨v4, rfl, ho4, hb4⟩; have HO4 := Lib.hid (Own.low ho4 HB2.out.size); have HB4 := Lib.hid (HB2.out.trans (hb4.mono HB2.out.size)); clear ho4 hb4))
          go_ret2
          exact ⟨_, by rw [← HZ.out] <;> rfl, by rw [← HZ.out]; exact HO4.out, HB4.out⟩
      · have hC' : ((C1 : Int) == (C : Int)) = false := by rw [beq_eq_false_iff_ne]; omega
        have hCn : ((C1 : Int) != (C : Int)) = true := by rw [bne, hC']; rfl
        have HZ : Hid (full17 b = Z) := Lib.hid (by rw [← EZ.out, HF1.out.c, HF1.out.r, HF.out.c, HF.out.r, hC']; rfl)
        clear hC
        go_wp2_with (first
          | (refine wpList_load_row rfl 25 (.tmp 3) rfl q rfl 25 _ (0, 0) _ HQ2.out Tryd.underlying25 rfl (info_sc.trans rfl) ?_)
          | (go_at_call 13; (refine (refFull17_c b A n c L m cm w2 HR2.out HCO.out HMO.out HU2.out).mono ?_); rintro _ w4 ⟨v4, rfl, ho4, hb4⟩; have HO4 := Lib.hid (Own.low ho4 HB2.out.size); have HB4 := Lib.hid (HB2.out.trans (hb4.mono HB2.out.size)); clear ho4 hb4))
        go_ret2
        exact ⟨_, by rw [← HZ.out] <;> rfl, by rw [← HZ.out]; exact HO4.out, HB4.out⟩
end Go.Proofs.YtnnekdefncfeeaaDoor


/- A region that draws its order, whose last operations wait for all others, and two of whose operations make a block each: the two blocks differ. Conditions: none. -/
namespace Go.Proofs.YtnnekdefncfeeaaDoor
open Go Go.RowKit

/-- Where both are done, their values differ. -/
def PairOf (p q dp dq : Nat) (listed : Array Bool) (b : Act) : Prop := listed.getD p false = true → listed.getD q false = true → b.tmps.getD dp undef ≠ b.tmps.getD dq undef
section
variable {P : Program} {ops : Array Oper} {Q : Exit → Act → World → Prop} {G : World → World → Prop} {R : Nat → World → Value → Prop} {a0 : Act} {W0 : World}
theorem pair_put {m n i p q dp dq : Nat} {listed : Array Bool} {a : Act} {v : World} {o : Oper} {u : Value} (ho : ops[i]? = some o) (hok : slotsOk ops n = true) (hn : a0.tmps.size = n) (h : RInvT ops m G R a0 W0 listed a v) (hP : PairOf p q dp dq listed a)
    (hpq : p ≠ q) (hdp : dstOf ops p = some dp) (hdq : dstOf ops q = some dq)
    (hold : ∀ j, (j = p ∨ j = q) → ∀ (w' : World) (x : Value), R j w' x → ∃ g, x = .pointer (some ⟨g, 0, none⟩) ∧ g < w'.heap.size)
    (hf : (i = p ∨ i = q) → ∃ g, u = .pointer (some ⟨g, 0, none⟩) ∧ v.heap.size ≤ g) (hi : i < ops.size) : PairOf p q dp dq (listed.setIfInBounds i true) (a.put o.dst u) := by
  have hls : i < listed.size := by rw [h.lsize]; exact hi
  have hdo : dstOf ops i = o.dst := by unfold dstOf; rw [ho]; rfl
  have get : ∀ t, (a.put o.dst u).tmps.getD t undef = if o.dst = some t ∧ t < n then u else a.tmps.getD t undef := by
    intro t
    unfold Act.put
    cases hd : o.dst with
    | none => simp
    | some d =>
      by_cases e : d = t
      · subst e
        have hlt : d < n := slotsOk_lt hok (hdo.trans hd)
        have hlt2 : d < a.tmps.size := by rw [h.size, hn]; exact hlt
        simp [hlt, hlt2]
      · simp [e, Array.getElem?_setIfInBounds_ne e]
  have same : ∀ {j d}, dstOf ops j = some d → j ≠ i → (a.put o.dst u).tmps.getD d undef = a.tmps.getD d undef := by
    intro j d hd hj
    rw [get, if_neg]
    rintro ⟨e, _⟩
    exact hj (slotsOk_ne hok hd (hdo.trans e))
  have mine : ∀ {d}, dstOf ops i = some d → (a.put o.dst u).tmps.getD d undef = u := by
    intro d hd
    rw [get, if_pos ⟨hdo.symm.trans hd, slotsOk_lt hok hd⟩]
  intro h1 h2
  rw [set_get _ _ _ hls] at h1 h2
  by_cases e1 : i = p
  · subst e1
    rw [if_neg hpq] at h2
    rw [mine hdp, same hdq (Ne.symm hpq)]
    obtain ⟨g, e, hg⟩ := hf (.inl rfl)
    obtain ⟨g', e', hg'⟩ := hold q (.inr rfl) v _ (h.rel q dq h2 hdq)
    rw [e, e']
    intro hx
    injection hx with hx
    injection hx with hx
    injection hx with hx
    omega
  · rw [if_neg e1] at h1
    by_cases e2 : i = q
    · subst e2
      rw [mine hdq, same hdp (Ne.symm e1)]
      obtain ⟨g, e, hg⟩ := hf (.inr rfl)
      obtain ⟨g', e', hg'⟩ := hold p (.inl rfl) v _ (h.rel p dp h1 hdp)
      rw [e, e']
      intro hx
      injection hx with hx
      injection hx with hx
      injection hx with hx
      omega
    · rw [if_neg e2] at h2
      rw [same hdp (Ne.symm e1), same hdq (Ne.symm e2)]
      exact hP h1 h2
theorem wp_region_rel_pair (n m p q dp dq : Nat) (hdp : dstOf ops p = some dp) (hdq : dstOf ops q = some dq) (hpq : p ≠ q) (hpm : p < m) (hqm : q < m) {id : Nat} {a : Act} {w : World} (hm : P.follows .mixedOrders = true) (hn : a.tmps.size = n) (hok : slotsOk ops n = true)
    (hsz : m < ops.size) (hwa : waitsAll ops m = true) (hch : chained ops m = true)
    (G : World → World → Prop) (R : Nat → World → Value → Prop) (hr : ∀ w, G w w) (ht : ∀ {a b c}, G a b → G b c → G a c) (hmo : ∀ j {a b v}, R j a v → G a b → R j b v)
    (step : ∀ (i : Nat) (o : Oper), i < m → ops[i]? = some o → ∀ (f : Nat → Value) (w' : World), G w.drew w' → (∀ t, writesTo ops m t = false → f t = a.tmps.getD t undef) →
      (∀ j d, depOn ops i j = true → dstOf ops j = some d → R j w' (f d)) → if Region.wanted o (yieldedF ops f) = true then Gives P o f w' (fun v w'' => G w' w'' ∧ R i w'' v ∧ ((i = p ∨ i = q) → ∃ g, v = .pointer (some ⟨g, 0, none⟩) ∧ w'.heap.size ≤ g)) else (R i w' undef ∧ ¬ (i = p ∨ i = q)))
    (hold : ∀ j, (j = p ∨ j = q) → ∀ (w' : World) (x : Value), R j w' x → ∃ g, x = .pointer (some ⟨g, 0, none⟩) ∧ g < w'.heap.size)
    (fin : ∀ (f : Nat → Value) (w' : World), G w.drew w' → (∀ t, writesTo ops m t = false → f t = a.tmps.getD t undef) → (∀ j d, j < m → dstOf ops j = some d → R j w' (f d)) → f dp ≠ f dq → wpList P ops Q (ops.toList.drop m) ⟨((List.range n).map f).toArray, a.defers⟩ w') :
    (Code.region id ops true).wp P Q a w := by
  refine wp_region_any hm ?_
  have key : ∀ (fuel : Nat) (listed : Array Bool) (b : Act) (v : World), RInvT ops m G R a w.drew listed b v → PairOf p q dp dq listed b → (∀ i j, listed.getD i false = true → depOn ops i j = true → listed.getD j false = true) → (∀ i, m ≤ i → i < ops.size → listed.getD i false = false) →
      ((List.range ops.size).countP (fun i => listed.getD i false == false)) ≤ fuel → wpAny P .any ops Q fuel listed b v := by
    intro fuel
    induction fuel with
    | zero =>
      intro listed b v h hP _ hml hc
      have := List.countP_eq_zero.1 (Nat.le_zero.1 hc) m (List.mem_range.2 hsz)
      rw [hml m (Nat.le_refl _) hsz] at this
      exact absurd rfl this
    | succ fuel ih =>
      intro listed b v h hP hcl hml hc
      by_cases hall : ∀ i, i < m → listed.getD i false = true
      · have hcount : ops.size - m ≤ fuel + 1 := by
          refine Nat.le_trans ?_ hc
          have e : (List.range ops.size) = List.range m ++ (List.range (ops.size - m)).map (m + ·) := by
            rw [← List.range_add]; congr 1; omega
          rw [e, List.countP_append]
          have : ((List.range (ops.size - m)).map (m + ·)).countP (fun i => listed.getD i false == false) = ops.size - m := by
            rw [List.countP_eq_length.2]
            · simp
            · intro i hi
              obtain ⟨q, hq, rfl⟩ := List.mem_map.1 hi
              have := List.mem_range.1 hq
              rw [hml (m + q) (by omega) (by omega)]
              rfl
          omega
        have hb : b = ⟨((List.range n).map (fun t => b.tmps.getD t undef)).toArray, a.defers⟩ := by
          have hs : b.tmps.size = n := h.size.trans hn
          have e : b.tmps = ((List.range n).map (fun t => b.tmps.getD t undef)).toArray := by
            apply Array.ext
            · simp [hs]
            · intro i h1 h2
              simp [h1]
          rw [← h.defers, ← e]
        have hf := fin (fun t => b.tmps.getD t undef) v h.grow h.frame (fun j d hj hd => h.rel j d (hall j hj) hd) (hP (hall p hpm) (hall q hqm))
        rw [← hb] at hf
        have e1 : ops.size - (ops.size - m) = m := by omega
        refine tailAny hok hch (ops.size - m) (fuel + 1) listed b v h.lsize (by omega) (by omega) (fun i hi => ?_) hcount (by rw [e1]; exact hf)
        rw [e1]
        constructor
        · intro h1
          rcases Nat.lt_or_ge i m with h2 | h2
          · exact h2
          · rw [hml i h2 hi] at h1; cases h1
        · exact hall i
      · have lessm : ∀ i, i ∈ Region.ready .any ops listed → i < m := by
          intro i hi
          obtain ⟨h1, h2⟩ := ready_open h.lsize hi
          rcases Nat.lt_trichotomy i m with h3 | h3 | h3
          · exact h3
          · exfalso
            subst h3
            apply hall
            intro j hj
            have h4 := List.all_eq_true.1 hwa j (List.mem_range.2 hj)
            have h5 := ups_in ops (fun x => x = i ∨ listed.getD x false = true) (fun p q hp hd => by
              rcases hp with rfl | hp
              · exact .inr (not_ready_of hi q hd)
              · exact .inr (hcl p q hp hd)) i [i] (fun x hx => .inl (by simpa using hx)) j (by simpa using h4)
            rcases h5 with h5 | h5
            · omega
            · exact h5
          · have h4 := List.all_eq_true.1 hch i (List.mem_range.2 h2)
            simp only [Bool.or_eq_true, decide_eq_true_eq] at h4
            rcases h4 with h4 | h4
            · omega
            · have h5 := not_ready_of hi (i - 1) h4
              rw [hml (i - 1) (by omega) (by omega)] at h5; cases h5
        refine ⟨fun h0 => ?_, fun i hi => ?_⟩
        · exfalso
          apply hall
          intro i
          induction i using Nat.strongRecOn with
          | _ i ih2 =>
            intro hi
            cases hc2 : listed.getD i false with
            | true => rfl
            | false =>
              have := ready_mk hok h.lsize (by omega : i < ops.size) hc2 (fun j hj => ih2 j hj (by omega))
              rw [h0] at this; cases this
        · have him := lessm i hi
          obtain ⟨h2, hlt⟩ := ready_open h.lsize hi
          obtain ⟨h1, o, ho, _⟩ := mem_ready.1 hi
          have hls : i < listed.size := by rw [h.lsize]; exact hlt
          have hdep := not_ready_of hi
          have hcl' : ∀ p j, (listed.setIfInBounds i true).getD p false = true → depOn ops p j = true → (listed.setIfInBounds i true).getD j false = true := by
            intro p j hp hd
            rw [set_get _ _ _ hls] at hp ⊢
            split
            · rfl
            · split at hp
              · rename_i e; subst e; exact hdep j hd
              · exact hcl p j hp hd
          have hml' : ∀ q, m ≤ q → q < ops.size → (listed.setIfInBounds i true).getD q false = false := by
            intro q h3 h4
            rw [set_get _ _ _ hls, if_neg (by omega)]
            exact hml q h3 h4
          have hcnt : (List.range ops.size).countP (fun k => (listed.setIfInBounds i true).getD k false == false) ≤ fuel := by
            have gen : ∀ (l : List Nat), i ∈ l → l.countP (fun k => (listed.setIfInBounds i true).getD k false == false) < l.countP (fun k => listed.getD k false == false) := by
              have le : ∀ (l : List Nat), l.countP (fun k => (listed.setIfInBounds i true).getD k false == false) ≤ l.countP (fun k => listed.getD k false == false) := by
                intro l
                apply List.countP_mono_left
                intro k _ hk
                rw [set_get _ _ _ hls] at hk
                split at hk
                · cases hk
                · exact hk
              intro l hl
              induction l with
              | nil => cases hl
              | cons k l ihl =>
                by_cases e : i = k
                · subst e
                  have := le l
                  have h2' : (listed.getD i false == false) = true := by rw [h2]; rfl
                  rw [List.countP_cons_of_pos (p := fun k => listed.getD k false == false) (by exact h2'), List.countP_cons_of_neg (by simp [hls])]
                  omega
                · have hl' : i ∈ l := by
                    rcases List.mem_cons.1 hl with h | h
                    · exact absurd h e
                    · exact h
                  have := ihl hl'
                  have e2 : (listed.setIfInBounds i true).getD k false = listed.getD k false := by rw [set_get _ _ _ hls, if_neg e]
                  rw [List.countP_cons, List.countP_cons, e2]
                  omega
            have := gen _ (List.mem_range.2 hlt)
            omega
          have hs := step i o him ho (fun t => b.tmps.getD t undef) v h.grow h.frame (fun j d hj hd => h.rel j d (hdep j hj) hd)
          unfold wpOp
          simp only [ho]
          rw [yielded_eqF hok b (h.size.trans hn)]
          split
          · rename_i hw
            rw [if_pos hw] at hs
            refine .inl (Gives.wp ?_)
            unfold Gives at hs ⊢
            generalize (execOp (evF fun t => b.tmps.getD t undef) o).run P v = r at hs
            cases r with
            | ok nx w' =>
              cases nx <;> simp only at hs ⊢
              case value u => exact ih _ _ _ (h.put him ho hok hn ht hmo hs.1 hs.2.1 hlt) (pair_put ho hok hn h hP hpq hdp hdq hold hs.2.2 hlt) hcl' hml' hcnt
              case skip => exact ih _ _ _ (h.put him ho hok hn ht hmo hs.1 hs.2.1 hlt) (pair_put ho hok hn h hP hpq hdp hdq hold hs.2.2 hlt) hcl' hml' hcnt
              case enter k args => exact Calls.mono hs fun e w'' ⟨u, he, hg, hR, hF⟩ => ⟨u, he, ih _ _ _ (h.put him ho hok hn ht hmo hg hR hlt) (pair_put ho hok hn h hP hpq hdp hdq hold hF hlt) hcl' hml' hcnt⟩
            | halt x w' => exact hs.elim
          · rename_i hw
            rw [if_neg hw] at hs
            exact ih _ _ _ (h.put him ho hok hn ht hmo (hr v) hs.1 hlt) (pair_put ho hok hn h hP hpq hdp hdq hold (fun e => absurd e hs.2) hlt) hcl' hml' hcnt
  have none0 : ∀ i, (Array.replicate ops.size false).getD i false = false := by
    intro i
    by_cases h : i < ops.size
    · simp [h]
    · simp [h]
  refine key ops.size _ a _ ⟨hr _, rfl, rfl, by simp, fun t _ => rfl, fun j d hl hd => ?_⟩ (fun h1 _ => by rw [none0] at h1; cases h1) (fun i j hi _ => ?_) (fun i _ _ => none0 i) ?_
  · rw [none0] at hl; cases hl
  · rw [none0] at hi; cases hi
  · refine Nat.le_trans List.countP_le_length ?_
    simp
end
/-- One operation's step, with what is new. -/
def StpP (P : Program) (ops : Array Oper) (m p q : Nat) (a : Act) (W : World) (l : List Rl) (i : Nat) (o : Oper) : Prop :=
  ∀ (f : Nat → Value) (w : World), Gr W w → (∀ t, writesTo ops m t = false → f t = a.tmps.getD t undef) →
      (∀ j d, depOn ops i j = true → dstOf ops j = some d → relOf l j w (f d)) → if Region.wanted o (yieldedF ops f) = true then Gives P o f w (fun v w'' => Gr w w'' ∧ relOf l i w'' v ∧ ((i = p ∨ i = q) → ∃ g, v = .pointer (some ⟨g, 0, none⟩) ∧ w.heap.size ≤ g)) else (relOf l i w undef ∧ ¬ (i = p ∨ i = q))
theorem wp_region_rp {P : Program} (n m p q dp dq : Nat) (l : List Rl) (ws : List Nat) {id : Nat} {os : List Oper} {Q : Exit → Act → World → Prop} {a : Act} {w : World} (hm : P.follows .mixedOrders = true) (hn : a.tmps.size = n) (hok : slotsOk os.toArray n = true) (hws : allIn os.toArray ws = true)
    (hsz : m < os.toArray.size) (hwa : waitsAll os.toArray m = true) (hch : chained os.toArray m = true)
    (hdp : dstOf os.toArray p = some dp) (hdq : dstOf os.toArray q = some dq) (hpq : p ≠ q) (hpm : p < m) (hqm : q < m)
    (hold : ∀ j, (j = p ∨ j = q) → ∀ (w' : World) (x : Value), relOf l j w' x → ∃ g, x = .pointer (some ⟨g, 0, none⟩) ∧ g < w'.heap.size)
    (steps : AllFrom (StpP P os.toArray m p q a w.drew l) 0 (os.take m))
    (fin : ∀ (f : Nat → Value) (w' : World), Gr w.drew w' → (∀ j d, j < m → dstOf os.toArray j = some d → relOf l j w' (f d)) → f dp ≠ f dq → wpList P os.toArray Q (os.drop m) ⟨putAll f ws a.tmps, a.defers⟩ w') :
    (Code.region id os.toArray true).wp P Q a w := by
  refine wp_region_rel_pair n m p q dp dq hdp hdq hpq hpm hqm hm hn hok hsz hwa hch Gr (relOf l) Gr.refl Gr.trans (fun j _ _ _ h g => (l.getD j Rl.any).mono h g) (fun i o' hi ho => ?_) hold (fun f w' g hF hD hne => ?_)
  · exact AllFrom.outT os m steps i o' hi (by simpa using ho)
  · have e : ((List.range n).map f).toArray = putAll f ws a.tmps := by
      apply Array.ext
      · rw [putAll_size, hn]; simp
      · intro t h1 h2
        have ht : t < n := by simpa using h1
        have h3 := putAll_get f ws a.tmps t (by rw [hn]; exact ht) (by
          by_cases hw : writesTo os.toArray m t = true
          · left
            obtain ⟨j, hj, hd⟩ := List.any_eq_true.1 hw
            have hd := beq_iff_eq.1 hd
            have := List.all_eq_true.1 hws j (List.mem_range.2 (by have := List.mem_range.1 hj; omega))
            rw [hd] at this
            simpa using this
          · right
            exact (hF t (by simpa using hw)).symm)
        have h4 : (putAll f ws a.tmps)[t] = f t := by
          rw [← h3]; simp [h2]
        rw [h4]; simp
    rw [e]
    simpa using fin f w' g hD hne
end Go.Proofs.YtnnekdefncfeeaaDoor

