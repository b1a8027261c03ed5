/- Parts one behind the other: The walk of ProjectShows: of any screen and any features the answer is the document's; what is handed in stays. Conditions: as told at each. -/
import Derived.Test.YtipofokinjkclaaDoorPB20
import Derived.Laws.Concat

set_option linter.unusedVariables false
set_option linter.unusedSimpArgs false
/- The walk of ProjectShows: of any screen and any features the answer is the document's; what is handed in stays. Conditions: the tables lie where they were laid. -/
namespace Go.Proofs.YtipofokinjkclaaDoor
open Go Go.RowKit Go.Lib

theorem nat32 {a : Int} (w : (Lit.int .u32 a).wf = true) : ∃ f : Nat, a = (f : Int) ∧ f < 4294967296 := by
  have := wf_u32 w
  exact ⟨a.toNat, by omega, by omega⟩
theorem run_addx (t : TypeId) (u : ByteArray) (w : World) (h : u.size ≤ 140737488355328) : (binOp .add t (.string u) (.string ⟨#[120]⟩)).run Tryd.prog w = .ok (.string (u ++ ⟨#[120]⟩)) w := by
  rw [binOp_string_add]
  exact run_string_add_sum _ _ _ (by have : (ByteArray.size ⟨#[120]⟩) = 1 := rfl; omega)
theorem OwnT.to_n {w : World} {B b n c : Nat} {ss : List ByteArray} (h : OwnT w B (.slice (some ⟨b, 0, none⟩) n c) ss) : w.ownsRow B 9 1 (.slice (some ⟨b, 0, none⟩) n c) n (strV ss) := by
  have := (OwnT.parts h).1
  subst this
  simpa [OwnT, Own, strV] using h
theorem OwnT.cellAt {w : World} {B b n c : Nat} {ss : List ByteArray} (h : OwnT w B (.slice (some ⟨b, 0, none⟩) n c) ss) (k : Nat) (hk : k < ss.length) : w.cell? ⟨b, k, none⟩ = some (.string ss[k]) := by
  rw [(OwnT.to_n h).cellAt k (by rw [← (OwnT.parts h).1]; omega)]
  simp [strV, hk]
theorem OwnT.free {w : World} {B b n c : Nat} {ss : List ByteArray} (h : OwnT w B (.slice (some ⟨b, 0, none⟩) n c) ss) (k : Nat) : w.frozen? ⟨b, k, none⟩ = false := (OwnT.to_n h).frozenAt k
theorem OwnT.set1 {w : World} {B b n c : Nat} {ss : List ByteArray} (h : OwnT w B (.slice (some ⟨b, 0, none⟩) n c) ss) (k : Nat) (hk : k < ss.length) (u : ByteArray) : OwnT (w.setCell ⟨b, k, none⟩ (.string u)) B (.slice (some ⟨b, 0, none⟩) n c) (ss.set k u) := by
  have h2 := ((OwnT.to_n h).stored k (.string u)).1
  have e : (strV ss).set k (.string u) = strV (ss.set k u) := by simp [strV, List.map_set]
  rw [e] at h2
  have hl := (OwnT.parts h).1
  subst hl
  simpa [OwnT, Own, strV] using h2
/-- Where a slice of one's own lies. -/
structure Lies (A : Option Addr) (B g : Nat) : Prop where
  at_ : ∀ a, A = some a → B ≤ a.block ∧ a.block < g ∧ a.off = 0 ∧ a.spot = none
set_option maxRecDepth 100000 in
set_option maxHeartbeats 16000000 in
theorem ProjectShows_walk (w : World) (s : ScD) (A : Option Addr) (n c : Nat) (L : Option Addr) (m cm : Nat) (hs : ScO w s A n c L m cm) (ft : Int) (wf : (Lit.int .u32 ft).wf = true) (hU : TabU w) (hC : TabC w) :
    Calls Tryd.prog 5 #[.agg (scC s A n c L m cm), .int .u32 ft] w fun r w' => r = .returned (.bool true) ∧ Below w.heap.size w w' := by
  obtain ⟨f, rfl, hf⟩ := nat32 wf
  clear wf
  obtain ⟨X, eX⟩ : ∃ X, X = scC s A n c L m cm := ⟨_, rfl⟩
  rw [← eX]
  obtain ⟨W0, eW0⟩ : ∃ W0, W0 = w.alloc (.cells X 25) := ⟨_, rfl⟩
  obtain ⟨p, ep⟩ : ∃ p, p = w.heap.size := ⟨_, rfl⟩
  have hb0 : Below w.heap.size w W0 := by rw [eW0]; exact (Below.refl _ _).alloc (Nat.le_refl _) _
  have HP0 : Hid (ScB W0 p s A n c L m cm) := Lib.hid (by rw [eW0, ep, eX]; exact heap_alloc_new _ _)
  have EW0 := Lib.hid eW0
  have EP := Lib.hid ep
  have HB0 := Lib.hid hb0
  have HF := Lib.hid hf
  have HS := Lib.hid hs
  have HU := Lib.hid hU
  have HC := Lib.hid hC
  clear eX eW0 ep hb0 hf hs hU hC
  obtain ⟨GB, eGB⟩ : ∃ b, greatB n s.title.size m = b := ⟨_, rfl⟩
  have HGB := Lib.hid eGB
  clear eGB
  go_enter Tryd.func5, Tryd.ntmps5
  go_upto_region 1 with (fail)
  rw [← EW0.out, ← EP.out]
  cases GB
  rotate_left
  · go_wp2_with (first
      | (refine wpList_load_row rfl 25 (.tmp 2) rfl p rfl 25 _ (0, 0) _ HP0.out Tryd.underlying25 rfl (info_sc.trans rfl) ?_)
      | (go_at_call 28; (refine (great15_c s A n c L m cm W0).mono ?_); rintro _ w1 ⟨rfl, hb1⟩; rw [HGB.out]; have HB1 := Lib.hid (HB0.out.trans (hb1.mono HB0.out.size)); clear hb1)
      | (go_at_call 29; (refine (fixed15_c w1 (HU.out.next HB1.out) (HC.out.next HB1.out)).mono ?_); rintro _ w2 ⟨rfl, hb2⟩; have HB2 := Lib.hid (HB1.out.trans (hb2.mono HB1.out.size)); clear hb2))
    go_ret
    exact ⟨rfl, HB2.out⟩
  · have HSM := Lib.hid (greatB_no HGB.out)
    have HSO : Hid (Sound s) := Lib.hid (HS.out.sound (by have := HSM.out; omega) (by have := HSM.out; omega) (by have := HSM.out; omega))
    have HRS : Hid (ScR w s A n c L m cm) := Lib.hid (HS.out.small (by have := HSM.out; omega) (by have := HSM.out; omega) (by have := HSM.out; omega))
    go_upto_region 4 with (first
      | (refine wpList_load_row rfl 25 (.tmp 2) rfl p rfl 25 _ (0, 0) _ HP0.out Tryd.underlying25 rfl (info_sc.trans rfl) ?_)
      | (go_at_call 28; (refine (great15_c s A n c L m cm W0).mono ?_); rintro _ w1 ⟨rfl, hb1⟩; rw [HGB.out]; have HB1 := Lib.hid (HB0.out.trans (hb1.mono HB0.out.size)); replace HP0 := Lib.hid (HP0.out.below hb1); clear hb1)
      | (go_at_call 19; (refine (refCopyS_c s A n c L m cm w1 (HRS.out.below HB1.out)).mono ?_); rintro _ w2 ⟨A2, c2, L2, d2, rfl, ho2, ht2, _, hb2⟩; have HB2 := Lib.hid (HB1.out.trans (hb2.mono HB1.out.size)); replace HP0 := Lib.hid (HP0.out.below hb2); have HO2 := Lib.hid ho2; have HT2 := Lib.hid ht2; clear ho2 ht2 hb2)
      | (refine wpList_store_rowTo rfl 25 (.tmp 5) (.tmp 13) rfl rfl w2.heap.size (scC s A2 n c2 L2 m d2) rfl rfl 25 _ (heap_alloc_new w2 _) (info_sc.trans rfl) rfl (sc_one _ _ _ _ _ _ _) ?_))
    generalize eX3 : World.alloc w2 _ = X3
    have hx : Below w2.heap.size w2 X3 := by rw [← eX3]; exact (Below.refl _ _).alloc (Nat.le_refl _) _
    obtain ⟨old, hq2⟩ : ∃ old, X3.heap[w2.heap.size]? = some (.cells old 25 (0, 0)) := ⟨_, by rw [← eX3]; exact heap_alloc_new _ _⟩
    obtain ⟨g, eg⟩ : ∃ g, g = w2.heap.size := ⟨_, rfl⟩
    obtain ⟨W3, eW3⟩ : ∃ W, W = X3.setRow w2.heap.size (scC s A2 n c2 L2 m d2) := ⟨_, rfl⟩
    rw [← eW3, ← eg]
    have HG3 : Hid (ScB W3 g s A2 n c2 L2 m d2) := Lib.hid (by rw [eW3, eg]; exact setRow_heap _ _ _ _ _ _ hq2)
    have hb3 : Below w2.heap.size w2 W3 := by rw [eW3]; exact below_setRow hx (Nat.le_refl _) _
    have HB3 := Lib.hid (HB2.out.trans (hb3.mono HB2.out.size))
    have HO3 := Lib.hid (OwnC.below HO2.out hb3)
    have HT3 : Hid (OwnT W3 w1.heap.size (.slice L2 m d2) s.links) := Lib.hid (Own.below HT2.out hb3)
    have HP3 := Lib.hid (HP0.out.below hb3)
    have HR3 : Hid (ScR W3 s A2 n c2 L2 m d2) := Lib.hid (HSO.out.read HO3.out HT3.out)
    have HRS3 : Hid (ScR W3 s A n c L m cm) := Lib.hid (HRS.out.below HB3.out)
    clear eX3 hx hq2 eg eW3 hb3 HO2 HT2 HP0
    go_upto_region 5 with (first
      | (refine wpList_load_row rfl 25 (.tmp 5) rfl g rfl 25 _ (0, 0) _ HG3.out Tryd.underlying25 rfl (info_sc.trans rfl) ?_)
      | (go_at_call 30; (refine (pj_c s A2 n c2 L2 m d2 f W3 HSO.out HR3.out HF.out (HU.out.next HB3.out) (HC.out.next HB3.out)).mono ?_); rintro _ w4 ⟨v4, rfl, hv4, hb4⟩; obtain ⟨A4, n4, c4, L4, m4, d4, rfl, ho4, ht4, hap4⟩ := hv4; have HB4 := Lib.hid hb4; have HO4 := Lib.hid ho4; have HT4 := Lib.hid ht4; clear ho4 ht4 hap4 hb4)
      | (refine wpList_store_rowTo rfl 25 (.tmp 6) (.tmp 16) rfl rfl w4.heap.size (scC (PJ f s) A4 n4 c4 L4 m4 d4) rfl rfl 25 _ (heap_alloc_new w4 _) (info_sc.trans rfl) rfl (sc_one _ _ _ _ _ _ _) ?_))
    obtain ⟨N, eN⟩ : ∃ N, N = PJ f s := ⟨_, rfl⟩
    rw [← eN] at HO4 HT4 ⊢
    generalize eX5 : World.alloc w4 _ = X5
    have hx : Below w4.heap.size w4 X5 := by rw [← eX5]; exact (Below.refl _ _).alloc (Nat.le_refl _) _
    obtain ⟨old, hq2⟩ : ∃ old, X5.heap[w4.heap.size]? = some (.cells old 25 (0, 0)) := ⟨_, by rw [← eX5]; exact heap_alloc_new _ _⟩
    obtain ⟨g6, eg⟩ : ∃ g, g = w4.heap.size := ⟨_, rfl⟩
    obtain ⟨W5, eW5⟩ : ∃ W, W = X5.setRow w4.heap.size (scC N A4 n4 c4 L4 m4 d4) := ⟨_, rfl⟩
    rw [← eW5, ← eg]
    have HH5 : Hid (ScB W5 g6 N A4 n4 c4 L4 m4 d4) := Lib.hid (by rw [eW5, eg]; exact setRow_heap _ _ _ _ _ _ hq2)
    have hb5 : Below w4.heap.size w4 W5 := by rw [eW5]; exact below_setRow hx (Nat.le_refl _) _
    have HK5 : Hid (Below W3.heap.size W3 W5) := Lib.hid (HB4.out.trans (hb5.mono HB4.out.size))
    have HO5 := Lib.hid (OwnC.below HO4.out hb5)
    have HT5 : Hid (OwnT W5 W3.heap.size (.slice L4 m4 d4) N.links) := Lib.hid (Own.below HT4.out hb5)
    have HLC : Hid (Lies A4 W3.heap.size g6) := Lib.hid ⟨fun a e => by have h := (OwnC.parts HO4.out).2.2.2.1 a e; rw [eg]; exact h⟩
    have HLT : Hid (Lies L4 W3.heap.size g6) := Lib.hid ⟨fun a e => by have h := (OwnT.parts HT4.out).2.2.2 a e; rw [eg]; exact h⟩
    have HG6 : Hid (W3.heap.size ≤ g6) := Lib.hid (by rw [eg]; exact HB4.out.size)
    have HB5 := Lib.hid (HB3.out.trans (HK5.out.mono HB3.out.size))
    have HP5 := Lib.hid (HP3.out.below HK5.out)
    have HG5 := Lib.hid (HG3.out.below HK5.out)
    have EN := Lib.hid eN
    have HSN : Hid (Sound N) := Lib.hid (by rw [eN]; exact HSO.out.pj f)
    have HRN : Hid (ScR W5 N A4 n4 c4 L4 m4 d4) := Lib.hid (HSN.out.read HO5.out HT5.out)
    have HRS5 := Lib.hid (HRS3.out.below HK5.out)
    have HU5 := Lib.hid (HU.out.next HB5.out)
    have HC5 := Lib.hid (HC.out.next HB5.out)
    clear eX5 hx hq2 eg eW5 hb5 HO4 HT4 eN HB4
    refine wp_region_rw 63 [Rl.eq (.bool true), Rl.eq (.bool false), Rl.eq (.bool false), Rl.eq (.agg (scC N A4 n4 c4 L4 m4 d4)), Rl.eq (.agg (scC s A n c L m cm)), Rl.eq (.int .u32 (f : Int)), Rl.scr W5.heap.size N, Rl.eq (.bool true), Rl.eq (.bool false), Rl.eq (.bool false)] [17, 18, 19, 20, 21, 22, 23, 24, 25, 26] (by kernel_rfl) rfl (by kernel_rfl) (by kernel_rfl) ?_ ?_
    · repeat (first | exact AllFrom.nil_ | (refine AllFrom.cons_ (by rfl) ?_ ?_; rotate_left))
      · intro f_ w' g_ hF hD
        rw [if_pos (wanted_none rfl)]
        clear hF hD
        have kg : Below W5.heap.size W5 w' := (below_drewN (Below.refl _ _) 1).trans g_
        refine gives_func rfl Tryd.func29 (by kernel_rfl) rfl (args := #[]) (by simp) ((fixed15_c w' (HU5.out.next kg) (HC5.out.next kg)).mono ?_)
        rintro e w'' ⟨rfl, hb⟩
        exact ⟨_, rfl, hb, rfl⟩
      · intro f_ w' g_ hF hD
        have h17 : f_ 17 = (.bool true) := hD 0 17 (by kernel_rfl) rfl
        rw [if_pos (wanted_none rfl)]
        clear hF hD
        exact gives_val (by simp only [execOp, evF, h17]; first | rfl | go_simp) ⟨Gr.refl _, rfl⟩
      · intro f_ w' g_ hF hD
        have h18 : f_ 18 = (.bool false) := hD 1 18 (by kernel_rfl) rfl
        rw [if_pos (wanted_none rfl)]
        clear hF hD
        exact gives_val (by simp only [execOp, evF, h18]; first | rfl | go_simp) ⟨Gr.refl _, rfl⟩
      · intro f_ w' g_ hF hD
        have h6 : f_ 6 = .pointer (some ⟨g6, 0, none⟩) := hF 6 (by kernel_rfl)
        rw [if_pos (wanted_some (d := 19) rfl rfl (hD 2 19 (by kernel_rfl) rfl))]
        clear hF hD
        have kg : Below W5.heap.size W5 w' := (below_drewN (Below.refl _ _) 1).trans g_
        exact gives_load_row 25 (.tmp 6) rfl g6 (by simp only [evF, h6]) 25 (scC N A4 n4 c4 L4 m4 d4) (0, 0) _ (HH5.out.below kg) Tryd.underlying25 rfl (info_sc.trans rfl) ⟨Gr.refl _, rfl⟩
      · intro f_ w' g_ hF hD
        have h2 : f_ 2 = .pointer (some ⟨p, 0, none⟩) := hF 2 (by kernel_rfl)
        rw [if_pos (wanted_some (d := 19) rfl rfl (hD 2 19 (by kernel_rfl) rfl))]
        clear hF hD
        have kg : Below W5.heap.size W5 w' := (below_drewN (Below.refl _ _) 1).trans g_
        exact gives_load_row 25 (.tmp 2) rfl p (by simp only [evF, h2]) 25 (scC s A n c L m cm) (0, 0) _ (HP5.out.below kg) Tryd.underlying25 rfl (info_sc.trans rfl) ⟨Gr.refl _, rfl⟩
      · intro f_ w' g_ hF hD
        have h1 : f_ 1 = .int .u32 (f : Int) := hF 1 (by kernel_rfl)
        rw [if_pos (wanted_some (d := 19) rfl rfl (hD 2 19 (by kernel_rfl) rfl))]
        clear hF hD
        exact gives_val (by simp only [execOp, evF, h1]; first | rfl | go_simp) ⟨Gr.refl _, rfl⟩
      · intro f_ w' g_ hF hD
        have h21 : f_ 21 = (.agg (scC s A n c L m cm)) := hD 4 21 (by kernel_rfl) rfl
        have h22 : f_ 22 = (.int .u32 (f : Int)) := hD 5 22 (by kernel_rfl) rfl
        rw [if_pos (wanted_some (d := 19) rfl rfl (hD 2 19 (by kernel_rfl) rfl))]
        clear hF hD
        have kg : Below W5.heap.size W5 w' := (below_drewN (Below.refl _ _) 1).trans g_
        refine gives_func rfl Tryd.func31 (by kernel_rfl) rfl (by simp only [List.map_toArray, List.map_cons, List.map_nil, evF, h21, h22]) ((rp_c s A n c L m cm f w' HSO.out (HRS5.out.below kg) HF.out (HU5.out.next kg)).mono ?_)
        rintro e w'' ⟨v, rfl, hv, hb⟩
        rw [← EN.out] at hv
        obtain ⟨A', n', c', L', m', d', e1, h1, h2, h3⟩ := hv
        exact ⟨_, rfl, hb, A', n', c', L', m', d', e1, OwnC.low h1 kg.size, Own.low h2 kg.size, h3⟩
      · intro f_ w' g_ hF hD
        have h20 : f_ 20 = (.agg (scC N A4 n4 c4 L4 m4 d4)) := hD 3 20 (by kernel_rfl) rfl
        have q23 := hD 6 23 (by kernel_rfl) rfl
        rw [if_pos (wanted_some (d := 19) rfl rfl (hD 2 19 (by kernel_rfl) rfl))]
        clear hF hD
        have kg : Below W5.heap.size W5 w' := (below_drewN (Below.refl _ _) 1).trans g_
        obtain ⟨A', n', c', L', m', d', e1, h1, h2, h3⟩ := q23
        refine gives_func rfl Tryd.func27 (by kernel_rfl) rfl (by simp only [List.map_toArray, List.map_cons, List.map_nil, evF, h20, e1]) ((same_c N N A4 n4 c4 L4 m4 d4 A' n' c' L' m' d' w' (HRN.out.below kg) (HSN.out.read h1 h2)).mono ?_)
        rintro e w'' ⟨rfl, hb⟩
        rw [sameS_self]
        exact ⟨_, rfl, hb, rfl⟩
      · intro f_ w' g_ hF hD
        have h24 : f_ 24 = (.bool true) := hD 7 24 (by kernel_rfl) rfl
        rw [if_pos (wanted_some (d := 19) rfl rfl (hD 2 19 (by kernel_rfl) rfl))]
        clear hF hD
        exact gives_val (by simp only [execOp, evF, h24]; first | rfl | go_simp) ⟨Gr.refl _, rfl⟩
      · intro f_ w' g_ hF hD
        have h19 : f_ 19 = (.bool false) := hD 2 19 (by kernel_rfl) rfl
        have h25 : f_ 25 = (.bool false) := hD 8 25 (by kernel_rfl) rfl
        rw [if_pos (wanted_none rfl)]
        clear hF hD
        exact gives_val (by simp only [execOp, evF, h19, h25]; first | rfl | go_simp) ⟨Gr.refl _, rfl⟩
    intro f_ w6 gg hD
    have h26 : f_ 26 = .bool false := hD 9 26 rfl
    have kg : Below W5.heap.size W5 w6 := (below_drewN (Below.refl _ _) 1).trans gg
    simp only [putAll, List.setIfInBounds_toArray, List.set_cons_zero, List.set_cons_succ, h26]
    generalize f_ 17 = d17
    generalize f_ 18 = d18
    generalize f_ 19 = d19
    generalize f_ 20 = d20
    generalize f_ 21 = d21
    generalize f_ 22 = d22
    generalize f_ 23 = d23
    generalize f_ 24 = d24
    generalize f_ 25 = d25
    have HB6 := Lib.hid (HB5.out.trans (kg.mono HB5.out.size))
    have HK6 : Hid (Below W3.heap.size W3 w6) := Lib.hid (HK5.out.trans (kg.mono HK5.out.size))
    have HO6 := Lib.hid (OwnC.below HO5.out kg)
    have HT6 : Hid (OwnT w6 W3.heap.size (.slice L4 m4 d4) N.links) := Lib.hid (Own.below HT5.out kg)
    have HH6 := Lib.hid (HH5.out.below kg)
    clear hD gg kg h26
    have x2 : w6.cell? ⟨g6, 2, none⟩ = some (.slice A4 n4 c4) := HH6.out.nine.2.2.1
    have HNN : Hid (n4 ≤ 60000 ∧ m4 ≤ 60000) := Lib.hid ⟨HRN.out.nl, HRN.out.ml⟩
    clear HO5 HT5 HH5 HP5 HB5 HRS5 HU5 HC5
    go_wp2_with (fail)
    clear x2
    go_loopw [30] (fun i wr => ∃ (k : Nat) (ds : List CeD), k ≤ n4 ∧ i = .int .i64 k ∧ Hid (ds.length = n4) ∧ Hid (OwnC wr W3.heap.size (.slice A4 n4 c4) ds) ∧ Hid (OwnT wr W3.heap.size (.slice L4 m4 d4) N.links) ∧ Hid (ScB wr g6 N A4 n4 c4 L4 m4 d4) ∧ Hid (Below W3.heap.size W3 wr)) (fun i _ => n4 - (intOf i).toNat)
    case atStart => exact ⟨0, N.cells, Nat.zero_le _, rfl, Lib.hid HRN.out.hn, HO6, HT6, HH6, HK6⟩
    case round =>
      obtain ⟨k, ds, hk, rfl, HDL, HO, HT, HH, HK⟩ := hrel
      have hn6 : n4 ≤ 60000 := HNN.out.1
      have x2 : wr.cell? ⟨g6, 2, none⟩ = some (.slice A4 n4 c4) := HH.out.nine.2.2.1
      rcases Nat.lt_or_ge k n4 with hlt | hge
      · have hlt' : (k : Int) < (n4 : Int) := by omega
        obtain ⟨b, hA⟩ : ∃ b, A4 = some ⟨b, 0, none⟩ := by
          cases hA : A4 with
          | none => have h1 := (OwnC.parts HO.out).2.2.2.2 hA; have h2 := (OwnC.parts HO.out).2.2.1; omega
          | some a => obtain ⟨_, _, h1, h2⟩ := HLC.out.at_ a hA; obtain ⟨bb, oo, ss⟩ := a; cases h1; cases h2; exact ⟨bb, rfl⟩
        subst hA
        have hkl : k < ds.length := by rw [HDL.out]; exact hlt
        obtain ⟨r0, er⟩ : ∃ r, ds[k].r = r := ⟨_, rfl⟩
        have z0 : wr.cell? ⟨b, k * 6, none⟩ = some (.int .i32 r0) := by rw [← er]; exact (HO.out.six k hkl).1
        have f0 := HO.out.free (k * 6)
        have HBL : Hid (W3.heap.size ≤ b ∧ b < g6) := Lib.hid (by have h := HLC.out.at_ _ rfl; exact ⟨h.1, h.2.1⟩)
        have HKL := Lib.hid hkl
        have HAP := Lib.hid (own_apart HO.out HT.out b rfl)
        clear hkl er
        go_upto_region 11 with (fail)
        generalize eW8 : World.setCell wr ⟨b, k * 6, none⟩ _ = W8
        have HE8 : Hid (∃ x, W8 = wr.setCell ⟨b, k * 6, none⟩ (.int .i32 x)) := Lib.hid ⟨_, eW8.symm⟩
        clear eW8 z0 f0 x2
        have HO8 : Hid (∃ ds', ds'.length = n4 ∧ OwnC W8 W3.heap.size (.slice (some ⟨b, 0, none⟩) n4 c4) ds') := Lib.hid (by
          obtain ⟨x, e⟩ := HE8.out
          rw [e]
          exact ⟨_, by rw [List.length_set]; exact HDL.out, HO.out.rune k HKL.out x⟩)
        obtain ⟨ds', hl', ho'⟩ := HO8.out
        have hfar : ∀ j, j ≠ b → W8.heap[j]? = wr.heap[j]? := fun j hj => by obtain ⟨x, e⟩ := HE8.out; rw [e]; exact heap_far _ hj
        have HO9 := Lib.hid ho'
        have HL9 := Lib.hid hl'
        have HT9 : Hid (OwnT W8 W3.heap.size (.slice L4 m4 d4) N.links) := Lib.hid (Own.frameK' HT.out (fun j e => hfar j (fun e2 => HAP.out (by rw [e, e2]))))
        have HH9 : Hid (ScB W8 g6 N (some ⟨b, 0, none⟩) n4 c4 L4 m4 d4) := Lib.hid ((hfar g6 (by have := HBL.out.2; omega)).trans HH.out)
        have HK9 : Hid (Below W3.heap.size W3 W8) := Lib.hid (by obtain ⟨x, e⟩ := HE8.out; rw [e]; exact below_set HK.out b _ _ HBL.out.1)
        clear ho' hl' hfar HO8 HE8
        go_wp2_with (fail)
        go_roundw
        case rel => exact ⟨k + 1, ds', by omega, by go_num, HL9, HO9, HT9, HH9, HK9⟩
        case measure => simp [intOf]; omega
      · obtain rfl : n4 = k := by omega
        have hge' : ¬ ((n4 : Int) < (n4 : Int)) := by omega
        have x8 : wr.cell? ⟨g6, 8, none⟩ = some (.slice L4 m4 d4) := HH.out.nine.2.2.2.2.2.2.2.2
        clear hge hk x2
        go_wp2_with (fail)
        clear x8
        go_loopw [46] (fun i wr => ∃ (k : Nat) (pre : List ByteArray), k ≤ m4 ∧ i = .int .i64 k ∧ Hid (pre.length = k) ∧ Hid (OwnT wr W3.heap.size (.slice L4 m4 d4) (pre ++ N.links.drop k)) ∧ Hid (ScB wr g6 N A4 n4 c4 L4 m4 d4) ∧ Hid (Below W3.heap.size W3 wr)) (fun i _ => m4 - (intOf i).toNat)
        case atStart => exact ⟨0, [], Nat.zero_le _, rfl, Lib.hid rfl, HT, HH, HK⟩
        case round =>
          clear HO HT HH HK
          obtain ⟨k, pre, hk, rfl, HPL, HT, HH, HK⟩ := hrel
          have hn6 : m4 ≤ 60000 := HNN.out.2
          rcases Nat.lt_or_ge k m4 with hlt | hge
          · have hlt' : (k : Int) < (m4 : Int) := by omega
            have hkl : k < N.links.length := by rw [HRN.out.hm]; exact hlt
            obtain ⟨u, eu⟩ : ∃ u, N.links[k] = u := ⟨_, rfl⟩
            have hdr : N.links.drop k = u :: N.links.drop (k + 1) := by rw [← eu]; exact List.drop_eq_getElem_cons hkl
            have HUS : Hid (u.size ≤ 140737488355328) := Lib.hid (HSN.out.us u (by rw [← eu]; exact List.getElem_mem _))
            have ht := HT.out
            rw [hdr] at ht
            have hlen : (pre ++ u :: N.links.drop (k + 1)).length = m4 := (OwnT.parts ht).1
            obtain ⟨b, hA⟩ : ∃ b, L4 = some ⟨b, 0, none⟩ := by
              cases hA : L4 with
              | none =>
                obtain ⟨_, h1, _, _⟩ := OwnT.parts ht
                rcases h1 with h1 | ⟨_, _, h1, _⟩
                · have := congrArg List.length h1; rw [strV, List.length_map, hlen] at this; simp at this; omega
                · rw [hA] at h1; cases h1
              | some a => obtain ⟨_, _, h1, h2⟩ := HLT.out.at_ a hA; obtain ⟨bb, oo, ss⟩ := a; cases h1; cases h2; exact ⟨bb, rfl⟩
            subst hA
            have hc := OwnT.cellAt ht k (by rw [hlen]; exact hlt)
            have hu2 : (pre ++ u :: N.links.drop (k + 1))[k]'(by rw [hlen]; exact hlt) = u := by
              rw [List.getElem_append_right (by rw [HPL.out]; exact Nat.le_refl _)]
              simp [HPL.out]
            rw [hu2] at hc
            have HUC := Lib.hid hc
            have HTT := Lib.hid ht
            have HBL : Hid (W3.heap.size ≤ b ∧ b < g6 ∧ b < wr.heap.size) := Lib.hid (by have h := HLT.out.at_ _ rfl; have h2 := Own.lt ht b rfl; exact ⟨h.1, h.2.1, h2.2⟩)
            have HKL : Hid (k < (pre ++ u :: N.links.drop (k + 1)).length) := Lib.hid (by rw [hlen]; exact hlt)
            clear hkl eu hdr ht hlen hc hu2 HT
            go_upto_region 15 with (fail)
            refine wp_region_rt 63 10 [Rl.eq (.pointer (some ⟨g6, 8, none⟩)), Rl.eq (.slice (some ⟨b, 0, none⟩) m4 d4), Rl.eq (.int .i64 (k : Int)), Rl.eq (.pointer (some ⟨g6, 8, none⟩)), Rl.eq (.slice (some ⟨b, 0, none⟩) m4 d4), Rl.eq (.int .i64 (k : Int)), Rl.eq (.pointer (some ⟨b, k, none⟩)), Rl.eq (.string u), Rl.eq (.string (u ++ ⟨#[120]⟩)), Rl.eq (.pointer (some ⟨b, k, none⟩))] [49, 50, 51, 52, 53, 54, 55, 56, 57, 58] (by kernel_rfl) rfl (by kernel_rfl) (by kernel_rfl) (by decide) (by kernel_rfl) (by kernel_rfl) ?_ ?_
            · simp only [List.take_succ_cons, List.take_zero]
              repeat (first | exact AllFrom.nil_ | (refine AllFrom.cons_ (by rfl) ?_ ?_; rotate_left))
              · intro f_ w' g_ hF hD
                have h6 : f_ 6 = .pointer (some ⟨g6, 0, none⟩) := hF 6 (by kernel_rfl)
                rw [if_pos (wanted_none rfl)]
                clear hF hD
                exact gives_val (by simp only [execOp, evF, h6]; first | rfl | go_simp) ⟨Gr.refl _, rfl⟩
              · intro f_ w' g_ hF hD
                have h49 : f_ 49 = (.pointer (some ⟨g6, 8, none⟩)) := hD 0 49 (by kernel_rfl) rfl
                rw [if_pos (wanted_none rfl)]
                clear hF hD
                have kg : Below wr.heap.size wr w' := (below_drewN (Below.refl _ _) 1).trans g_
                have cl : w'.cell? ⟨g6, 8, none⟩ = some (.slice (some ⟨b, 0, none⟩) m4 d4) := (HH.out.below kg).nine.2.2.2.2.2.2.2.2
                exact gives_val (by simp only [execOp, evF, h49]; go_simp) ⟨Gr.refl _, rfl⟩
              · intro f_ w' g_ hF hD
                have h8 : f_ 8 = .int .i64 (k : Int) := hF 8 (by kernel_rfl)
                rw [if_pos (wanted_none rfl)]
                clear hF hD
                exact gives_val (by simp only [execOp, evF, h8]; first | rfl | go_simp) ⟨Gr.refl _, rfl⟩
              · intro f_ w' g_ hF hD
                have h6 : f_ 6 = .pointer (some ⟨g6, 0, none⟩) := hF 6 (by kernel_rfl)
                rw [if_pos (wanted_none rfl)]
                clear hF hD
                exact gives_val (by simp only [execOp, evF, h6]; first | rfl | go_simp) ⟨Gr.refl _, rfl⟩
              · intro f_ w' g_ hF hD
                have h52 : f_ 52 = (.pointer (some ⟨g6, 8, none⟩)) := hD 3 52 (by kernel_rfl) rfl
                rw [if_pos (wanted_none rfl)]
                clear hF hD
                have kg : Below wr.heap.size wr w' := (below_drewN (Below.refl _ _) 1).trans g_
                have cl : w'.cell? ⟨g6, 8, none⟩ = some (.slice (some ⟨b, 0, none⟩) m4 d4) := (HH.out.below kg).nine.2.2.2.2.2.2.2.2
                exact gives_val (by simp only [execOp, evF, h52]; go_simp) ⟨Gr.refl _, rfl⟩
              · intro f_ w' g_ hF hD
                have h8 : f_ 8 = .int .i64 (k : Int) := hF 8 (by kernel_rfl)
                rw [if_pos (wanted_none rfl)]
                clear hF hD
                exact gives_val (by simp only [execOp, evF, h8]; first | rfl | go_simp) ⟨Gr.refl _, rfl⟩
              · intro f_ w' g_ hF hD
                have h53 : f_ 53 = (.slice (some ⟨b, 0, none⟩) m4 d4) := hD 4 53 (by kernel_rfl) rfl
                have h54 : f_ 54 = (.int .i64 (k : Int)) := hD 5 54 (by kernel_rfl) rfl
                rw [if_pos (wanted_none rfl)]
                clear hF hD
                exact gives_val (by simp only [execOp, evF, h53, h54]; first | rfl | go_simp) ⟨Gr.refl _, rfl⟩
              · intro f_ w' g_ hF hD
                have h55 : f_ 55 = (.pointer (some ⟨b, k, none⟩)) := hD 6 55 (by kernel_rfl) rfl
                rw [if_pos (wanted_none rfl)]
                clear hF hD
                have kg : Below wr.heap.size wr w' := (below_drewN (Below.refl _ _) 1).trans g_
                have cl : w'.cell? ⟨b, k, none⟩ = some (.string u) := (World.cell?_of_block (w := wr) (w' := w') (a := ⟨b, k, none⟩) (kg.block b HBL.out.2.2)).trans HUC.out
                exact gives_val (by simp only [execOp, evF, h55]; go_simp) ⟨Gr.refl _, rfl⟩
              · intro f_ w' g_ hF hD
                have h56 : f_ 56 = (.string u) := hD 7 56 (by kernel_rfl) rfl
                rw [if_pos (wanted_none rfl)]
                clear hF hD
                exact gives_val (by simp only [execOp, evF, h56]; simp [eqGuard, Sem.run_bind, run_addx _ _ _ HUS.out]) ⟨Gr.refl _, rfl⟩
              · intro f_ w' g_ hF hD
                have h50 : f_ 50 = (.slice (some ⟨b, 0, none⟩) m4 d4) := hD 1 50 (by kernel_rfl) rfl
                have h51 : f_ 51 = (.int .i64 (k : Int)) := hD 2 51 (by kernel_rfl) rfl
                rw [if_pos (wanted_none rfl)]
                clear hF hD
                exact gives_val (by simp only [execOp, evF, h50, h51]; first | rfl | go_simp) ⟨Gr.refl _, rfl⟩
            intro f_ w7 gg hD
            have h57 : f_ 57 = .string (u ++ ⟨#[120]⟩) := hD 8 57 (by decide) rfl
            have h58 : f_ 58 = .pointer (some ⟨b, k, none⟩) := hD 9 58 (by decide) rfl
            have kg : Below wr.heap.size wr w7 := (below_drewN (Below.refl _ _) 1).trans gg
            simp only [List.drop_succ_cons, List.drop_zero, putAll, List.setIfInBounds_toArray, List.set_cons_zero, List.set_cons_succ, h57, h58]
            have ht7 : OwnT w7 W3.heap.size (.slice (some ⟨b, 0, none⟩) m4 d4) (pre ++ u :: N.links.drop (k + 1)) := Own.below HTT.out kg
            have z0 := OwnT.cellAt ht7 k HKL.out
            have f0 := OwnT.free ht7 k
            have HT7 := Lib.hid ht7
            have HH7 := Lib.hid (HH.out.below kg)
            have HK7 := Lib.hid (HK.out.trans (kg.mono HK.out.size))
            generalize u ++ ⟨#[120]⟩ = u2
            generalize f_ 49 = d49
            generalize f_ 50 = d50
            generalize f_ 51 = d51
            generalize f_ 52 = d52
            generalize f_ 53 = d53
            generalize f_ 54 = d54
            generalize f_ 55 = d55
            generalize f_ 56 = d56
            clear hD gg kg h57 h58 ht7
            go_upto_region 16 with (fail)
            obtain ⟨W8, eW8⟩ : ∃ W, W = w7.setCell ⟨b, k, none⟩ (.string u2) := ⟨_, rfl⟩
            rw [← eW8]
            have hfar : ∀ j, j ≠ b → W8.heap[j]? = w7.heap[j]? := fun j hj => by rw [eW8]; exact heap_far _ hj
            have HT8 : Hid (OwnT W8 W3.heap.size (.slice (some ⟨b, 0, none⟩) m4 d4) ((pre ++ [u2]) ++ N.links.drop (k + 1))) := Lib.hid (by
              have h := OwnT.set1 HT7.out k HKL.out u2
              rw [List.set_append_right _ _ (by rw [HPL.out]; exact Nat.le_refl _), HPL.out, Nat.sub_self, List.set_cons_zero] at h
              rw [eW8, List.append_assoc]; exact h)
            have HH8 : Hid (ScB W8 g6 N A4 n4 c4 (some ⟨b, 0, none⟩) m4 d4) := Lib.hid ((hfar g6 (by have := HBL.out.2.1; omega)).trans HH7.out)
            have HK8 : Hid (Below W3.heap.size W3 W8) := Lib.hid (by rw [eW8]; exact below_set HK7.out b _ _ HBL.out.1)
            have HP8 : Hid ((pre ++ [u2]).length = k + 1) := Lib.hid (by rw [List.length_append, HPL.out]; rfl)
            clear eW8 hfar z0 f0
            go_wp2_with (fail)
            go_roundw
            case rel => exact ⟨k + 1, pre ++ [u2], by omega, by go_num, HP8, HT8, HH8, HK8⟩
            case measure => simp [intOf]; omega
          · obtain rfl : m4 = k := by omega
            have hge' : ¬ ((m4 : Int) < (m4 : Int)) := by omega
            have HGE := Lib.hid (HG3.out.below HK.out)
            have HPE := Lib.hid (HP3.out.below HK.out)
            have HR1 := Lib.hid (HR3.out.below HK.out)
            have HR2 := Lib.hid (HRS3.out.below HK.out)
            have HBE := Lib.hid (HB3.out.trans (HK.out.mono HB3.out.size))
            clear hge hk
            go_wp2_with (first
              | (refine wpList_load_row rfl 25 (.tmp 5) rfl g rfl 25 _ (0, 0) _ HGE.out Tryd.underlying25 rfl (info_sc.trans rfl) ?_)
              | (refine wpList_load_row rfl 25 (.tmp 2) rfl p rfl 25 _ (0, 0) _ HPE.out Tryd.underlying25 rfl (info_sc.trans rfl) ?_)
              | (go_at_call 27; (refine (same_c s s A2 n c2 L2 m d2 A n c L m cm wr HR1.out HR2.out).mono ?_); rintro _ w9 ⟨rfl, hb9⟩; rw [sameS_self]; have HB9 := Lib.hid (HBE.out.trans (hb9.mono HBE.out.size)); clear hb9))
            go_ret
            exact ⟨rfl, HB9.out⟩
end Go.Proofs.YtipofokinjkclaaDoor
