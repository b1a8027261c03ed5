/- Parts one behind the other: The walk of RunsEncodes: the diff of any two screens, and the one from blanks, are the document's, or refused; what is handed in stays. Conditions: as told at each. -/
import Derived.Test.YtnnekdefncfeeaaDoorPFRunsEncodes1
import Derived.Test.YtnnekdefncfeeaaDoorPFRunsEncodes3
import Derived.Test.YtnnekdefncfeeaaDoorPF15

set_option linter.unusedVariables false
set_option linter.unusedSimpArgs false
/- The walk of RunsEncodes: the diff of any two screens, and the one from blanks, are the document's, or refused; what is handed in stays. Conditions: the tables lie where they were laid. -/
namespace Go.Proofs.YtnnekdefncfeeaaDoor
open Go Go.RowKit Go.Lib

/-- A new screen's block. -/
def Rl.boxS (B : Nat) : Rl := ⟨fun w v => ∃ g, v = .pointer (some ⟨g, 0, none⟩) ∧ B ≤ g ∧ ScB w g scZ none 0 0 none 0 0, fun ⟨g, h, hB, r⟩ hb => ⟨g, h, hB, r.below hb⟩⟩
theorem boxS_lt {B : Nat} {w : World} {x : Value} (h : (Rl.boxS B).R w x) : ∃ g, x = .pointer (some ⟨g, 0, none⟩) ∧ g < w.heap.size := by
  obtain ⟨g, e, _, hg⟩ := h
  exact ⟨g, e, heap_lt hg⟩
theorem ownC_box {w : World} {B' g : Nat} {v : Value} {ds : List CeD} {s : ScD} {A : Option Addr} {n c : Nat} {L : Option Addr} {m cm : Nat} (ho : OwnC w B' v ds) (hs : ScB w g s A n c L m cm) : ∀ j, v.ownBlock = some j → j ≠ g := by
  intro j hj e
  subst e
  rcases ho.2 with ⟨rfl, _⟩ | ⟨g1, cap, cur, rfl, _, hg, _⟩
  · cases hj
  · injection hj with hj
    have h1 : g1 = j := hj
    subst h1
    have h2 := hg.symm.trans hs
    injection h2 with h2
    injection h2 with _ h3
    exact absurd h3 (by decide)
theorem ownT_box {w : World} {B' g : Nat} {v : Value} {ds : List ByteArray} {s : ScD} {A : Option Addr} {n c : Nat} {L : Option Addr} {m cm : Nat} (ho : OwnT w B' v ds) (hs : ScB w g s A n c L m cm) : ∀ j, v.ownBlock = some j → j ≠ g := by
  intro j hj e
  subst e
  rcases ho.2 with ⟨rfl, _⟩ | ⟨g1, cap, cur, rfl, _, hg, _⟩
  · cases hj
  · injection hj with hj
    have h1 : g1 = j := hj
    subst h1
    have h2 := hg.symm.trans hs
    injection h2 with h2
    injection h2 with _ h3
    exact absurd h3 (by decide)
/-- Two rows stored: what one's own stays. -/
theorem two_rows {w : World} {B' g h n c m d : Nat} {A L : Option Addr} {s : ScD} {s1 s2 : ScD} {A1 A2 : Option Addr} {n1 c1 n2 c2 : Nat} {L1 L2 : Option Addr} {m1 d1 m2 d2 : Nat} (hS : Sound s) (ho : OwnC w B' (.slice A n c) s.cells) (ht : OwnT w B' (.slice L m d) s.links) (hg : ScB w g s1 A1 n1 c1 L1 m1 d1) (hh : ScB w h s2 A2 n2 c2 L2 m2 d2) (x y : Array Value) : ScR ((w.setRow g x).setRow h y) s A n c L m d := by
  have far : ∀ j, j ≠ g → j ≠ h → ((w.setRow g x).setRow h y).heap[j]? = w.heap[j]? := fun j h1 h2 => (setRow_other _ _ _ _ h2).trans (setRow_other _ _ _ _ h1)
  exact hS.read (OwnC.keep ho (fun j e => far j (ownC_box ho hg j e) (ownC_box ho hh j e))) (Own.frameK' ht (fun j e => far j (ownT_box ht hg j e) (ownT_box ht hh j e)))
set_option maxRecDepth 100000 in
set_option maxHeartbeats 16000000 in
theorem RunsEncodes_walk (w : World) (s : ScD) (A : Option Addr) (n c : Nat) (L : Option Addr) (m cm : Nat) (hs : ScO w s A n c L m cm) (t : ScD) (B : Option Addr) (k d : Nat) (M : Option Addr) (l dm : Nat) (ht : ScO w t B k d M l dm) (hU : TabU w) :
    Calls Tryd.prog 3 #[.agg (scC s A n c L m cm), .agg (scC t B k d M l dm)] w fun r w' => r = .returned (.bool true) ∧ Below w.heap.size w w' := by
  obtain ⟨X, eX⟩ : ∃ X, X = scC s A n c L m cm := ⟨_, rfl⟩
  obtain ⟨Y, eY⟩ : ∃ Y, Y = scC t B k d M l dm := ⟨_, rfl⟩
  rw [← eX, ← eY]
  obtain ⟨W0, eW0⟩ : ∃ W0, W0 = (w.alloc (.cells X 25)).alloc (.cells Y 25) := ⟨_, rfl⟩
  obtain ⟨p, ep⟩ : ∃ p, p = w.heap.size := ⟨_, rfl⟩
  obtain ⟨q, eq⟩ : ∃ q, q = w.heap.size + 1 := ⟨_, rfl⟩
  have hb0 : Below w.heap.size w W0 := by rw [eW0]; exact ((Below.refl _ _).alloc (Nat.le_refl _) _).alloc (by simp) _
  have HP0 : Hid (ScB W0 p s A n c L m cm) := Lib.hid (by rw [eW0, ep, eX]; exact (Below.heap_alloc _ _ _ (by simp)).trans (heap_alloc_new _ _))
  have HQ0 : Hid (ScB W0 q t B k d M l dm) := Lib.hid (by rw [eW0, eq, eY]; exact heap_alloc2_new _ _ _)
  have EW0 := Lib.hid eW0
  have EP := Lib.hid ep
  have EQ := Lib.hid eq
  have HB0 := Lib.hid hb0
  have HS := Lib.hid hs
  have HT := Lib.hid ht
  have HU := Lib.hid hU
  clear eX eY eW0 ep eq hb0 hs ht hU
  obtain ⟨GB, eGB⟩ : ∃ b, greatB n s.title.size m = b := ⟨_, rfl⟩
  have HGB := Lib.hid eGB
  obtain ⟨GC, eGC⟩ : ∃ b, greatB k t.title.size l = b := ⟨_, rfl⟩
  have HGC := Lib.hid eGC
  clear eGB eGC
  go_enter Tryd.func3, Tryd.ntmps3
  go_upto_region 1 with (fail)
  rw [← EW0.out, ← EQ.out, ← EP.out]
  obtain ⟨T, eT⟩ : ∃ b, (GB || GC) = b := ⟨_, rfl⟩
  have HTT := Lib.hid eT
  clear eT
  go_cut [20] (fun s20 wx => s20 = .bool T ∧ Hid (Below W0.heap.size W0 wx))
  case first =>
    cases GB
    · cases GC
      · go_wp2_with (first
          | (refine wpList_load_row rfl 25 (.tmp 2) rfl p rfl 25 _ (0, 0) _ HP0.out Tryd.underlying25 rfl (info_sc.trans rfl) ?_)
          | ((with_reducible refine wpList_openG (o := ⟨some 18, _, _, _, _, _⟩) rfl ?_); (refine wpList_load_row rfl 25 (.tmp 3) rfl q rfl 25 _ (0, 0) _ (HQ0.out.below HB1.out) Tryd.underlying25 rfl (info_sc.trans rfl) ?_))
          | (go_at_call 7; (with_reducible refine (great17_c s A n c L m cm W0).mono ?_); rintro _ w1 ⟨rfl, hb1⟩; rw [HGB.out]; have HB1 : Hid (Below W0.heap.size W0 w1) := Lib.hid hb1; clear hb1)
          | (go_at_call 7; (with_reducible refine (great17_c t B k d M l dm w1).mono ?_); rintro _ w2 ⟨rfl, hb1⟩; rw [HGC.out]; have HB2 : Hid (Below W0.heap.size W0 w2) := Lib.hid (HB1.out.trans (hb1.mono HB1.out.size)); clear hb1))
        go_meet
        exact ⟨by rw [← HTT.out] <;> rfl, HB2⟩
      · go_wp2_with (first
          | (refine wpList_load_row rfl 25 (.tmp 2) rfl p rfl 25 _ (0, 0) _ HP0.out Tryd.underlying25 rfl (info_sc.trans rfl) ?_)
          | ((with_reducible refine wpList_openG (o := ⟨some 18, _, _, _, _, _⟩) rfl ?_); (refine wpList_load_row rfl 25 (.tmp 3) rfl q rfl 25 _ (0, 0) _ (HQ0.out.below HB1.out) Tryd.underlying25 rfl (info_sc.trans rfl) ?_))
          | (go_at_call 7; (with_reducible refine (great17_c s A n c L m cm W0).mono ?_); rintro _ w1 ⟨rfl, hb1⟩; rw [HGB.out]; have HB1 : Hid (Below W0.heap.size W0 w1) := Lib.hid hb1; clear hb1)
          | (go_at_call 7; (with_reducible refine (great17_c t B k d M l dm w1).mono ?_); rintro _ w2 ⟨rfl, hb1⟩; rw [HGC.out]; have HB2 : Hid (Below W0.heap.size W0 w2) := Lib.hid (HB1.out.trans (hb1.mono HB1.out.size)); clear hb1))
        go_meet
        exact ⟨by rw [← HTT.out] <;> rfl, HB2⟩
    · go_wp2_with (first
        | (refine wpList_load_row rfl 25 (.tmp 2) rfl p rfl 25 _ (0, 0) _ HP0.out Tryd.underlying25 rfl (info_sc.trans rfl) ?_)
        | ((with_reducible refine wpList_openG (o := ⟨some 18, _, _, _, _, _⟩) rfl ?_); (refine wpList_load_row rfl 25 (.tmp 3) rfl q rfl 25 _ (0, 0) _ (HQ0.out.below HB1.out) Tryd.underlying25 rfl (info_sc.trans rfl) ?_))
        | (go_at_call 7; (with_reducible refine (great17_c s A n c L m cm W0).mono ?_); rintro _ w1 ⟨rfl, hb1⟩; rw [HGB.out]; have HB1 : Hid (Below W0.heap.size W0 w1) := Lib.hid hb1; clear hb1)
        | (go_at_call 7; (with_reducible refine (great17_c t B k d M l dm w1).mono ?_); rintro _ w2 ⟨rfl, hb1⟩; rw [HGC.out]; have HB2 : Hid (Below W0.heap.size W0 w2) := Lib.hid (HB1.out.trans (hb1.mono HB1.out.size)); clear hb1))
      go_meet
      exact ⟨by rw [← HTT.out] <;> rfl, HB1⟩
  case rest =>
  obtain ⟨rfl, hbc⟩ := hcut
  have HBC := Lib.hid (HB0.out.trans (hbc.out.mono HB0.out.size))
  have HPC := Lib.hid (HP0.out.below hbc.out)
  have HQC := Lib.hid (HQ0.out.below hbc.out)
  clear hbc
  cases T
  · have hb := HTT.out
    simp only [Bool.or_eq_false_iff] at hb
    obtain ⟨rfl, rfl⟩ := hb
    have HSM := Lib.hid (greatB_no HGB.out)
    have HSO : Hid (Sound s) := Lib.hid (HS.out.sound (by have := HSM.out; omega) (by have := HSM.out; omega) (by have := HSM.out; omega))
    have HRS : Hid (ScR w s A n c L m cm) := Lib.hid (HS.out.small (by have := HSM.out; omega) (by have := HSM.out; omega) (by have := HSM.out; omega))
    have HMS : Hid (0 ≤ s.mouse) := Lib.hid HS.out.b6.1
    have HSN := Lib.hid (greatB_no HGC.out)
    have HTO : Hid (Sound t) := Lib.hid (HT.out.sound (by have := HSN.out; omega) (by have := HSN.out; omega) (by have := HSN.out; omega))
    have HRT : Hid (ScR w t B k d M l dm) := Lib.hid (HT.out.small (by have := HSN.out; omega) (by have := HSN.out; omega) (by have := HSN.out; omega))
    have HMT : Hid (0 ≤ t.mouse) := Lib.hid HT.out.b6.1
    have HCE : Hid (∀ d ∈ t.cells, CeOk d) := Lib.hid HT.out.ce
    go_upto_region 3 with (fail)
    refine wp_region_rp 86 6 4 5 5 6 [Rl.eq (.agg (scC s A n c L m cm)), Rl.scr wc.heap.size s, Rl.eq (.agg (scC t B k d M l dm)), Rl.scr wc.heap.size t, Rl.boxS wc.heap.size, Rl.boxS wc.heap.size] [22, 23, 24, 25, 5, 6] (by kernel_rfl) rfl (by kernel_rfl) (by kernel_rfl) (by decide) (by kernel_rfl) (by kernel_rfl) rfl rfl (by decide) (by decide) (by decide) (fun j hj w' x hx => ?_) ?_ ?_
    · rcases hj with rfl | rfl
      · exact boxS_lt (B := wc.heap.size) hx
      · exact boxS_lt (B := wc.heap.size) hx
    · simp only [List.take_succ_cons, List.take_zero]
      repeat (first | exact AllFrom.nil_ | (refine AllFrom.cons_ (by rfl) ?_ ?_; rotate_left))
      · intro f_ w' g_ hF hD
        have h2 : f_ 2 = .pointer (some ⟨p, 0, none⟩) := hF 2 (by kernel_rfl)
        rw [if_pos (wanted_none rfl)]
        clear hF hD
        have kg : Below wc.heap.size wc w' := (below_drewN (Below.refl _ _) 1).trans g_
        exact gives_load_row 25 (.tmp 2) rfl p (by simp only [evF, h2]) 25 (scC s A n c L m cm) (0, 0) _ (HPC.out.below kg) Tryd.underlying25 rfl (info_sc.trans rfl) ⟨Gr.refl _, rfl, fun e => by rcases e with e | e <;> cases e⟩
      · intro f_ w' g_ hF hD
        have h22 : f_ 22 = (.agg (scC s A n c L m cm)) := hD 0 22 (by kernel_rfl) rfl
        rw [if_pos (wanted_none rfl)]
        clear hF hD
        have kg : Below wc.heap.size wc w' := (below_drewN (Below.refl _ _) 1).trans g_
        have kw := HBC.out.trans (kg.mono HBC.out.size)
        refine gives_func rfl Tryd.func9 (by kernel_rfl) rfl (by simp only [List.map_toArray, List.map_cons, List.map_nil, evF, h22]) ((refCopyS_c s A n c L m cm w' (HRS.out.below kw)).mono ?_)
        rintro e w'' ⟨A', c', L', m', rfl, h1, h2, h3, hb⟩
        exact ⟨_, rfl, hb, ⟨A', _, c', L', _, m', rfl, OwnC.low h1 kg.size, Own.low h2 kg.size, h3⟩, fun e => by rcases e with e | e <;> cases e⟩
      · intro f_ w' g_ hF hD
        have h3 : f_ 3 = .pointer (some ⟨q, 0, none⟩) := hF 3 (by kernel_rfl)
        rw [if_pos (wanted_none rfl)]
        clear hF hD
        have kg : Below wc.heap.size wc w' := (below_drewN (Below.refl _ _) 1).trans g_
        exact gives_load_row 25 (.tmp 3) rfl q (by simp only [evF, h3]) 25 (scC t B k d M l dm) (0, 0) _ (HQC.out.below kg) Tryd.underlying25 rfl (info_sc.trans rfl) ⟨Gr.refl _, rfl, fun e => by rcases e with e | e <;> cases e⟩
      · intro f_ w' g_ hF hD
        have h24 : f_ 24 = (.agg (scC t B k d M l dm)) := hD 2 24 (by kernel_rfl) rfl
        rw [if_pos (wanted_none rfl)]
        clear hF hD
        have kg : Below wc.heap.size wc w' := (below_drewN (Below.refl _ _) 1).trans g_
        have kw := HBC.out.trans (kg.mono HBC.out.size)
        refine gives_func rfl Tryd.func9 (by kernel_rfl) rfl (by simp only [List.map_toArray, List.map_cons, List.map_nil, evF, h24]) ((refCopyS_c t B k d M l dm w' (HRT.out.below kw)).mono ?_)
        rintro e w'' ⟨A', c', L', m', rfl, h1, h2, h3, hb⟩
        exact ⟨_, rfl, hb, ⟨A', _, c', L', _, m', rfl, OwnC.low h1 kg.size, Own.low h2 kg.size, h3⟩, fun e => by rcases e with e | e <;> cases e⟩
      · intro f_ w' g_ hF hD
        rw [if_pos (wanted_none rfl)]
        clear hF hD
        have kg : Below wc.heap.size wc w' := (below_drewN (Below.refl _ _) 1).trans g_
        exact gives_val (by simp only [execOp, evF]; first | rfl | go_simp) ⟨(Below.refl _ _).alloc (Nat.le_refl _) _, ⟨w'.heap.size, rfl, kg.size, heap_alloc_new _ _⟩, fun _ => ⟨w'.heap.size, rfl, Nat.le_refl _⟩⟩
      · intro f_ w' g_ hF hD
        rw [if_pos (wanted_none rfl)]
        clear hF hD
        have kg : Below wc.heap.size wc w' := (below_drewN (Below.refl _ _) 1).trans g_
        exact gives_val (by simp only [execOp, evF]; first | rfl | go_simp) ⟨(Below.refl _ _).alloc (Nat.le_refl _) _, ⟨w'.heap.size, rfl, kg.size, heap_alloc_new _ _⟩, fun _ => ⟨w'.heap.size, rfl, Nat.le_refl _⟩⟩
    · intro f_ w3 gg hD hne
      obtain ⟨g, h5, hB5, hg5⟩ : ∃ g, f_ 5 = .pointer (some ⟨g, 0, none⟩) ∧ wc.heap.size ≤ g ∧ ScB w3 g scZ none 0 0 none 0 0 := hD 4 5 (by decide) rfl
      obtain ⟨h, h6, hB6, hg6⟩ : ∃ g, f_ 6 = .pointer (some ⟨g, 0, none⟩) ∧ wc.heap.size ≤ g ∧ ScB w3 g scZ none 0 0 none 0 0 := hD 5 6 (by decide) rfl
      obtain ⟨A2, n2, c2, L2, m2, d2, h23, ho2, ht2, _⟩ : ScrV w3 wc.heap.size s (f_ 23) := hD 1 23 (by decide) rfl
      obtain ⟨A3, n3, c3, L3, m3, d3, h25, ho3, ht3, _⟩ : ScrV w3 wc.heap.size t (f_ 25) := hD 3 25 (by decide) rfl
      have hgh : g ≠ h := fun e => hne (by rw [h5, h6, e])
      have kg : Below wc.heap.size wc w3 := (below_drewN (Below.refl _ _) 1).trans gg
      simp only [List.drop_succ_cons, List.drop_zero, putAll, List.setIfInBounds_toArray, List.set_cons_zero, List.set_cons_succ, h5, h6, h23, h25]
      have HGH := Lib.hid hgh
      have HG3 := Lib.hid hg5
      have HH3 := Lib.hid hg6
      have HRX : Hid (∀ x y : Array Value, ScR ((w3.setRow g x).setRow h y) s A2 n2 c2 L2 m2 d2) := Lib.hid (fun x y => two_rows HSO.out ho2 ht2 hg5 hg6 x y)
      have HRY : Hid (∀ x y : Array Value, ScR ((w3.setRow g x).setRow h y) t A3 n3 c3 L3 m3 d3) := Lib.hid (fun x y => two_rows HTO.out ho3 ht3 hg5 hg6 x y)
      have HGB' : Hid (wc.heap.size ≤ g ∧ wc.heap.size ≤ h) := Lib.hid ⟨hB5, hB6⟩
      have HK3 := Lib.hid kg
      clear hD hne kg gg h5 h6 h23 h25 hB5 hB6 hg5 hg6 ho2 ht2 ho3 ht3 hgh
      go_upto_region 4 with (first
        | (refine wpList_store_row rfl 25 (.tmp 5) (.tmp 23) rfl g (scC s A2 n2 c2 L2 m2 d2) rfl rfl 25 _ HG3.out (info_sc.trans rfl) rfl (sc_one _ _ _ _ _ _ _) ?_)
        | (refine wpList_store_row rfl 25 (.tmp 6) (.tmp 25) rfl h (scC t A3 n3 c3 L3 m3 d3) rfl rfl 25 _ ((setRow_other _ _ _ _ (fun e => HGH.out e.symm)).trans HH3.out) (info_sc.trans rfl) rfl (sc_one _ _ _ _ _ _ _) ?_))
      obtain ⟨W4, eW4⟩ : ∃ W, W = (w3.setRow g (scC s A2 n2 c2 L2 m2 d2)).setRow h (scC t A3 n3 c3 L3 m3 d3) := ⟨_, rfl⟩
      rw [← eW4]
      have HX4 : Hid (ScR W4 s A2 n2 c2 L2 m2 d2) := Lib.hid (by rw [eW4]; exact HRX.out _ _)
      have HY4 : Hid (ScR W4 t A3 n3 c3 L3 m3 d3) := Lib.hid (by rw [eW4]; exact HRY.out _ _)
      have HG4 : Hid (ScB W4 g s A2 n2 c2 L2 m2 d2) := Lib.hid (by rw [eW4]; exact (setRow_other _ _ _ _ HGH.out).trans (setRow_heap _ _ _ _ _ _ HG3.out))
      have HH4 : Hid (ScB W4 h t A3 n3 c3 L3 m3 d3) := Lib.hid (by rw [eW4]; exact setRow_heap _ _ _ _ _ _ ((setRow_other _ _ _ _ (fun e => HGH.out e.symm)).trans HH3.out))
      have HK4 : Hid (Below wc.heap.size wc W4) := Lib.hid (by rw [eW4]; exact below_setRow (below_setRow HK3.out HGB'.out.1 _) HGB'.out.2 _)
      have HB4 := Lib.hid (HBC.out.trans (HK4.out.mono HBC.out.size))
      have HP4 := Lib.hid (HPC.out.below HK4.out)
      have HQ4 := Lib.hid (HQC.out.below HK4.out)
      obtain ⟨Z1, e1, eE1⟩ : ∃ Z e, enc17 s t = (Z, e) := ⟨_, _, rfl⟩
      obtain ⟨Z2, e2, eE2⟩ : ∃ Z e, full17 t = (Z, e) := ⟨_, _, rfl⟩
      have HE1 := Lib.hid eE1
      have HE2 := Lib.hid eE2
      have HL1 : Hid (Z1.length ≤ maxLen) := Lib.hid (by have h := enc17_lenL (a := s) HCE.out; rw [eE1] at h; simp only [] at h; unfold maxLen; omega)
      have HL2 : Hid (Z2.length ≤ maxLen) := Lib.hid (by have h := full17_lenL HCE.out; rw [eE2] at h; simp only [] at h; unfold maxLen; omega)
      clear eW4 eE1 eE2 HG3 HH3 HRX HRY HK3
      go_upto_region 5 with (first
        | (refine wpList_load_row rfl 25 (.tmp 5) rfl g rfl 25 _ (0, 0) _ HG4.out Tryd.underlying25 rfl (info_sc.trans rfl) ?_)
        | (refine wpList_load_row rfl 25 (.tmp 6) rfl h rfl 25 _ (0, 0) _ HH4.out Tryd.underlying25 rfl (info_sc.trans rfl) ?_)
        | (go_at_call 10; (refine (enc17_c s t A2 n2 c2 L2 m2 d2 A3 n3 c3 L3 m3 d3 W4 HX4.out HY4.out HCE.out HMT.out (HU.out.next HB4.out)).mono ?_); rintro _ w5 ⟨v5, rfl, ho5, hb5⟩; rw [HE1.out] at ho5 ⊢; obtain ⟨A5, k5, rfl, _, _, hr5, _⟩ := OwnB.form ho5; have HR5 := Lib.hid hr5; have HK5 := Lib.hid hb5; have HB5 := Lib.hid (HB4.out.trans (hb5.mono HB4.out.size)); have HP5 := Lib.hid (HP4.out.below hb5); have HQ5 := Lib.hid (HQ4.out.below hb5); clear ho5 hb5 hr5))
      go_upto_region 6 with (first
        | (refine wpList_load_row rfl 25 (.tmp 2) rfl p rfl 25 _ (0, 0) _ HP5.out Tryd.underlying25 rfl (info_sc.trans rfl) ?_)
        | (refine wpList_load_row rfl 25 (.tmp 3) rfl q rfl 25 _ (0, 0) _ HQ5.out Tryd.underlying25 rfl (info_sc.trans rfl) ?_)
        | (go_at_call 11; (refine (refEnc17_c s t A n c L m cm B k d M l dm w5 (HRS.out.below HB5.out) (HRT.out.below HB5.out) HCE.out HMS.out HMT.out (HU.out.next HB5.out)).mono ?_); rintro _ w6 ⟨v6, rfl, ho6, hb6⟩; rw [HE1.out] at ho6 ⊢; obtain ⟨A6, k6, rfl, _, _, hr6, _⟩ := OwnB.form ho6; have HR6 := Lib.hid hr6; have HR56 := Lib.hid (HR5.out.below hb6); have HK6 := Lib.hid (HK5.out.trans (hb6.mono HK5.out.size)); have HB6 := Lib.hid (HB5.out.trans (hb6.mono HB5.out.size)); clear ho6 hb6 hr6))
      go_upto_region 7 with (first
        | (refine wpList_load_row rfl 25 (.tmp 6) rfl h rfl 25 _ (0, 0) _ (HH4.out.below HK6.out) Tryd.underlying25 rfl (info_sc.trans rfl) ?_)
        | (go_at_call 12; (refine (full17_c t A3 n3 c3 L3 m3 d3 w6 (HY4.out.below HK6.out) HCE.out HMT.out (HU.out.next HB6.out)).mono ?_); rintro _ w7 ⟨v7, rfl, ho7, hb7⟩; rw [HE2.out] at ho7 ⊢; obtain ⟨A7, k7, rfl, _, _, hr7, _⟩ := OwnB.form ho7; have HR7 := Lib.hid hr7; have HR57 := Lib.hid (HR56.out.below hb7); have HR67 := Lib.hid (HR6.out.below hb7); have HK7 := Lib.hid (HK6.out.trans (hb7.mono HK6.out.size)); have HB7 := Lib.hid (HB6.out.trans (hb7.mono HB6.out.size)); clear ho7 hb7 hr7))
      go_upto_region 8 with (first
        | (refine wpList_load_row rfl 25 (.tmp 3) rfl q rfl 25 _ (0, 0) _ (HQ4.out.below HK7.out) Tryd.underlying25 rfl (info_sc.trans rfl) ?_)
        | (go_at_call 13; (refine (refFull17_c t B k d M l dm w7 (HRT.out.below HB7.out) HCE.out HMT.out (HU.out.next HB7.out)).mono ?_); rintro _ w8 ⟨v8, rfl, ho8, hb8⟩; rw [HE2.out] at ho8 ⊢; obtain ⟨A8, k8, rfl, _, _, hr8, _⟩ := OwnB.form ho8; have HR8 := Lib.hid hr8; have HR58 := Lib.hid (HR57.out.below hb8); have HR68 := Lib.hid (HR67.out.below hb8); have HR78 := Lib.hid (HR7.out.below hb8); have HK8 := Lib.hid (HK7.out.trans (hb8.mono HK7.out.size)); have HB8 := Lib.hid (HB7.out.trans (hb8.mono HB7.out.size)); clear ho8 hb8 hr8))
      have HG8 := Lib.hid (HG4.out.below HK8.out)
      have HH8 := Lib.hid (HH4.out.below HK8.out)
      have HP8 := Lib.hid (HP4.out.below HK8.out)
      have HQ8 := Lib.hid (HQ4.out.below HK8.out)
      have HX8 := Lib.hid (HX4.out.below HK8.out)
      have HY8 := Lib.hid (HY4.out.below HK8.out)
      have HRS8 := Lib.hid (HRS.out.below HB8.out)
      have HRT8 := Lib.hid (HRT.out.below HB8.out)
      have HU8 := Lib.hid (HU.out.next HB8.out)
      obtain ⟨F, eF⟩ : ∃ F, fit17 s = F := ⟨_, rfl⟩
      have HF := Lib.hid eF
      clear eF
      refine wp_region_rw 86 [Rl.eq (.bool true), Rl.eq (.bool true), Rl.eq (.int .i64 (e1 : Int)), Rl.eq (.int .i64 (e1 : Int)), Rl.eq (.bool true), Rl.eq (.bool true), Rl.eq (.bool true), Rl.eq (.slice A5 Z1.length k5), Rl.eq (.slice A6 Z1.length k6), Rl.eq (.bool true), Rl.eq (.bool true), Rl.eq (.bool true), Rl.eq (.int .i64 (e2 : Int)), Rl.eq (.int .i64 (e2 : Int)), Rl.eq (.bool true), Rl.eq (.bool true), Rl.eq (.bool true), Rl.eq (.slice A7 Z2.length k7), Rl.eq (.slice A8 Z2.length k8), Rl.eq (.bool true), Rl.eq (.bool true), Rl.eq (.bool true), Rl.eq (.agg (scC s A2 n2 c2 L2 m2 d2)), Rl.eq (.bool F), Rl.eq (.agg (scC s A n c L m cm)), Rl.eq (.bool F), Rl.eq (.bool true), Rl.eq (.bool true), Rl.eq (.bool true), Rl.eq (.agg (scC s A2 n2 c2 L2 m2 d2)), Rl.eq (.agg (scC s A n c L m cm)), Rl.eq (.bool true), Rl.eq (.bool true), Rl.eq (.bool true), Rl.eq (.agg (scC t A3 n3 c3 L3 m3 d3)), Rl.eq (.agg (scC t B k d M l dm)), Rl.eq (.bool true), Rl.eq (.bool true), Rl.eq (.bool true)] [48, 49, 50, 51, 52, 53, 54, 55, 56, 57, 58, 59, 60, 61, 62, 63, 64, 65, 66, 67, 68, 69, 70, 71, 72, 73, 74, 75, 76, 77, 78, 79, 80, 81, 82, 83, 84, 85, 4] (by kernel_rfl) rfl (by kernel_rfl) (by kernel_rfl) ?_ ?_
      · repeat (first | exact AllFrom.nil_ | (refine AllFrom.cons_ (by rfl) ?_ ?_; rotate_left))
        · intro f_ w' g_ hF hD
          rw [if_pos (wanted_none rfl)]
          clear hF hD
          have kg : Below w8.heap.size w8 w' := (below_drewN (Below.refl _ _) 1).trans g_
          refine gives_func rfl Tryd.func8 (by kernel_rfl) rfl (args := #[]) (by simp) ((fixed17_c w' (HU8.out.next kg)).mono ?_)
          rintro e w'' ⟨rfl, hb⟩
          exact ⟨_, rfl, hb, rfl⟩
        · intro f_ w' g_ hF hD
          have h48 : f_ 48 = (.bool true) := hD 0 48 (by kernel_rfl) rfl
          rw [if_pos (wanted_none rfl)]
          clear hF hD
          exact gives_val (by simp only [execOp, evF, h48]; first | rfl | go_simp) ⟨Gr.refl _, rfl⟩
        · intro f_ w' g_ hF hD
          have h8 : f_ 8 = .int .i64 (e1 : Int) := hF 8 (by kernel_rfl)
          rw [if_pos (wanted_some (d := 49) rfl rfl (hD 1 49 (by kernel_rfl) rfl))]
          clear hF hD
          exact gives_val (by simp only [execOp, evF, h8]; first | rfl | go_simp) ⟨Gr.refl _, rfl⟩
        · intro f_ w' g_ hF hD
          have h10 : f_ 10 = .int .i64 (e1 : Int) := hF 10 (by kernel_rfl)
          rw [if_pos (wanted_some (d := 49) rfl rfl (hD 1 49 (by kernel_rfl) rfl))]
          clear hF hD
          exact gives_val (by simp only [execOp, evF, h10]; first | rfl | go_simp) ⟨Gr.refl _, rfl⟩
        · intro f_ w' g_ hF hD
          have h50 : f_ 50 = (.int .i64 (e1 : Int)) := hD 2 50 (by kernel_rfl) rfl
          have h51 : f_ 51 = (.int .i64 (e1 : Int)) := hD 3 51 (by kernel_rfl) rfl
          rw [if_pos (wanted_some (d := 49) rfl rfl (hD 1 49 (by kernel_rfl) rfl))]
          clear hF hD
          exact gives_val (by simp only [execOp, evF, h50, h51]; first | rfl | go_simp) ⟨Gr.refl _, rfl⟩
        · intro f_ w' g_ hF hD
          have h49 : f_ 49 = (.bool true) := hD 1 49 (by kernel_rfl) rfl
          have h52 : f_ 52 = (.bool true) := hD 4 52 (by kernel_rfl) rfl
          rw [if_pos (wanted_none rfl)]
          clear hF hD
          exact gives_val (by simp only [execOp, evF, h49, h52]; first | rfl | go_simp) ⟨Gr.refl _, rfl⟩
        · intro f_ w' g_ hF hD
          have h53 : f_ 53 = (.bool true) := hD 5 53 (by kernel_rfl) rfl
          rw [if_pos (wanted_none rfl)]
          clear hF hD
          exact gives_val (by simp only [execOp, evF, h53]; first | rfl | go_simp) ⟨Gr.refl _, rfl⟩
        · intro f_ w' g_ hF hD
          have h7 : f_ 7 = .slice A5 Z1.length k5 := hF 7 (by kernel_rfl)
          rw [if_pos (wanted_some (d := 54) rfl rfl (hD 6 54 (by kernel_rfl) rfl))]
          clear hF hD
          exact gives_val (by simp only [execOp, evF, h7]; first | rfl | go_simp) ⟨Gr.refl _, rfl⟩
        · intro f_ w' g_ hF hD
          have h9 : f_ 9 = .slice A6 Z1.length k6 := hF 9 (by kernel_rfl)
          rw [if_pos (wanted_some (d := 54) rfl rfl (hD 6 54 (by kernel_rfl) rfl))]
          clear hF hD
          exact gives_val (by simp only [execOp, evF, h9]; first | rfl | go_simp) ⟨Gr.refl _, rfl⟩
        · intro f_ w' g_ hF hD
          have h55 : f_ 55 = (.slice A5 Z1.length k5) := hD 7 55 (by kernel_rfl) rfl
          have h56 : f_ 56 = (.slice A6 Z1.length k6) := hD 8 56 (by kernel_rfl) rfl
          rw [if_pos (wanted_some (d := 54) rfl rfl (hD 6 54 (by kernel_rfl) rfl))]
          clear hF hD
          have kg : Below w8.heap.size w8 w' := (below_drewN (Below.refl _ _) 1).trans g_
          refine gives_func rfl Tryd.func14 (by kernel_rfl) rfl (by simp only [List.map_toArray, List.map_cons, List.map_nil, evF, h55, h56]) ((Same_t A5 A6 Z1.length Z1.length k5 k6 Z1 w' rfl rfl (HR58.out.below kg) (HR68.out.below kg) HL1.out).mono ?_)
          rintro e w'' ⟨rfl, q9, rfl⟩
          exact ⟨_, rfl, below_drewN (Below.refl _ _) _, rfl⟩
        · intro f_ w' g_ hF hD
          have h54 : f_ 54 = (.bool true) := hD 6 54 (by kernel_rfl) rfl
          have h57 : f_ 57 = (.bool true) := hD 9 57 (by kernel_rfl) rfl
          rw [if_pos (wanted_none rfl)]
          clear hF hD
          exact gives_val (by simp only [execOp, evF, h54, h57]; first | rfl | go_simp) ⟨Gr.refl _, rfl⟩
        · intro f_ w' g_ hF hD
          have h58 : f_ 58 = (.bool true) := hD 10 58 (by kernel_rfl) rfl
          rw [if_pos (wanted_none rfl)]
          clear hF hD
          exact gives_val (by simp only [execOp, evF, h58]; first | rfl | go_simp) ⟨Gr.refl _, rfl⟩
        · intro f_ w' g_ hF hD
          have h12 : f_ 12 = .int .i64 (e2 : Int) := hF 12 (by kernel_rfl)
          rw [if_pos (wanted_some (d := 59) rfl rfl (hD 11 59 (by kernel_rfl) rfl))]
          clear hF hD
          exact gives_val (by simp only [execOp, evF, h12]; first | rfl | go_simp) ⟨Gr.refl _, rfl⟩
        · intro f_ w' g_ hF hD
          have h14 : f_ 14 = .int .i64 (e2 : Int) := hF 14 (by kernel_rfl)
          rw [if_pos (wanted_some (d := 59) rfl rfl (hD 11 59 (by kernel_rfl) rfl))]
          clear hF hD
          exact gives_val (by simp only [execOp, evF, h14]; first | rfl | go_simp) ⟨Gr.refl _, rfl⟩
        · intro f_ w' g_ hF hD
          have h60 : f_ 60 = (.int .i64 (e2 : Int)) := hD 12 60 (by kernel_rfl) rfl
          have h61 : f_ 61 = (.int .i64 (e2 : Int)) := hD 13 61 (by kernel_rfl) rfl
          rw [if_pos (wanted_some (d := 59) rfl rfl (hD 11 59 (by kernel_rfl) rfl))]
          clear hF hD
          exact gives_val (by simp only [execOp, evF, h60, h61]; first | rfl | go_simp) ⟨Gr.refl _, rfl⟩
        · intro f_ w' g_ hF hD
          have h59 : f_ 59 = (.bool true) := hD 11 59 (by kernel_rfl) rfl
          have h62 : f_ 62 = (.bool true) := hD 14 62 (by kernel_rfl) rfl
          rw [if_pos (wanted_none rfl)]
          clear hF hD
          exact gives_val (by simp only [execOp, evF, h59, h62]; first | rfl | go_simp) ⟨Gr.refl _, rfl⟩
        · intro f_ w' g_ hF hD
          have h63 : f_ 63 = (.bool true) := hD 15 63 (by kernel_rfl) rfl
          rw [if_pos (wanted_none rfl)]
          clear hF hD
          exact gives_val (by simp only [execOp, evF, h63]; first | rfl | go_simp) ⟨Gr.refl _, rfl⟩
        · intro f_ w' g_ hF hD
          have h11 : f_ 11 = .slice A7 Z2.length k7 := hF 11 (by kernel_rfl)
          rw [if_pos (wanted_some (d := 64) rfl rfl (hD 16 64 (by kernel_rfl) rfl))]
          clear hF hD
          exact gives_val (by simp only [execOp, evF, h11]; first | rfl | go_simp) ⟨Gr.refl _, rfl⟩
        · intro f_ w' g_ hF hD
          have h13 : f_ 13 = .slice A8 Z2.length k8 := hF 13 (by kernel_rfl)
          rw [if_pos (wanted_some (d := 64) rfl rfl (hD 16 64 (by kernel_rfl) rfl))]
          clear hF hD
          exact gives_val (by simp only [execOp, evF, h13]; first | rfl | go_simp) ⟨Gr.refl _, rfl⟩
        · intro f_ w' g_ hF hD
          have h65 : f_ 65 = (.slice A7 Z2.length k7) := hD 17 65 (by kernel_rfl) rfl
          have h66 : f_ 66 = (.slice A8 Z2.length k8) := hD 18 66 (by kernel_rfl) rfl
          rw [if_pos (wanted_some (d := 64) rfl rfl (hD 16 64 (by kernel_rfl) rfl))]
          clear hF hD
          have kg : Below w8.heap.size w8 w' := (below_drewN (Below.refl _ _) 1).trans g_
          refine gives_func rfl Tryd.func14 (by kernel_rfl) rfl (by simp only [List.map_toArray, List.map_cons, List.map_nil, evF, h65, h66]) ((Same_t A7 A8 Z2.length Z2.length k7 k8 Z2 w' rfl rfl (HR78.out.below kg) (HR8.out.below kg) HL2.out).mono ?_)
          rintro e w'' ⟨rfl, q9, rfl⟩
          exact ⟨_, rfl, below_drewN (Below.refl _ _) _, rfl⟩
        · intro f_ w' g_ hF hD
          have h64 : f_ 64 = (.bool true) := hD 16 64 (by kernel_rfl) rfl
          have h67 : f_ 67 = (.bool true) := hD 19 67 (by kernel_rfl) rfl
          rw [if_pos (wanted_none rfl)]
          clear hF hD
          exact gives_val (by simp only [execOp, evF, h64, h67]; first | rfl | go_simp) ⟨Gr.refl _, rfl⟩
        · intro f_ w' g_ hF hD
          have h68 : f_ 68 = (.bool true) := hD 20 68 (by kernel_rfl) rfl
          rw [if_pos (wanted_none rfl)]
          clear hF hD
          exact gives_val (by simp only [execOp, evF, h68]; first | rfl | go_simp) ⟨Gr.refl _, rfl⟩
        · intro f_ w' g_ hF hD
          have h5 : f_ 5 = .pointer (some ⟨g, 0, none⟩) := hF 5 (by kernel_rfl)
          rw [if_pos (wanted_some (d := 69) rfl rfl (hD 21 69 (by kernel_rfl) rfl))]
          clear hF hD
          have kg : Below w8.heap.size w8 w' := (below_drewN (Below.refl _ _) 1).trans g_
          exact gives_load_row 25 (.tmp 5) rfl g (by simp only [evF, h5]) 25 (scC s A2 n2 c2 L2 m2 d2) (0, 0) _ (HG8.out.below kg) Tryd.underlying25 rfl (info_sc.trans rfl) ⟨Gr.refl _, rfl⟩
        · intro f_ w' g_ hF hD
          have h70 : f_ 70 = (.agg (scC s A2 n2 c2 L2 m2 d2)) := hD 22 70 (by kernel_rfl) rfl
          rw [if_pos (wanted_some (d := 69) rfl rfl (hD 21 69 (by kernel_rfl) rfl))]
          clear hF hD
          have kg : Below w8.heap.size w8 w' := (below_drewN (Below.refl _ _) 1).trans g_
          refine gives_func rfl Tryd.func15 (by kernel_rfl) rfl (by simp only [List.map_toArray, List.map_cons, List.map_nil, evF, h70]) ((fits17_c s A2 n2 c2 L2 m2 d2 w' (HX8.out.below kg) (HU8.out.next kg)).mono ?_)
          rintro e w'' ⟨rfl, hb⟩
          rw [HF.out]
          exact ⟨_, rfl, hb, rfl⟩
        · intro f_ w' g_ hF hD
          have h2 : f_ 2 = .pointer (some ⟨p, 0, none⟩) := hF 2 (by kernel_rfl)
          rw [if_pos (wanted_some (d := 69) rfl rfl (hD 21 69 (by kernel_rfl) rfl))]
          clear hF hD
          have kg : Below w8.heap.size w8 w' := (below_drewN (Below.refl _ _) 1).trans g_
          exact gives_load_row 25 (.tmp 2) rfl p (by simp only [evF, h2]) 25 (scC s A n c L m cm) (0, 0) _ (HP8.out.below kg) Tryd.underlying25 rfl (info_sc.trans rfl) ⟨Gr.refl _, rfl⟩
        · intro f_ w' g_ hF hD
          have h72 : f_ 72 = (.agg (scC s A n c L m cm)) := hD 24 72 (by kernel_rfl) rfl
          rw [if_pos (wanted_some (d := 69) rfl rfl (hD 21 69 (by kernel_rfl) rfl))]
          clear hF hD
          have kg : Below w8.heap.size w8 w' := (below_drewN (Below.refl _ _) 1).trans g_
          refine gives_func rfl Tryd.func16 (by kernel_rfl) rfl (by simp only [List.map_toArray, List.map_cons, List.map_nil, evF, h72]) ((refFits17_c s A n c L m cm w' (HRS8.out.below kg) (HU8.out.next kg)).mono ?_)
          rintro e w'' ⟨rfl, hb⟩
          rw [HF.out]
          exact ⟨_, rfl, hb, rfl⟩
        · intro f_ w' g_ hF hD
          have h71 : f_ 71 = (.bool F) := hD 23 71 (by kernel_rfl) rfl
          have h73 : f_ 73 = (.bool F) := hD 25 73 (by kernel_rfl) rfl
          rw [if_pos (wanted_some (d := 69) rfl rfl (hD 21 69 (by kernel_rfl) rfl))]
          clear hF hD
          exact gives_val (by simp only [execOp, evF, h71, h73]; first | rfl | go_simp) ⟨Gr.refl _, rfl⟩
        · intro f_ w' g_ hF hD
          have h69 : f_ 69 = (.bool true) := hD 21 69 (by kernel_rfl) rfl
          have h74 : f_ 74 = (.bool true) := hD 26 74 (by kernel_rfl) rfl
          rw [if_pos (wanted_none rfl)]
          clear hF hD
          exact gives_val (by simp only [execOp, evF, h69, h74]; first | rfl | go_simp) ⟨Gr.refl _, rfl⟩
        · intro f_ w' g_ hF hD
          have h75 : f_ 75 = (.bool true) := hD 27 75 (by kernel_rfl) rfl
          rw [if_pos (wanted_none rfl)]
          clear hF hD
          exact gives_val (by simp only [execOp, evF, h75]; first | rfl | go_simp) ⟨Gr.refl _, rfl⟩
        · intro f_ w' g_ hF hD
          have h5 : f_ 5 = .pointer (some ⟨g, 0, none⟩) := hF 5 (by kernel_rfl)
          rw [if_pos (wanted_some (d := 76) rfl rfl (hD 28 76 (by kernel_rfl) rfl))]
          clear hF hD
          have kg : Below w8.heap.size w8 w' := (below_drewN (Below.refl _ _) 1).trans g_
          exact gives_load_row 25 (.tmp 5) rfl g (by simp only [evF, h5]) 25 (scC s A2 n2 c2 L2 m2 d2) (0, 0) _ (HG8.out.below kg) Tryd.underlying25 rfl (info_sc.trans rfl) ⟨Gr.refl _, rfl⟩
        · intro f_ w' g_ hF hD
          have h2 : f_ 2 = .pointer (some ⟨p, 0, none⟩) := hF 2 (by kernel_rfl)
          rw [if_pos (wanted_some (d := 76) rfl rfl (hD 28 76 (by kernel_rfl) rfl))]
          clear hF hD
          have kg : Below w8.heap.size w8 w' := (below_drewN (Below.refl _ _) 1).trans g_
          exact gives_load_row 25 (.tmp 2) rfl p (by simp only [evF, h2]) 25 (scC s A n c L m cm) (0, 0) _ (HP8.out.below kg) Tryd.underlying25 rfl (info_sc.trans rfl) ⟨Gr.refl _, rfl⟩
        · intro f_ w' g_ hF hD
          have h77 : f_ 77 = (.agg (scC s A2 n2 c2 L2 m2 d2)) := hD 29 77 (by kernel_rfl) rfl
          have h78 : f_ 78 = (.agg (scC s A n c L m cm)) := hD 30 78 (by kernel_rfl) rfl
          rw [if_pos (wanted_some (d := 76) rfl rfl (hD 28 76 (by kernel_rfl) rfl))]
          clear hF hD
          have kg : Below w8.heap.size w8 w' := (below_drewN (Below.refl _ _) 1).trans g_
          refine gives_func rfl Tryd.func17 (by kernel_rfl) rfl (by simp only [List.map_toArray, List.map_cons, List.map_nil, evF, h77, h78]) ((same_c s s A2 n2 c2 L2 m2 d2 A n c L m cm w' (HX8.out.below kg) (HRS8.out.below kg)).mono ?_)
          rintro e w'' ⟨rfl, hb⟩
          rw [sameS_self]
          exact ⟨_, rfl, hb, rfl⟩
        · intro f_ w' g_ hF hD
          have h76 : f_ 76 = (.bool true) := hD 28 76 (by kernel_rfl) rfl
          have h79 : f_ 79 = (.bool true) := hD 31 79 (by kernel_rfl) rfl
          rw [if_pos (wanted_none rfl)]
          clear hF hD
          exact gives_val (by simp only [execOp, evF, h76, h79]; first | rfl | go_simp) ⟨Gr.refl _, rfl⟩
        · intro f_ w' g_ hF hD
          have h80 : f_ 80 = (.bool true) := hD 32 80 (by kernel_rfl) rfl
          rw [if_pos (wanted_none rfl)]
          clear hF hD
          exact gives_val (by simp only [execOp, evF, h80]; first | rfl | go_simp) ⟨Gr.refl _, rfl⟩
        · intro f_ w' g_ hF hD
          have h6 : f_ 6 = .pointer (some ⟨h, 0, none⟩) := hF 6 (by kernel_rfl)
          rw [if_pos (wanted_some (d := 81) rfl rfl (hD 33 81 (by kernel_rfl) rfl))]
          clear hF hD
          have kg : Below w8.heap.size w8 w' := (below_drewN (Below.refl _ _) 1).trans g_
          exact gives_load_row 25 (.tmp 6) rfl h (by simp only [evF, h6]) 25 (scC t A3 n3 c3 L3 m3 d3) (0, 0) _ (HH8.out.below kg) Tryd.underlying25 rfl (info_sc.trans rfl) ⟨Gr.refl _, rfl⟩
        · intro f_ w' g_ hF hD
          have h3 : f_ 3 = .pointer (some ⟨q, 0, none⟩) := hF 3 (by kernel_rfl)
          rw [if_pos (wanted_some (d := 81) rfl rfl (hD 33 81 (by kernel_rfl) rfl))]
          clear hF hD
          have kg : Below w8.heap.size w8 w' := (below_drewN (Below.refl _ _) 1).trans g_
          exact gives_load_row 25 (.tmp 3) rfl q (by simp only [evF, h3]) 25 (scC t B k d M l dm) (0, 0) _ (HQ8.out.below kg) Tryd.underlying25 rfl (info_sc.trans rfl) ⟨Gr.refl _, rfl⟩
        · intro f_ w' g_ hF hD
          have h82 : f_ 82 = (.agg (scC t A3 n3 c3 L3 m3 d3)) := hD 34 82 (by kernel_rfl) rfl
          have h83 : f_ 83 = (.agg (scC t B k d M l dm)) := hD 35 83 (by kernel_rfl) rfl
          rw [if_pos (wanted_some (d := 81) rfl rfl (hD 33 81 (by kernel_rfl) rfl))]
          clear hF hD
          have kg : Below w8.heap.size w8 w' := (below_drewN (Below.refl _ _) 1).trans g_
          refine gives_func rfl Tryd.func17 (by kernel_rfl) rfl (by simp only [List.map_toArray, List.map_cons, List.map_nil, evF, h82, h83]) ((same_c t t A3 n3 c3 L3 m3 d3 B k d M l dm w' (HY8.out.below kg) (HRT8.out.below kg)).mono ?_)
          rintro e w'' ⟨rfl, hb⟩
          rw [sameS_self]
          exact ⟨_, rfl, hb, rfl⟩
        · intro f_ w' g_ hF hD
          have h81 : f_ 81 = (.bool true) := hD 33 81 (by kernel_rfl) rfl
          have h84 : f_ 84 = (.bool true) := hD 36 84 (by kernel_rfl) rfl
          rw [if_pos (wanted_none rfl)]
          clear hF hD
          exact gives_val (by simp only [execOp, evF, h81, h84]; first | rfl | go_simp) ⟨Gr.refl _, rfl⟩
        · intro f_ w' g_ hF hD
          have h85 : f_ 85 = (.bool true) := hD 37 85 (by kernel_rfl) rfl
          rw [if_pos (wanted_none rfl)]
          clear hF hD
          exact gives_val (by simp only [execOp, evF, h85]; first | rfl | go_simp) ⟨Gr.refl _, rfl⟩
      · intro f_ w9 gg hD
        have h4 : f_ 4 = .bool true := hD 38 4 rfl
        have kg : Below w8.heap.size w8 w9 := (below_drewN (Below.refl _ _) 1).trans gg
        simp only [putAll, List.setIfInBounds_toArray, List.set_cons_zero, List.set_cons_succ, h4]
        have HB9 := Lib.hid (HB8.out.trans (kg.mono HB8.out.size))
        clear hD gg kg h4
        go_wp2_with (fail)
        go_ret
        exact ⟨rfl, HB9.out⟩
  · go_wp2_with (first
      | (go_at_call 8; (refine (fixed17_c wc (HU.out.next HBC.out)).mono ?_); rintro _ w9 ⟨rfl, hb9⟩; have HB9 := Lib.hid (HBC.out.trans (hb9.mono HBC.out.size)); clear hb9))
    go_ret
    exact ⟨rfl, HB9.out⟩
end Go.Proofs.YtnnekdefncfeeaaDoor

