/- Parts one behind the other: What the reference's Apply (16) answers: the screen to which the bytes lead, or the error's number. Conditions: as told at each. -/
import Derived.Test.YtipofokinjkclaaDoorPERowsApplies1
import Derived.Test.YtipofokinjkclaaDoorPE20
import Derived.Test.YtipofokinjkclaaDoorPE15
import Derived.Deep.CutBlock

set_option linter.unusedVariables false
set_option linter.unusedSimpArgs false
/- What the reference's Apply (16) answers: the screen to which the bytes lead, or the error's number. Conditions: the screen's parts and the bytes can be read; the tables lie where they were laid. -/
namespace Go.Proofs.YtipofokinjkclaaDoor
open Go Go.RowKit Go.Lib

theorem end16_e (s : ScD) {E : Nat} (h : E ≠ 0) (cs : List CeD) : (scZ, E) = end16 s (E, cs) := by rw [end16, if_neg h]
theorem wrap256 {q : Nat} (h : q < 256 ^ 4) : IntKind.u32.wrap (q : Int) = (q : Int) := by
  have h2 : (256 : Nat) ^ 4 = 4294967296 := by decide
  exact IntWalk.u32_in _ ⟨by omega, by omega⟩
theorem beN_take1 (l : List UInt8) (h : 0 < l.length) : beN (l.take 1) = (l[0]'h).toNat := by
  cases l with
  | nil => exact absurd h (Nat.lt_irrefl 0)
  | cons y l => show 0 * 256 + y.toNat = y.toNat; omega
set_option maxRecDepth 100000 in
set_option maxHeartbeats 16000000 in
theorem refApply16_c (a : ScD) (A : Option Addr) (n c : Nat) (L : Option Addr) (m cm : Nat) (D : Option Addr) (dn dc : Nat) (bs : List UInt8) (w : World) (hs : ScR w a A n c L m cm) (hmo : 0 ≤ a.mouse) (hdn : bs.length = dn) (hdr : Rd w D (bs.map bv)) (hdl : dn ≤ 140737488355328) (hdc : dn ≤ dc) (hU : TabU w) :
    Calls Tryd.prog 46 #[.agg (scC a A n c L m cm), .slice D dn dc] w fun e w' => PostA w (app16 a bs) e w' := by
  obtain ⟨X, eX⟩ : ∃ X, X = scC a A n c L m cm := ⟨_, rfl⟩
  rw [← eX]
  obtain ⟨W0, eW0⟩ : ∃ W0, W0 = (w.alloc (.cells X 25)).alloc (.cells (scC scZ none 0 0 none 0 0) 25) := ⟨_, rfl⟩
  obtain ⟨p, ep⟩ : ∃ p, p = w.heap.size := ⟨_, rfl⟩
  obtain ⟨q, eq⟩ : ∃ q, q = w.heap.size + 1 := ⟨_, rfl⟩
  have hb0 : Below w.heap.size w W0 := by rw [eW0]; exact ((Below.refl _ _).alloc (Nat.le_refl _) _).alloc (by simp) _
  have hp0 : ScB W0 p a A n c L m cm := by rw [eW0, ep, eX]; exact (Below.heap_alloc _ _ _ (by simp)).trans (heap_alloc_new _ _)
  have hq0 : ScB W0 q scZ none 0 0 none 0 0 := by rw [eW0, eq]; exact heap_alloc2_new _ _ _
  have eW0' : (w.alloc (.cells X 25)).alloc (.cells #[.int .i64 0, .int .i64 0, .slice none 0 0, .int .i64 0, .int .i64 0, .bool false, .int .u8 0, .string { data := #[] }, .slice none 0 0] 25) = W0 := by rw [eW0]; rfl
  have EW0 := Lib.hid eW0'
  have EP := Lib.hid ep
  have EQ := Lib.hid eq
  have HB0 := Lib.hid hb0
  have HP0 := Lib.hid hp0
  have HQ0 := Lib.hid hq0
  have HSW := Lib.hid hs
  have HDR := Lib.hid hdr
  have HMO := Lib.hid hmo
  have HU := Lib.hid hU
  have HDN := Lib.hid hdn
  have HWQ : Hid (w.heap.size ≤ q ∧ p < q) := Lib.hid ⟨by omega, by omega⟩
  obtain ⟨Z, eZ⟩ : ∃ Z, app16 a bs = Z := ⟨_, rfl⟩
  rw [eZ]
  have EZ := Lib.hid eZ
  obtain ⟨b1, e1⟩ : ∃ t, fit16 a = t := ⟨_, rfl⟩
  have E1 := Lib.hid e1
  clear eX eW0 eW0' ep eq hb0 hs hdr hU eZ e1 hdn hmo hp0 hq0
  go_enter Tryd.func46, Tryd.ntmps46
  go_upto_region 1 with (fail)
  rw [EW0.out, ← EQ.out, ← EP.out]
  go_upto_region 2 with (first
    | (refine wpList_store_rowTo rfl 25 (.tmp 6) (.tmp 20) rfl rfl W0.heap.size (scC scZ none 0 0 none 0 0) rfl rfl 25 _ (heap_alloc_new W0 _) (info_sc.trans rfl) rfl (sc_one _ _ _ _ _ _ _) ?_))
  generalize eXX : World.alloc W0 _ = XX
  have hx : Below W0.heap.size W0 XX := by rw [← eXX]; exact (Below.refl _ _).alloc (Nat.le_refl _) _
  obtain ⟨old, hq2⟩ : ∃ old, XX.heap[W0.heap.size]? = some (.cells old 25 (0, 0)) := ⟨_, by rw [← eXX]; exact heap_alloc_new _ _⟩
  obtain ⟨z, eg⟩ : ∃ g, g = W0.heap.size := ⟨_, rfl⟩
  obtain ⟨W1, eWW⟩ : ∃ W, W = XX.setRow W0.heap.size (scC scZ none 0 0 none 0 0) := ⟨_, rfl⟩
  rw [← eWW, ← eg]
  have HZ1 : Hid (ScB W1 z scZ none 0 0 none 0 0) := Lib.hid (by rw [eWW, eg]; exact setRow_heap _ _ _ _ _ _ hq2)
  have hbs : Below W0.heap.size W0 W1 := by rw [eWW]; exact below_setRow hx (Nat.le_refl _) _
  have EGz := Lib.hid eg
  clear eXX hx hq2 eg eWW
  have HB1 := Lib.hid (HB0.out.trans (hbs.mono HB0.out.size))
  have HP1 := Lib.hid (HP0.out.below hbs)
  have HQ1 := Lib.hid (HQ0.out.below hbs)
  have HQZ : Hid (q < z ∧ w.heap.size ≤ z) := Lib.hid (by have h1 := heap_lt HQ0.out; have h2 := EGz.out; have h3 := HWQ.out.1; omega)
  have HR1 := Lib.hid (HSW.out.below HB1.out)
  have HU1 := Lib.hid (HU.out.next HB1.out)
  clear hbs
  cases b1
  · have HZ : Hid ((scZ, 1) = Z) := Lib.hid (by rw [← EZ.out]; unfold app16; rw [if_neg (by rw [E1.out]; decide)])
    go_wp2_with (first
      | (refine wpList_load_row rfl 25 (.tmp 2) rfl p rfl 25 _ (0, 0) _ HP1.out Tryd.underlying25 rfl (info_sc.trans rfl) ?_)
      | (go_at_call 26; (refine (refFits16_c a A n c L m cm W1 HR1.out HMO.out HU1.out).mono ?_); rintro _ w2 ⟨rfl, hb2⟩; rw [E1.out]; have HB2 := Lib.hid (HB1.out.trans (hb2.mono HB1.out.size)); have HP2 := Lib.hid (HP1.out.below hb2); have HQ2 := Lib.hid (HQ1.out.below hb2); have HZ2 := Lib.hid (HZ1.out.below hb2); clear hb2)
      | (refine wpList_load_row rfl 25 (.tmp 6) rfl z rfl 25 _ (0, 0) _ HZ2.out Tryd.underlying25 rfl (info_sc.trans rfl) ?_)
      | ((refine wpList_store_row rfl 25 (.tmp 4) (.tmp 24) rfl q (scC scZ none 0 0 none 0 0) rfl rfl 25 _ HQ2.out (info_sc.trans rfl) rfl (sc_one _ _ _ _ _ _ _) ?_); (repeat go_step); (refine bodyPost_ret (v := .tuple #[.agg (scC scZ none 0 0 none 0 0), .int .i64 1]) (results_row_tmp (p := 4) (u := 5) (ty := 25) rfl _ _ q 25 _ (0, 0) _ _ rfl rfl (setRow_heap w2 q _ _ _ _ HQ2.out) Tryd.underlying25 rfl (info_sc.trans rfl)) rfl ?_); (exact PostA.none_ HZ.out rfl (below_setRow HB2.out HWQ.out.1 _))))
  · by_cases h5 : dn < 5
    · have HZ : Hid ((scZ, 2) = Z) := Lib.hid (by
        rw [← EZ.out]
        unfold app16
        rw [if_pos E1.out]
        have h := HDN.out
        rcases bs with _ | ⟨_, _ | ⟨_, _ | ⟨_, _ | ⟨_, _ | ⟨_, _⟩⟩⟩⟩⟩
        · rfl
        · rfl
        · rfl
        · rfl
        · rfl
        · simp only [List.length_cons] at h; omega)
      go_wp2_with (first
        | (refine wpList_load_row rfl 25 (.tmp 2) rfl p rfl 25 _ (0, 0) _ HP1.out Tryd.underlying25 rfl (info_sc.trans rfl) ?_)
        | (go_at_call 26; (refine (refFits16_c a A n c L m cm W1 HR1.out HMO.out HU1.out).mono ?_); rintro _ w2 ⟨rfl, hb2⟩; rw [E1.out]; have HB2 := Lib.hid (HB1.out.trans (hb2.mono HB1.out.size)); have HP2 := Lib.hid (HP1.out.below hb2); have HQ2 := Lib.hid (HQ1.out.below hb2); have HZ2 := Lib.hid (HZ1.out.below hb2); clear hb2)
        | (refine wpList_load_row rfl 25 (.tmp 6) rfl z rfl 25 _ (0, 0) _ HZ2.out Tryd.underlying25 rfl (info_sc.trans rfl) ?_)
        | ((refine wpList_store_row rfl 25 (.tmp 4) (.tmp 28) rfl q (scC scZ none 0 0 none 0 0) rfl rfl 25 _ HQ2.out (info_sc.trans rfl) rfl (sc_one _ _ _ _ _ _ _) ?_); (repeat go_step); (refine bodyPost_ret (v := .tuple #[.agg (scC scZ none 0 0 none 0 0), .int .i64 2]) (results_row_tmp (p := 4) (u := 5) (ty := 25) rfl _ _ q 25 _ (0, 0) _ _ rfl rfl (setRow_heap w2 q _ _ _ _ HQ2.out) Tryd.underlying25 rfl (info_sc.trans rfl)) rfl ?_); (exact PostA.none_ HZ.out rfl (below_setRow HB2.out HWQ.out.1 _))))
    · obtain ⟨db, do_, rfl, hdb, hcell⟩ := HDR.out.addrB (by rw [HDN.out]; omega)
      have HCELL : Hid (∀ i (h : i < bs.length), w.cell? ⟨db, do_ + i, none⟩ = some (.int .u8 (((bs[i]).toNat : Nat) : Int))) := Lib.hid (fun i h => by rw [hcell i h]; simp [bv])
      have HDB := Lib.hid hdb
      obtain ⟨v1, ev1⟩ : ∃ v, v = (bs[0]'(by rw [HDN.out]; omega)).toNat := ⟨_, rfl⟩
      obtain ⟨v2, ev2⟩ : ∃ v, v = (bs[1]'(by rw [HDN.out]; omega)).toNat := ⟨_, rfl⟩
      obtain ⟨v3, ev3⟩ : ∃ v, v = (bs[2]'(by rw [HDN.out]; omega)).toNat := ⟨_, rfl⟩
      obtain ⟨v4, ev4⟩ : ∃ v, v = (bs[3]'(by rw [HDN.out]; omega)).toNat := ⟨_, rfl⟩
      obtain ⟨v5, ev5⟩ : ∃ v, v = (bs[4]'(by rw [HDN.out]; omega)).toNat := ⟨_, rfl⟩
      have l1 : v1 < 256 := by rw [ev1]; exact UInt8.toNat_lt _
      have l2 : v2 < 256 := by rw [ev2]; exact UInt8.toNat_lt _
      have l3 : v3 < 256 := by rw [ev3]; exact UInt8.toNat_lt _
      have l4 : v4 < 256 := by rw [ev4]; exact UInt8.toNat_lt _
      have l5 : v5 < 256 := by rw [ev5]; exact UInt8.toNat_lt _
      have HZ0 : Hid ((if 7 < v5 ∨ fitsI (v1 : Int) (v2 : Int) = false then (scZ, 3)
        else if v5 < 4 ∧ ¬ ((v1 : Int) = a.cols ∧ (v2 : Int) = a.rows) then (scZ, 15)
        else (match titP v5 (base16 a v1 v2 v3 v4 v5).title (bs.drop 5) with
          | none => (scZ, 2)
          | some (t, l2) => end16 { base16 a v1 v2 v3 v4 v5 with title := t } (readP v1 v2 l2 (base16 a v1 v2 v3 v4 v5).cells))) = Z) := Lib.hid (by
        rw [← EZ.out, ev1, ev2, ev3, ev4, ev5]
        unfold app16
        rw [if_pos E1.out]
        have h := HDN.out
        rcases bs with _ | ⟨_, _ | ⟨_, _ | ⟨_, _ | ⟨_, _ | ⟨_, _⟩⟩⟩⟩⟩
        · simp at h; omega
        · simp at h; omega
        · simp at h; omega
        · simp at h; omega
        · simp at h; omega
        · rfl)
      have HCC : Hid (∀ wx : World, Below w.heap.size w wx → wx.cell? ⟨db, do_, none⟩ = some (.int .u8 (v1 : Int)) ∧ wx.cell? ⟨db, do_ + 1, none⟩ = some (.int .u8 (v2 : Int)) ∧ wx.cell? ⟨db, do_ + 2, none⟩ = some (.int .u8 (v3 : Int)) ∧ wx.cell? ⟨db, do_ + 3, none⟩ = some (.int .u8 (v4 : Int)) ∧ wx.cell? ⟨db, do_ + 4, none⟩ = some (.int .u8 (v5 : Int))) := Lib.hid (fun wx h => by
        rw [ev1, ev2, ev3, ev4, ev5]
        exact ⟨(h.cell (p := ⟨db, do_, none⟩) hdb).trans (HCELL.out 0 _), (h.cell (p := ⟨db, do_ + 1, none⟩) hdb).trans (HCELL.out 1 _), (h.cell (p := ⟨db, do_ + 2, none⟩) hdb).trans (HCELL.out 2 _), (h.cell (p := ⟨db, do_ + 3, none⟩) hdb).trans (HCELL.out 3 _), (h.cell (p := ⟨db, do_ + 4, none⟩) hdb).trans (HCELL.out 4 _)⟩)
      have g0 : (0 : Int) < (dn : Int) := by omega
      have g1 : (1 : Int) < (dn : Int) := by omega
      have g2 : (2 : Int) < (dn : Int) := by omega
      have g3 : (3 : Int) < (dn : Int) := by omega
      have g4 : (4 : Int) < (dn : Int) := by omega
      have n0 : 0 < dn := by omega
      have n1 : 1 < dn := by omega
      have n2 : 2 < dn := by omega
      have n3 : 3 < dn := by omega
      have n4 : 4 < dn := by omega
      have g5 : ¬ (dn : Int) < 5 := by omega
      clear hcell hdb ev1 ev2 ev3 ev4 ev5
      go_upto_region 6 with (first
        | (refine wpList_load_row rfl 25 (.tmp 2) rfl p rfl 25 _ (0, 0) _ HP1.out Tryd.underlying25 rfl (info_sc.trans rfl) ?_)
        | (go_at_call 26; (refine (refFits16_c a A n c L m cm W1 HR1.out HMO.out HU1.out).mono ?_); rintro _ w2 ⟨rfl, hb2⟩; rw [E1.out]; have HB2 := Lib.hid (HB1.out.trans (hb2.mono HB1.out.size)); have HP2 := Lib.hid (HP1.out.below hb2); have HQ2 := Lib.hid (HQ1.out.below hb2); have HZ2 := Lib.hid (HZ1.out.below hb2); clear hb2))
      obtain ⟨c0, c1, -, -, c4⟩ := HCC.out w2 HB2.out
      obtain ⟨FB, eFB⟩ : ∃ b, fitsI (v1 : Int) (v2 : Int) = b := ⟨_, rfl⟩
      have HFB := Lib.hid eFB
      go_quiet (fail)
      clear c0 c1 c4
      obtain ⟨W2, eW2⟩ : ∃ W, W = w2.drewN nq := ⟨_, rfl⟩
      rw [← eW2]
      have hbw : Below w2.heap.size w2 W2 := by rw [eW2]; exact below_drewN (Below.refl _ _) _
      have HB3 := Lib.hid (HB2.out.trans (hbw.mono HB2.out.size))
      have HP3 := Lib.hid (HP2.out.below hbw)
      have HQ3 := Lib.hid (HQ2.out.below hbw)
      have HZ3 := Lib.hid (HZ2.out.below hbw)
      clear eW2 hbw
      cases FB
      · as_aux_lemma =>
          have HZ : Hid ((scZ, 3) = Z) := Lib.hid (by rw [← HZ0.out, if_pos (Or.inr eFB)])
          clear eFB
          obtain ⟨b7, e7⟩ : ∃ b, decide ((7 : Int) < (v5 : Int)) = b := ⟨_, rfl⟩
          have e7n : decide (7 < v5) = b7 := by rw [← e7]; exact decide_eq_decide.2 (by omega)
          go_upto_region 8 with (first
            | (go_at_call 35; (refine (refBlank15_bad (v1 : Int) (v2 : Int) W2 HFB.out).mono ?_); rintro _ w8 ⟨rfl, hb8⟩; have HB8 := Lib.hid (HB3.out.trans (hb8.mono HB3.out.size)); have HQ8 := Lib.hid (HQ3.out.below hb8); have HZ8 := Lib.hid (HZ3.out.below hb8); clear hb8)
            | (refine wpList_store_rowTo rfl 25 (.tmp 10) (.tmp 45) rfl rfl w8.heap.size (scC scZ none 0 0 none 0 0) rfl rfl 25 _ (heap_alloc_new w8 _) (info_sc.trans rfl) rfl (sc_one _ _ _ _ _ _ _) ?_))
          generalize eXX : World.alloc w8 _ = XX
          have hx : Below w8.heap.size w8 XX := by rw [← eXX]; exact (Below.refl _ _).alloc (Nat.le_refl _) _
          obtain ⟨old, hq2⟩ : ∃ old, XX.heap[w8.heap.size]? = some (.cells old 25 (0, 0)) := ⟨_, by rw [← eXX]; exact heap_alloc_new _ _⟩
          obtain ⟨g, eg⟩ : ∃ g, g = w8.heap.size := ⟨_, rfl⟩
          obtain ⟨W9, eWW⟩ : ∃ W, W = XX.setRow w8.heap.size (scC scZ none 0 0 none 0 0) := ⟨_, rfl⟩
          rw [← eWW, ← eg]
          have HG9 : Hid (ScB W9 g scZ none 0 0 none 0 0) := Lib.hid (by rw [eWW, eg]; exact setRow_heap _ _ _ _ _ _ hq2)
          have hbs : Below w8.heap.size w8 W9 := by rw [eWW]; exact below_setRow hx (Nat.le_refl _) _
          have EGg := Lib.hid eg
          clear eXX hx hq2 eg eWW
          have HB9 := Lib.hid (HB8.out.trans (hbs.mono HB8.out.size))
          have HQ9 := Lib.hid (HQ8.out.below hbs)
          have HZ9 := Lib.hid (HZ8.out.below hbs)
          clear hbs
          cases b7 <;>
          · go_wp2_with (first
              | (refine wpList_load_row rfl 25 (.tmp 6) rfl z rfl 25 _ (0, 0) _ HZ9.out Tryd.underlying25 rfl (info_sc.trans rfl) ?_)
              | ((refine wpList_store_row rfl 25 (.tmp 4) (.tmp 53) rfl q (scC scZ none 0 0 none 0 0) rfl rfl 25 _ HQ9.out (info_sc.trans rfl) rfl (sc_one _ _ _ _ _ _ _) ?_); (repeat go_step); (refine bodyPost_ret (v := .tuple #[.agg (scC scZ none 0 0 none 0 0), .int .i64 3]) (results_row_tmp (p := 4) (u := 5) (ty := 25) rfl _ _ q 25 _ (0, 0) _ _ rfl rfl (setRow_heap W9 q _ _ _ _ HQ9.out) Tryd.underlying25 rfl (info_sc.trans rfl)) rfl ?_); (exact PostA.none_ HZ.out rfl (below_setRow HB9.out HWQ.out.1 _))))
      · clear eFB
        obtain ⟨N, eN⟩ : ∃ N, N = v1 * v2 := ⟨_, rfl⟩
        have HN := Lib.hid eN
        clear eN
        go_upto_region 8 with (first
          | (go_at_call 35; (refine (refBlank15_c v1 v2 N W2 HFB.out HN.out).mono ?_); rintro _ w8 ⟨A8, c8, rfl, ho8, hb8⟩; have HO8 := Lib.hid ho8; have HK8 := Lib.hid hb8; clear ho8 hb8)
          | (refine wpList_store_rowTo rfl 25 (.tmp 10) (.tmp 45) rfl rfl w8.heap.size (scC (blankS v1 v2) A8 N c8 none 0 0) rfl rfl 25 _ (heap_alloc_new w8 _) (info_sc.trans rfl) rfl (sc_one _ _ _ _ _ _ _) ?_))
        generalize eXX : World.alloc w8 _ = XX
        have hx : Below w8.heap.size w8 XX := by rw [← eXX]; exact (Below.refl _ _).alloc (Nat.le_refl _) _
        obtain ⟨old, hq2⟩ : ∃ old, XX.heap[w8.heap.size]? = some (.cells old 25 (0, 0)) := ⟨_, by rw [← eXX]; exact heap_alloc_new _ _⟩
        obtain ⟨g, eg⟩ : ∃ g, g = w8.heap.size := ⟨_, rfl⟩
        obtain ⟨W9, eWW⟩ : ∃ W, W = XX.setRow w8.heap.size (scC (blankS v1 v2) A8 N c8 none 0 0) := ⟨_, rfl⟩
        rw [← eWW, ← eg]
        have HG9 : Hid (ScB W9 g (blankS v1 v2) A8 N c8 none 0 0) := Lib.hid (by rw [eWW, eg]; exact setRow_heap _ _ _ _ _ _ hq2)
        have hbs : Below w8.heap.size w8 W9 := by rw [eWW]; exact below_setRow hx (Nat.le_refl _) _
        have EGg := Lib.hid eg
        clear eXX hx hq2 eg eWW
        have HK9 : Hid (Below W2.heap.size W2 W9) := Lib.hid (HK8.out.trans (hbs.mono HK8.out.size))
        have HO9 := Lib.hid (OwnC.below HO8.out hbs)
        have HB9 := Lib.hid (HB3.out.trans (HK9.out.mono HB3.out.size))
        have HQ9 := Lib.hid (HQ3.out.below HK9.out)
        have HZ9 := Lib.hid (HZ3.out.below HK9.out)
        have HP9 := Lib.hid (HP3.out.below HK9.out)
        have HR9 := Lib.hid (HSW.out.below HB9.out)
        have HLB : Hid (z < W2.heap.size ∧ W2.heap.size ≤ g) := Lib.hid ⟨heap_lt HZ3.out, by rw [EGg.out]; exact HK8.out.size⟩
        have HDIM : Hid (1 ≤ v1 ∧ v1 ≤ 80 ∧ 1 ≤ v2 ∧ v2 ≤ 24) := Lib.hid (by have h := HFB.out; simp only [fitsI, Bool.and_eq_true, decide_eq_true_eq] at h; omega)
        clear hbs
        by_cases h7 : 7 < v5
        · as_aux_lemma =>
            have HZ : Hid ((scZ, 3) = Z) := Lib.hid (by rw [← HZ0.out, if_pos (Or.inl h7)])
            have e7n : decide (7 < v5) = true := decide_eq_true h7
            have e7 : decide ((7 : Int) < (v5 : Int)) = true := decide_eq_true (by omega)
            clear h7
            go_wp2_with (first
              | (refine wpList_load_row rfl 25 (.tmp 6) rfl z rfl 25 _ (0, 0) _ HZ9.out Tryd.underlying25 rfl (info_sc.trans rfl) ?_)
              | ((refine wpList_store_row rfl 25 (.tmp 4) (.tmp 53) rfl q (scC scZ none 0 0 none 0 0) rfl rfl 25 _ HQ9.out (info_sc.trans rfl) rfl (sc_one _ _ _ _ _ _ _) ?_); (repeat go_step); (refine bodyPost_ret (v := .tuple #[.agg (scC scZ none 0 0 none 0 0), .int .i64 3]) (results_row_tmp (p := 4) (u := 5) (ty := 25) rfl _ _ q 25 _ (0, 0) _ _ rfl rfl (setRow_heap W9 q _ _ _ _ HQ9.out) Tryd.underlying25 rfl (info_sc.trans rfl)) rfl ?_); (exact PostA.none_ HZ.out rfl (below_setRow HB9.out HWQ.out.1 _))))
        · have HZ1 : Hid ((if v5 < 4 ∧ ¬ ((v1 : Int) = a.cols ∧ (v2 : Int) = a.rows) then (scZ, 15)
            else (match titP v5 (base16 a v1 v2 v3 v4 v5).title (bs.drop 5) with
            | none => (scZ, 2)
            | some (t, l2) => end16 { base16 a v1 v2 v3 v4 v5 with title := t } (readP v1 v2 l2 (base16 a v1 v2 v3 v4 v5).cells))) = Z) := Lib.hid (by have h := HZ0.out; rw [if_neg (by rw [HFB.out]; simp; omega)] at h; exact h)
          have e7n : decide (7 < v5) = false := decide_eq_false h7
          have e7 : decide ((7 : Int) < (v5 : Int)) = false := decide_eq_false (by omega)
          obtain ⟨b4, e4⟩ : ∃ b, decide (v5 < 4) = b := ⟨_, rfl⟩
          have e4i : decide ((v5 : Int) < 4) = b4 := by rw [← e4]; exact decide_eq_decide.2 (by omega)
          have HB4 := Lib.hid e4
          have H7 := Lib.hid h7
          clear h7
          obtain ⟨gs8, rfl⟩ := own_at2 HO9.out (by rw [List.length_replicate, HN.out]; exact Nat.mul_pos (by have := HDIM.out; omega) (by have := HDIM.out; omega))
          go_upto_if 55 with (fail)
          clear e7 e7n HZ0
          go_cut [] (fun wx => Hid (∃ gs n0 c0 L0 d0, BpS w q z g gs v1 v2 (if v5 < 4 then a else blankS v1 v2) n0 c0 L0 d0 wx ∧ ¬ (v5 < 4 ∧ ¬ ((v1 : Int) = a.cols ∧ (v2 : Int) = a.rows))))
          case first => as_aux_lemma =>
            cases b4
            · have H4 : Hid (¬ v5 < 4) := Lib.hid (of_decide_eq_false e4)
              clear e4 e4i
              go_wp2_with (fail)
              go_meet
              refine Lib.hid ⟨gs8, N, c8, none, 0, ?_, fun h => H4.out h.1⟩
              rw [if_neg H4.out]
              have h8 := HO8.out.lt gs8 rfl
              have hlb := HLB.out
              have hqz := HQZ.out
              have hwe := HB3.out.size
              have hbc : (blankS (v1 : Int) (v2 : Int)).cells = List.replicate N blankD := by
                show List.replicate ((v1 : Int) * (v2 : Int)).toNat blankD = _
                rw [HN.out, ← Int.natCast_mul]; rfl
              exact ⟨HB9.out, HQ9.out, HZ9.out, HG9.out, (by rw [hbc]; exact HO9.out.low HB3.out.size), HN.out, by have := EGg.out; omega, ⟨HWQ.out.1, hqz.1, by omega, by omega⟩, HDIM.out, rfl, rfl, rfl, (blank_sound16 HFB.out).ok, Nat.zero_le _⟩
            · have H4 : Hid (v5 < 4) := Lib.hid (of_decide_eq_true e4)
              have x0 : W9.cell? ⟨p, 0, none⟩ = some (.int .i64 a.cols) := HP9.out.nine.1
              have x1 : W9.cell? ⟨p, 1, none⟩ = some (.int .i64 a.rows) := HP9.out.nine.2.1
              clear e4 e4i
              by_cases hd : (v1 : Int) = a.cols ∧ (v2 : Int) = a.rows
              · obtain ⟨C, R, hf⟩ := fit16_of E1.out
                have hvc : v1 = C := by have := hf.c; omega
                have hvr : v2 = R := by have := hf.r; omega
                subst hvc hvr
                have HFA := Lib.hid hf
                have HD := Lib.hid hd
                have z1 : ((v1 : Int) != a.cols) = false := by rw [bne_eq_false_iff_eq]; exact hd.1
                have z2 : ((v2 : Int) != a.rows) = false := by rw [bne_eq_false_iff_eq]; exact hd.2
                have hm : m = 0 := by rw [← HSW.out.hm, hf.lk]; rfl
                have HM := Lib.hid hm
                clear hd hf hm
                go_wp2_with (first
                  | (refine wpList_load_row rfl 25 (.tmp 2) rfl p rfl 25 _ (0, 0) _ HP9.out Tryd.underlying25 rfl (info_sc.trans rfl) ?_)
                  | (go_at_call 19; (refine (refCopyS_c a A n c L m cm W9 HR9.out).mono ?_); rintro _ w10 ⟨A10, c10, L10, d10, rfl, ho10, ht10, _, hb10⟩; have HO10 := Lib.hid ho10; have HK10 := Lib.hid hb10; have HG10 := Lib.hid (HG9.out.below hb10); clear ho10 ht10 hb10)
                  | (refine wpList_store_row rfl 25 (.tmp 10) (.tmp 68) rfl g (scC a A10 n c10 L10 m d10) rfl rfl 25 _ HG10.out (info_sc.trans rfl) rfl (sc_one _ _ _ _ _ _ _) ?_))
                go_meet
                obtain ⟨gs, eA⟩ := own_at2 HO10.out (by rw [HFA.out.len]; exact Nat.mul_pos (by have := HDIM.out; omega) (by have := HDIM.out; omega))
                have hm := HM.out
                subst eA hm
                refine Lib.hid ⟨gs, n, c10, L10, d10, ?_, fun h => h.2 HD.out⟩
                rw [if_pos H4.out]
                have hk : Stays (fun k => k = g) w10 (w10.setRow g (scC a (some ⟨gs, 0, none⟩) n c10 L10 0 d10)) := Stays.setRow _ _ _ _ rfl
                have h1 : ScB (w10.setRow g (scC a (some ⟨gs, 0, none⟩) n c10 L10 0 d10)) g a (some ⟨gs, 0, none⟩) n c10 L10 0 d10 := setRow_heap _ _ _ _ _ _ HG10.out
                have hlb := HLB.out
                have hqz := HQZ.out
                have hwe := HB9.out.size
                have hlt := HO10.out.lt gs rfl
                have hg9 := heap_lt HG9.out
                have hb := HB9.out.trans (HK10.out.mono HB9.out.size)
                have hwe3 := HB3.out.size
                exact ⟨hb.trans (hk.below hb.size (fun j hj e => by omega)), hk.scB (HQ9.out.below HK10.out) (by omega), hk.scB (HZ9.out.below HK10.out) (by omega), h1, hk.keepC (HO10.out.low HB9.out.size) (fun j ej => by injection ej with ej; have : gs = j := ej; omega), by rw [← HFA.out.len]; exact HO10.out.parts.1.symm, by omega, ⟨HWQ.out.1, hqz.1, by omega, by omega⟩, HDIM.out, HD.out.1.symm, HD.out.2.symm, HFA.out.lk, HSW.out.ok, HSW.out.tl⟩
              · have HZ : Hid ((scZ, 15) = Z) := Lib.hid (by rw [← HZ1.out, if_pos ⟨H4.out, hd⟩])
                by_cases hd1 : (v1 : Int) = a.cols
                · have hd2 : ¬ (v2 : Int) = a.rows := fun e => hd ⟨hd1, e⟩
                  have z1 : ((v1 : Int) != a.cols) = false := by rw [bne_eq_false_iff_eq]; exact hd1
                  have z2 : ((v2 : Int) != a.rows) = true := by rw [bne_iff_ne]; exact hd2
                  clear hd hd1 hd2
                  go_wp2_with (first
                    | (refine wpList_load_row rfl 25 (.tmp 6) rfl z rfl 25 _ (0, 0) _ HZ9.out Tryd.underlying25 rfl (info_sc.trans rfl) ?_)
                    | ((refine wpList_store_row rfl 25 (.tmp 4) (.tmp 66) rfl q (scC scZ none 0 0 none 0 0) rfl rfl 25 _ HQ9.out (info_sc.trans rfl) rfl (sc_one _ _ _ _ _ _ _) ?_); (repeat go_step); (refine bodyPost_ret (v := .tuple #[.agg (scC scZ none 0 0 none 0 0), .int .i64 15]) (results_row_tmp (p := 4) (u := 5) (ty := 25) rfl _ _ q 25 _ (0, 0) _ _ rfl rfl (setRow_heap W9 q _ _ _ _ HQ9.out) Tryd.underlying25 rfl (info_sc.trans rfl)) rfl ?_); (exact PostA.none_ HZ.out rfl (below_setRow HB9.out HWQ.out.1 _))))
                · have z1 : ((v1 : Int) != a.cols) = true := by rw [bne_iff_ne]; exact hd1
                  clear hd hd1
                  go_wp2_with (first
                    | (refine wpList_load_row rfl 25 (.tmp 6) rfl z rfl 25 _ (0, 0) _ HZ9.out Tryd.underlying25 rfl (info_sc.trans rfl) ?_)
                    | ((refine wpList_store_row rfl 25 (.tmp 4) (.tmp 66) rfl q (scC scZ none 0 0 none 0 0) rfl rfl 25 _ HQ9.out (info_sc.trans rfl) rfl (sc_one _ _ _ _ _ _ _) ?_); (repeat go_step); (refine bodyPost_ret (v := .tuple #[.agg (scC scZ none 0 0 none 0 0), .int .i64 15]) (results_row_tmp (p := 4) (u := 5) (ty := 25) rfl _ _ q 25 _ (0, 0) _ _ rfl rfl (setRow_heap W9 q _ _ _ _ HQ9.out) Tryd.underlying25 rfl (info_sc.trans rfl)) rfl ?_); (exact PostA.none_ HZ.out rfl (below_setRow HB9.out HWQ.out.1 _))))
          case rest =>
          obtain ⟨gs, n0, c0, L0, d0, hA, hne⟩ := hcut.out
          have HA := Lib.hid hA
          obtain ⟨S0, eS0⟩ : ∃ S0 : ScD, (if v5 < 4 then a else blankS v1 v2) = S0 := ⟨_, rfl⟩
          rw [eS0] at HA
          have HZ2 : Hid ((match titP v5 S0.title (bs.drop 5) with
            | none => (scZ, 2)
            | some (t, l2) => end16 ⟨S0.cols, S0.rows, S0.cells, (v3 : Int), (v4 : Int), v5 % 2 == 1, S0.mouse, t, S0.links⟩ (readP v1 v2 l2 S0.cells)) = Z) := Lib.hid (by have h := HZ1.out; rw [if_neg hne] at h; unfold base16 at h; rw [eS0] at h; exact h)
          have HM0 : Hid (0 ≤ S0.mouse) := Lib.hid (by rw [← eS0]; split; exact HMO.out; exact Int.le_refl 0)
          clear hcut hA hne eS0 e4 e4i
          have HDG : Hid (db ≠ g) := Lib.hid (by have h := HDB.out; have h2 := HLB.out; have h3 := HB3.out.size; omega)
          obtain ⟨hb, ehb⟩ : ∃ b, (v5 % 2 == 1) = b := ⟨_, rfl⟩
          have hk1 : ((v5 : Int) % 2 == 1) = hb := by rw [← ehb, Bool.eq_iff_iff, beq_iff_eq, beq_iff_eq]; omega
          have EHB := Lib.hid ehb
          clear ehb
          obtain ⟨-, -, y2, -, -⟩ := HCC.out wc HA.out.bel
          have f3 := heap_free HA.out.sg 3
          have x3 := HA.out.sg.nine.2.2.2.1
          go_upto_region 15 with (fail)
          clear y2 f3 x3
          obtain ⟨W14, eW14⟩ : ∃ W, W = wc.setCell ⟨g, 3, none⟩ (.int .i64 (v3 : Int)) := ⟨_, rfl⟩
          rw [← eW14]
          have HA14 : Hid (BpS w q z g gs v1 v2 ⟨S0.cols, S0.rows, S0.cells, (v3 : Int), S0.y, S0.hid, S0.mouse, S0.title, S0.links⟩ n0 c0 L0 d0 W14) := Lib.hid (by rw [eW14]; exact HA.out.stay (Stays.set _ wc ⟨g, 3, none⟩ _ rfl) (heap_set (i := 3) (u := .int .i64 (v3 : Int)) HA.out.sg) rfl rfl rfl rfl HA.out.tl)
          clear eW14
          obtain ⟨-, -, -, y3, -⟩ := HCC.out W14 HA14.out.bel
          have f4 := heap_free HA14.out.sg 4
          have x4 := HA14.out.sg.nine.2.2.2.2.1
          go_upto_region 16 with (fail)
          clear y3 f4 x4
          obtain ⟨W15, eW15⟩ : ∃ W, W = W14.setCell ⟨g, 4, none⟩ (.int .i64 (v4 : Int)) := ⟨_, rfl⟩
          rw [← eW15]
          have HA15 : Hid (BpS w q z g gs v1 v2 ⟨S0.cols, S0.rows, S0.cells, (v3 : Int), (v4 : Int), S0.hid, S0.mouse, S0.title, S0.links⟩ n0 c0 L0 d0 W15) := Lib.hid (by rw [eW15]; exact HA14.out.stay (Stays.set _ W14 ⟨g, 4, none⟩ _ rfl) (heap_set (i := 4) (u := .int .i64 (v4 : Int)) HA14.out.sg) rfl rfl rfl rfl HA14.out.tl)
          clear eW15
          have f5 := heap_free HA15.out.sg 5
          have x5 := HA15.out.sg.nine.2.2.2.2.2.1
          go_upto_region 17 with (fail)
          clear f5 x5 hk1
          obtain ⟨W16, eW16⟩ : ∃ W, W = W15.setCell ⟨g, 5, none⟩ (.bool hb) := ⟨_, rfl⟩
          rw [← eW16]
          obtain ⟨S1, eS1⟩ : ∃ S1 : ScD, S1 = ⟨S0.cols, S0.rows, S0.cells, (v3 : Int), (v4 : Int), hb, S0.mouse, S0.title, S0.links⟩ := ⟨_, rfl⟩
          have HA16 : Hid (BpS w q z g gs v1 v2 S1 n0 c0 L0 d0 W16) := Lib.hid (by rw [eW16, eS1]; exact HA15.out.stay (Stays.set _ W15 ⟨g, 5, none⟩ _ rfl) (heap_set (i := 5) (u := .bool hb) HA15.out.sg) rfl rfl rfl rfl HA15.out.tl)
          have HZ3 : Hid ((match titP v5 S1.title (bs.drop 5) with
            | none => (scZ, 2)
            | some (t', l2) => end16 ⟨S1.cols, S1.rows, S1.cells, S1.x, S1.y, S1.hid, S1.mouse, t', S1.links⟩ (readP v1 v2 l2 S1.cells)) = Z) := Lib.hid (by have h := HZ2.out; rw [EHB.out] at h; rw [eS1]; exact h)
          have HM1 : Hid (0 ≤ S1.mouse) := Lib.hid (by rw [eS1]; exact HM0.out)
          clear eW16 eS1 HA HA14 HA15 HZ2
          obtain ⟨bt, ebt⟩ : ∃ b, decide (v5 / 2 % 2 = 1) = b := ⟨_, rfl⟩
          have hk2 : ((v5 : Int) / 2 % 2 == 1) = bt := by rw [← ebt, Bool.eq_iff_iff, beq_iff_eq, decide_eq_true_eq]; omega
          have HBT := Lib.hid ebt
          clear ebt
          go_upto_if 86 with (fail)
          clear hk2
          go_cut [12] (fun s12 wx => Hid (∃ (T : ByteArray) (at_ : Nat), s12 = .int .i64 (at_ : Int) ∧ at_ ≤ dn ∧ BpS w q z g gs v1 v2 ⟨S1.cols, S1.rows, S1.cells, S1.x, S1.y, S1.hid, S1.mouse, T, S1.links⟩ n0 c0 L0 d0 wx ∧ end16 ⟨S1.cols, S1.rows, S1.cells, S1.x, S1.y, S1.hid, S1.mouse, T, S1.links⟩ (readP v1 v2 (bs.drop at_) S1.cells) = Z))
          case first => as_aux_lemma =>
            cases bt
            · go_wp2_with (fail)
              go_meet
              refine Lib.hid ⟨S1.title, 5, rfl, by omega, HA16.out, ?_⟩
              rw [← HZ3.out]
              unfold titP
              rw [if_neg (of_decide_eq_false HBT.out)]
            · have HTI : Hid (titP v5 S1.title (bs.drop 5) = _) := Lib.hid (tit_at bs v5 5 S1.title (of_decide_eq_true HBT.out))
              by_cases h6 : dn = 5
              · have HZ : Hid ((scZ, 2) = Z) := Lib.hid (by have h := HZ3.out; rw [HTI.out, dif_neg (by rw [HDN.out]; omega)] at h; exact h)
                have z1 : ((dn : Int) == 5) = true := by rw [beq_iff_eq]; omega
                clear h6
                go_wp2_with (first
                  | (refine wpList_load_row rfl 25 (.tmp 6) rfl z rfl 25 _ (0, 0) _ HA16.out.hz Tryd.underlying25 rfl (info_sc.trans rfl) ?_)
                  | ((refine wpList_store_row rfl 25 (.tmp 4) (.tmp 104) rfl q (scC scZ none 0 0 none 0 0) rfl rfl 25 _ HA16.out.hq (info_sc.trans rfl) rfl (sc_one _ _ _ _ _ _ _) ?_); (repeat go_step); (refine bodyPost_ret (v := .tuple #[.agg (scC scZ none 0 0 none 0 0), .int .i64 2]) (results_row_tmp (p := 4) (u := 5) (ty := 25) rfl _ _ q 25 _ (0, 0) _ _ rfl rfl (setRow_heap W16 q _ _ _ _ HA16.out.hq) Tryd.underlying25 rfl (info_sc.trans rfl)) rfl ?_); (exact PostA.none_ HZ.out rfl (below_setRow HA16.out.bel HWQ.out.1 _))))
              · have hd6 : 5 < dn := by omega
                have hd6i : (5 : Int) < (dn : Int) := by omega
                obtain ⟨v6, ev6⟩ : ∃ v, v = (bs[5]'(by rw [HDN.out]; exact hd6)).toNat := ⟨_, rfl⟩
                have l6 : v6 < 256 := by rw [ev6]; exact UInt8.toNat_lt _
                have c5 : W16.cell? ⟨db, do_ + 5, none⟩ = some (.int .u8 (v6 : Int)) := by rw [ev6]; exact (HA16.out.bel.cell (p := ⟨db, do_ + 5, none⟩) HDB.out).trans (HCELL.out 5 _)
                have z1 : ((dn : Int) == 5) = false := by rw [beq_eq_false_iff_ne]; omega
                have HT2 : Hid (titP v5 S1.title (bs.drop 5) = (if dn - 5 - 1 < v6 then none else some (⟨((bs.drop 6).take v6).toArray⟩, bs.drop (5 + (1 + v6))))) := Lib.hid (by rw [HTI.out, dif_pos (by rw [HDN.out]; exact hd6)]; simp only [← ev6, HDN.out, Nat.reduceAdd])
                clear ev6 h6
                by_cases h7 : dn - 5 - 1 < v6
                · have HZ : Hid ((scZ, 2) = Z) := Lib.hid (by have h := HZ3.out; rw [HT2.out, if_pos h7] at h; exact h)
                  have z2 : (dn : Int) - 5 - 1 < (v6 : Int) := by omega
                  clear h7
                  go_wp2_with (first
                    | (refine wpList_load_row rfl 25 (.tmp 6) rfl z rfl 25 _ (0, 0) _ HA16.out.hz Tryd.underlying25 rfl (info_sc.trans rfl) ?_)
                    | ((refine wpList_store_row rfl 25 (.tmp 4) (.tmp 104) rfl q (scC scZ none 0 0 none 0 0) rfl rfl 25 _ HA16.out.hq (info_sc.trans rfl) rfl (sc_one _ _ _ _ _ _ _) ?_); (repeat go_step); (refine bodyPost_ret (v := .tuple #[.agg (scC scZ none 0 0 none 0 0), .int .i64 2]) (results_row_tmp (p := 4) (u := 5) (ty := 25) rfl _ _ q 25 _ (0, 0) _ _ rfl rfl (setRow_heap W16 q _ _ _ _ HA16.out.hq) Tryd.underlying25 rfl (info_sc.trans rfl)) rfl ?_); (exact PostA.none_ HZ.out rfl (below_setRow HA16.out.bel HWQ.out.1 _))))
                · have z2 : ¬ (dn : Int) - 5 - 1 < (v6 : Int) := by omega
                  have HZ4 := Lib.hid (show end16 ⟨S1.cols, S1.rows, S1.cells, S1.x, S1.y, S1.hid, S1.mouse, ⟨((bs.drop 6).take v6).toArray⟩, S1.links⟩ (readP v1 v2 (bs.drop (5 + (1 + v6))) S1.cells) = Z by have h := HZ3.out; rw [HT2.out, if_neg h7] at h; exact h)
                  have hcv : (convert 29 9 (.slice (some ⟨db, do_ + 6, none⟩) v6 (dc - 6))).run Tryd.prog W16 = .ok (.string ⟨((bs.drop 6).take v6).toArray⟩) W16 := conv_text2 W16 db (do_ + 6) (dc - 6) v6 _ (by rw [List.length_take, List.length_drop, HDN.out]; omega) (by
                    refine .inr ⟨db, do_ + 6, rfl, Nat.lt_of_lt_of_le HDB.out HA16.out.bel.size, fun i hi => ?_⟩
                    rw [List.length_map, List.length_take, List.length_drop] at hi
                    rw [List.getElem_map, List.getElem_take, List.getElem_drop, Nat.add_assoc]
                    exact (HA16.out.bel.cell (p := ⟨db, do_ + (6 + i), none⟩) HDB.out).trans ((HCELL.out (6 + i) (by omega)).trans rfl))
                  have hle : 6 + v6 ≤ dn := by omega
                  have hlei : (6 : Int) + (v6 : Int) ≤ (dn : Int) := by omega
                  have hlec : (6 : Int) + (v6 : Int) ≤ (dc : Int) := by omega
                  have f7 := heap_free HA16.out.sg 7
                  have x7 := HA16.out.sg.nine.2.2.2.2.2.2.2.1
                  clear h7
                  rcases Nat.eq_zero_or_pos v6 with h0 | h0
                  · subst h0
                    have hcv0 : ∀ (off c : Nat), (convert 29 9 (.slice (some ⟨db, off, none⟩) 0 c)).run Tryd.prog W16 = .ok (.string ⟨#[]⟩) W16 := fun off c => conv_text2 W16 db off c 0 [] rfl (.inl rfl)
                    have HZ4' := Lib.hid (show end16 ⟨S1.cols, S1.rows, S1.cells, S1.x, S1.y, S1.hid, S1.mouse, ⟨#[]⟩, S1.links⟩ (readP v1 v2 (bs.drop 6) S1.cells) = Z from HZ4.out)
                    clear hcv
                    go_upto_region 23 with (fail)
                    all_goals
                      try rw [show (Value.slice (some ⟨db, do_, none⟩) dn 6) = Value.slice (some ⟨db, do_, none⟩) dn dc by (have e : dc = 6 := by omega); rw [e]]
                      clear hcv0 f7 x7 c5 z1 z2
                      obtain ⟨W22, eW22⟩ : ∃ W, W = W16.setCell ⟨g, 7, none⟩ (.string ⟨#[]⟩) := ⟨_, rfl⟩
                      rw [← eW22]
                      have HA22 : Hid (BpS w q z g gs v1 v2 ⟨S1.cols, S1.rows, S1.cells, S1.x, S1.y, S1.hid, S1.mouse, ⟨#[]⟩, S1.links⟩ n0 c0 L0 d0 W22) := Lib.hid (by rw [eW22]; exact HA16.out.stay (Stays.set _ W16 ⟨g, 7, none⟩ _ rfl) (heap_set (i := 7) (u := .string ⟨#[]⟩) HA16.out.sg) rfl rfl rfl rfl (Nat.zero_le _))
                      clear eW22
                      go_wp2_with (fail)
                      go_meet
                      exact Lib.hid ⟨⟨#[]⟩, 6, by simp, by omega, HA22.out, HZ4'.out⟩
                  · have hc7 : 6 < dc := by omega
                    have hc7i : (6 : Int) < (dc : Int) := by omega
                    go_upto_region 23 with (fail)
                    all_goals
                      clear hcv f7 x7 c5 z1 z2
                      obtain ⟨TT, eTT⟩ : ∃ TT : ByteArray, TT = ⟨((bs.drop 6).take v6).toArray⟩ := ⟨_, rfl⟩
                      obtain ⟨W22, eW22⟩ : ∃ W, W = W16.setCell ⟨g, 7, none⟩ (.string ⟨((bs.drop 6).take v6).toArray⟩) := ⟨_, rfl⟩
                      rw [← eW22]
                      have hts : TT.size ≤ 1000000 := by
                        rw [eTT]
                        show (((bs.drop 6).take v6).toArray).size ≤ 1000000
                        rw [List.size_toArray, List.length_take]
                        omega
                      have HA22 : Hid (BpS w q z g gs v1 v2 ⟨S1.cols, S1.rows, S1.cells, S1.x, S1.y, S1.hid, S1.mouse, TT, S1.links⟩ n0 c0 L0 d0 W22) := Lib.hid (by rw [eW22, ← eTT]; exact HA16.out.stay (Stays.set _ W16 ⟨g, 7, none⟩ _ rfl) (heap_set (i := 7) (u := .string TT) HA16.out.sg) rfl rfl rfl rfl hts)
                      have HZ5 := Lib.hid (show end16 ⟨S1.cols, S1.rows, S1.cells, S1.x, S1.y, S1.hid, S1.mouse, TT, S1.links⟩ (readP v1 v2 (bs.drop (5 + (1 + v6))) S1.cells) = Z by rw [eTT]; exact HZ4.out)
                      have hat : 5 + (1 + v6) ≤ dn := by omega
                      have HAT := Lib.hid hat
                      clear eW22 hts eTT hat
                      go_wp2_with (fail)
                      go_meet
                      exact Lib.hid ⟨TT, 5 + (1 + v6), by simp [Int.natCast_add], HAT.out, HA22.out, HZ5.out⟩
          case rest =>
          obtain ⟨T, at0, e12, hat0, hA, hz⟩ := hcut.out
          obtain ⟨S2, eS2⟩ : ∃ S2 : ScD, S2 = ⟨S1.cols, S1.rows, S1.cells, S1.x, S1.y, S1.hid, S1.mouse, T, S1.links⟩ := ⟨_, rfl⟩
          have HA2 : Hid (BpS w q z g gs v1 v2 S2 n0 c0 L0 d0 wc) := Lib.hid (by rw [eS2]; exact hA)
          have HZA : Hid (end16 S2 (readP v1 v2 (bs.drop at0) S2.cells) = Z) := Lib.hid (by rw [eS2]; exact hz)
          have HMS : Hid (0 ≤ S2.mouse) := Lib.hid (by rw [eS2]; exact HM1.out)
          subst e12
          clear hcut hA hz eS2 HA16 HZ3
          by_cases h8 : dn = at0
          · have HZ : Hid ((scZ, 2) = Z) := Lib.hid (by
              have h := HZA.out
              rw [List.drop_of_length_le (by rw [HDN.out]; omega)] at h
              exact h)
            have z1 : ((dn : Int) == (at0 : Int)) = true := by rw [beq_iff_eq]; omega
            clear h8
            go_wp2_with (first
              | (refine wpList_load_row rfl 25 (.tmp 6) rfl z rfl 25 _ (0, 0) _ HA2.out.hz Tryd.underlying25 rfl (info_sc.trans rfl) ?_)
              | ((refine wpList_store_row rfl 25 (.tmp 4) (.tmp 128) rfl q (scC scZ none 0 0 none 0 0) rfl rfl 25 _ HA2.out.hq (info_sc.trans rfl) rfl (sc_one _ _ _ _ _ _ _) ?_); (repeat go_step); (refine bodyPost_ret (v := .tuple #[.agg (scC scZ none 0 0 none 0 0), .int .i64 2]) (results_row_tmp (p := 4) (u := 5) (ty := 25) rfl _ _ q 25 _ (0, 0) _ _ rfl rfl (setRow_heap wc q _ _ _ _ HA2.out.hq) Tryd.underlying25 rfl (info_sc.trans rfl)) rfl ?_); (exact PostA.none_ HZ.out rfl (below_setRow HA2.out.bel HWQ.out.1 _))))
          · have hd8 : at0 < dn := by omega
            have hd8i : (at0 : Int) < (dn : Int) := by omega
            have z1 : ((dn : Int) == (at0 : Int)) = false := by rw [beq_eq_false_iff_ne]; omega
            obtain ⟨K, eK⟩ : ∃ v, v = (bs[at0]'(by rw [HDN.out]; exact hd8)).toNat := ⟨_, rfl⟩
            have hK : K < 256 := by rw [eK]; exact UInt8.toNat_lt _
            have c5 : wc.cell? ⟨db, do_ + at0, none⟩ = some (.int .u8 (K : Int)) := by rw [eK]; exact (HA2.out.bel.cell (p := ⟨db, do_ + at0, none⟩) HDB.out).trans (HCELL.out at0 _)
            obtain ⟨PR, ePR⟩ : ∃ PR, rowsP v1 v2 K (-1) (bs.drop (at0 + 1)) S2.cells = PR := ⟨_, rfl⟩
            have HPR := Lib.hid ePR
            have HZB : Hid (end16 S2 PR = Z) := Lib.hid (by
              have h := HZA.out
              rw [List.drop_eq_getElem_cons (by rw [HDN.out]; exact hd8)] at h
              rw [← ePR, eK]
              exact h)
            clear h8 eK ePR
            have hdl2 : at0 + 1 ≤ 140737488355328 := by omega
            go_wp2_with (fail)
            go_loopw [12, 15, 16] (fun at_ last i wr => ∃ (k : Nat) (la : Int) (at1 : Nat) (cs : List CeD), k ≤ K ∧ i = .int .i64 (k : Int) ∧ last = .int .i64 la ∧ at_ = .int .i64 (at1 : Int) ∧ (-1 ≤ la ∧ la < 256) ∧ at1 ≤ dn ∧ Hid (rowsP v1 v2 (K - k) la (bs.drop at1) cs = PR) ∧ Hid (BpS w q z g gs v1 v2 (S2.withC cs) n0 c0 L0 d0 wr)) (fun _ _ i _ => K - (intOf i).toNat)
            case atStart => exact ⟨0, -1, at0 + 1, S2.cells, Nat.zero_le _, rfl, rfl, rfl, ⟨by omega, by omega⟩, hd8, HPR, HA2⟩
            case round =>
              obtain ⟨k, la, at1, cs, hk, rfl, rfl, rfl, ⟨hla0, hla1⟩, hat1, HRP, HAR⟩ := hrel
              clear c5 z1
              by_cases hlt : k < K
              · by_cases h9 : dn = at1
                · have HZ : Hid ((scZ, 2) = Z) := Lib.hid (by
                    have h := HRP.out
                    rw [show K - k = K - (k + 1) + 1 by omega, List.drop_of_length_le (by rw [HDN.out]; omega), rowsP] at h
                    rw [← HZB.out, ← h]; exact end16_e S2 (by decide) cs)
                  have z1 : ((dn : Int) == (at1 : Int)) = true := by rw [beq_iff_eq]; omega
                  clear h9
                  go_wp2_with (first
                    | (refine wpList_load_row rfl 25 (.tmp 6) rfl z rfl 25 _ (0, 0) _ HAR.out.hz Tryd.underlying25 rfl (info_sc.trans rfl) ?_)
                    | ((refine wpList_store_row rfl 25 (.tmp 4) (.tmp 145) rfl q (scC scZ none 0 0 none 0 0) rfl rfl 25 _ HAR.out.hq (info_sc.trans rfl) rfl (sc_one _ _ _ _ _ _ _) ?_); (repeat go_step); (refine bodyPost_ret (v := .tuple #[.agg (scC scZ none 0 0 none 0 0), .int .i64 2]) (results_row_tmp (p := 4) (u := 5) (ty := 25) rfl _ _ q 25 _ (0, 0) _ _ rfl rfl (setRow_heap wr q _ _ _ _ HAR.out.hq) Tryd.underlying25 rfl (info_sc.trans rfl)) rfl ?_); (exact PostA.none_ HZ.out rfl (below_setRow HAR.out.bel HWQ.out.1 _))))
                · have hd9 : at1 < dn := by omega
                  have hd9i : (at1 : Int) < (dn : Int) := by omega
                  have z1 : ((dn : Int) == (at1 : Int)) = false := by rw [beq_eq_false_iff_ne]; omega
                  obtain ⟨y0, ey0⟩ : ∃ v, v = (bs[at1]'(by rw [HDN.out]; exact hd9)).toNat := ⟨_, rfl⟩
                  have hy0 : y0 < 256 := by rw [ey0]; exact UInt8.toNat_lt _
                  have c6 : wr.cell? ⟨db, do_ + at1, none⟩ = some (.int .u8 (y0 : Int)) := by rw [ey0]; exact (HAR.out.bel.cell (p := ⟨db, do_ + at1, none⟩) HDB.out).trans (HCELL.out at1 _)
                  have HRQ : Hid ((if v2 ≤ y0 ∨ (y0 : Int) ≤ la then (3, cs) else tailB v1 v2 (K - (k + 1)) y0 v1 (y0 * v1) (bs.drop (at1 + 1)) cs) = PR) := Lib.hid (by
                    have h := HRP.out
                    rw [show K - k = K - (k + 1) + 1 by omega, List.drop_eq_getElem_cons (by rw [HDN.out]; exact hd9), rowsP, ← ey0] at h
                    exact h)
                  clear h9 ey0
                  by_cases hbad : v2 ≤ y0 ∨ (y0 : Int) ≤ la
                  · have HZ : Hid ((scZ, 3) = Z) := Lib.hid (by
                      have h := HRQ.out
                      rw [if_pos hbad] at h
                      rw [← HZB.out, ← h]; exact end16_e S2 (by decide) cs)
                    obtain ⟨d1, e1⟩ : ∃ b, decide (v2 ≤ y0) = b := ⟨_, rfl⟩
                    have e1i : decide ((v2 : Int) ≤ (y0 : Int)) = d1 := by rw [← e1]; exact decide_eq_decide.2 (by omega)
                    obtain ⟨d2, e2⟩ : ∃ b, decide ((y0 : Int) ≤ la) = b := ⟨_, rfl⟩
                    cases d1
                    · have e2t : d2 = true := by
                        have := of_decide_eq_false e1
                        rw [← e2]; exact decide_eq_true (by omega)
                      subst e2t
                      clear hbad
                      go_wp2_with (first
                        | (refine wpList_load_row rfl 25 (.tmp 6) rfl z rfl 25 _ (0, 0) _ HAR.out.hz Tryd.underlying25 rfl (info_sc.trans rfl) ?_)
                        | ((refine wpList_store_row rfl 25 (.tmp 4) (.tmp 161) rfl q (scC scZ none 0 0 none 0 0) rfl rfl 25 _ HAR.out.hq (info_sc.trans rfl) rfl (sc_one _ _ _ _ _ _ _) ?_); (repeat go_step); (refine bodyPost_ret (v := .tuple #[.agg (scC scZ none 0 0 none 0 0), .int .i64 3]) (results_row_tmp (p := 4) (u := 5) (ty := 25) rfl _ _ q 25 _ (0, 0) _ _ rfl rfl (setRow_heap wr q _ _ _ _ HAR.out.hq) Tryd.underlying25 rfl (info_sc.trans rfl)) rfl ?_); (exact PostA.none_ HZ.out rfl (below_setRow HAR.out.bel HWQ.out.1 _))))
                    · clear hbad e2
                      go_wp2_with (first
                        | (refine wpList_load_row rfl 25 (.tmp 6) rfl z rfl 25 _ (0, 0) _ HAR.out.hz Tryd.underlying25 rfl (info_sc.trans rfl) ?_)
                        | ((refine wpList_store_row rfl 25 (.tmp 4) (.tmp 161) rfl q (scC scZ none 0 0 none 0 0) rfl rfl 25 _ HAR.out.hq (info_sc.trans rfl) rfl (sc_one _ _ _ _ _ _ _) ?_); (repeat go_step); (refine bodyPost_ret (v := .tuple #[.agg (scC scZ none 0 0 none 0 0), .int .i64 3]) (results_row_tmp (p := 4) (u := 5) (ty := 25) rfl _ _ q 25 _ (0, 0) _ _ rfl rfl (setRow_heap wr q _ _ _ _ HAR.out.hq) Tryd.underlying25 rfl (info_sc.trans rfl)) rfl ?_); (exact PostA.none_ HZ.out rfl (below_setRow HAR.out.bel HWQ.out.1 _))))
                  · have HRT : Hid (tailB v1 v2 (K - (k + 1)) y0 v1 (y0 * v1) (bs.drop (at1 + 1)) cs = PR) := Lib.hid (by have h := HRQ.out; rw [if_neg hbad] at h; exact h)
                    have hyR : y0 < v2 := by omega
                    have e1 : decide (v2 ≤ y0) = false := decide_eq_false (by omega)
                    have e1i : decide ((v2 : Int) ≤ (y0 : Int)) = false := decide_eq_false (by omega)
                    have e2 : decide ((y0 : Int) ≤ la) = false := decide_eq_false (by omega)
                    clear hbad
                    go_wp2_with (fail)
                    go_loopw [12, 18] (fun at_ x wr => ∃ (i at2 : Nat) (cs2 : List CeD), i ≤ v1 ∧ x = .int .i64 (i : Int) ∧ at_ = .int .i64 (at2 : Int) ∧ at2 ≤ dn ∧ Hid (tailB v1 v2 (K - (k + 1)) y0 (v1 - i) (y0 * v1 + i) (bs.drop at2) cs2 = PR) ∧ Hid (BpS w q z g gs v1 v2 (S2.withC cs2) n0 c0 L0 d0 wr)) (fun _ x _ => v1 - (intOf x).toNat)
                    case atStart => exact ⟨0, at1 + 1, cs, Nat.zero_le _, rfl, rfl, hd9, Lib.hid (by rw [Nat.sub_zero, Nat.add_zero]; exact HRT.out), HAR⟩
                    case round =>
                      obtain ⟨i, at2, cs2, hi, rfl, rfl, hat2, HTL, HAI⟩ := hrel
                      clear c6 z1 e1 e1i e2
                      by_cases hic : i < v1
                      · by_cases h9 : dn - at2 < 9
                        · as_aux_lemma =>
                            have HZ : Hid ((scZ, 2) = Z) := Lib.hid (by
                              have h := HTL.out
                              rw [show v1 - i = v1 - (i + 1) + 1 by omega, tailB_short _ _ _ _ _ _ _ _ (by rw [List.length_drop, HDN.out]; omega)] at h
                              rw [← HZB.out, ← h]; exact end16_e S2 (by decide) cs2)
                            have z3 : (dn : Int) - (at2 : Int) < 9 := by omega
                            clear h9
                            go_wp2_with (first
                              | (refine wpList_load_row rfl 25 (.tmp 6) rfl z rfl 25 _ (0, 0) _ HAI.out.hz Tryd.underlying25 rfl (info_sc.trans rfl) ?_)
                              | ((refine wpList_store_row rfl 25 (.tmp 4) (.tmp 173) rfl q (scC scZ none 0 0 none 0 0) rfl rfl 25 _ HAI.out.hq (info_sc.trans rfl) rfl (sc_one _ _ _ _ _ _ _) ?_); (repeat go_step); (refine bodyPost_ret (v := .tuple #[.agg (scC scZ none 0 0 none 0 0), .int .i64 2]) (results_row_tmp (p := 4) (u := 5) (ty := 25) rfl _ _ q 25 _ (0, 0) _ _ rfl rfl (setRow_heap wr q _ _ _ _ HAI.out.hq) Tryd.underlying25 rfl (info_sc.trans rfl)) rfl ?_); (exact PostA.none_ HZ.out rfl (below_setRow HAI.out.bel HWQ.out.1 _))))
                        · have z3 : ¬ (dn : Int) - (at2 : Int) < 9 := by omega
                          have h9n : at2 + 9 ≤ dn := by omega
                          clear h9
                          obtain ⟨a4, ea4⟩ : ∃ x, x = at2 + 4 := ⟨_, rfl⟩
                          obtain ⟨a6, ea6⟩ : ∃ x, x = at2 + 6 := ⟨_, rfl⟩
                          obtain ⟨a8, ea8⟩ : ∃ x, x = at2 + 8 := ⟨_, rfl⟩
                          have i4 : (at2 : Int) + 4 = (a4 : Int) := by omega
                          have i6 : (at2 : Int) + 6 = (a6 : Int) := by omega
                          have i8 : (at2 : Int) + 8 = (a8 : Int) := by omega
                          have u4 : a4 ≤ dn := by omega
                          have u6 : a6 ≤ dn := by omega
                          have u8 : a8 < dn := by omega
                          have u8i : (a8 : Int) < (dn : Int) := by omega
                          have wa4 : IntKind.i64.wrap (a4 : Int) = (a4 : Int) := IntWalk.i64_in _ ⟨by omega, by omega⟩
                          have wa6 : IntKind.i64.wrap (a6 : Int) = (a6 : Int) := IntWalk.i64_in _ ⟨by omega, by omega⟩
                          have wa8 : IntKind.i64.wrap (a8 : Int) = (a8 : Int) := IntWalk.i64_in _ ⟨by omega, by omega⟩
                          obtain ⟨q1, eq1⟩ : ∃ x, beN ((bs.drop at2).take 4) = x := ⟨_, rfl⟩
                          obtain ⟨q2, eq2⟩ : ∃ x, beN ((bs.drop a4).take 2) = x := ⟨_, rfl⟩
                          obtain ⟨q3, eq3⟩ : ∃ x, beN ((bs.drop a6).take 2) = x := ⟨_, rfl⟩
                          obtain ⟨q4, eq4⟩ : ∃ x, (bs[a8]'(by rw [HDN.out]; exact u8)).toNat = x := ⟨_, rfl⟩
                          obtain ⟨R1, eR1⟩ : ∃ x, IntKind.i32.wrap (q1 : Int) = x := ⟨_, rfl⟩
                          have HCA : Hid (cellAt (bs.drop at2) = ⟨R1, 0, (q2 : Int), (q3 : Int), (q4 : Int), 0⟩) := Lib.hid (by
                            have e9 : beN (((bs.drop at2).drop 8).take 1) = q4 := by
                              rw [List.drop_drop, ← ea8, beN_take1 _ (by rw [List.length_drop, HDN.out]; omega), ← eq4]
                              congr 1
                              simp
                            unfold cellAt
                            rw [e9, eq1, List.drop_drop, ← ea4, eq2, List.drop_drop, ← ea6, eq3, eR1])
                          have lt1 : q1 < 256 ^ 4 := by rw [← eq1]; exact Nat.lt_of_lt_of_le (beN_lt _) (Nat.pow_le_pow_right (by decide) (by rw [List.length_take]; exact Nat.min_le_left _ _))
                          have lt2 : q2 < 65536 := by rw [← eq2]; exact Nat.lt_of_lt_of_le (beN_lt _) (Nat.le_trans (Nat.pow_le_pow_right (by decide) (show ((bs.drop a4).take 2).length ≤ 2 by rw [List.length_take]; exact Nat.min_le_left _ _)) (by decide))
                          have lt3 : q3 < 65536 := by rw [← eq3]; exact Nat.lt_of_lt_of_le (beN_lt _) (Nat.le_trans (Nat.pow_le_pow_right (by decide) (show ((bs.drop a6).take 2).length ≤ 2 by rw [List.length_take]; exact Nat.min_le_left _ _)) (by decide))
                          have lt4 : q4 < 256 := by rw [← eq4]; exact UInt8.toNat_lt _
                          have wq1 : IntKind.u32.wrap (q1 : Int) = (q1 : Int) := wrap256 lt1
                          have wq2 : IntKind.u32.wrap (q2 : Int) = (q2 : Int) := IntWalk.u32_in _ ⟨by omega, by omega⟩
                          have wq3 : IntKind.u32.wrap (q3 : Int) = (q3 : Int) := IntWalk.u32_in _ ⟨by omega, by omega⟩
                          have EQ1 := Lib.hid eq1
                          have EQ2 := Lib.hid eq2
                          have EQ3 := Lib.hid eq3
                          have HC8 : Hid (∀ wx : World, Below w.heap.size w wx → wx.cell? ⟨db, do_ + a8, none⟩ = some (.int .u8 (q4 : Int))) := Lib.hid (fun wx h => by rw [← eq4]; exact (h.cell (p := ⟨db, do_ + a8, none⟩) HDB.out).trans (HCELL.out a8 _))
                          have EA8 := Lib.hid ea8
                          clear eq1 eq2 eq3 eq4 lt1 ea4 ea6 ea8
                          go_upto_region 44 with (fail)
                          refine wp_region_rt 233 23 [Rl.eq (.slice (some ⟨db, do_, none⟩) dn dc), Rl.eq (.int .i64 (at2 : Int)), Rl.eq (.int .i64 (q1 : Int)), Rl.eq (.int .u32 (q1 : Int)), Rl.eq (.int .i32 R1), Rl.eq (.slice (some ⟨db, do_, none⟩) dn dc), Rl.eq (.int .i64 (at2 : Int)), Rl.eq (.int .i64 (a4 : Int)), Rl.eq (.int .i64 (q2 : Int)), Rl.eq (.int .u32 (q2 : Int)), Rl.eq (.slice (some ⟨db, do_, none⟩) dn dc), Rl.eq (.int .i64 (at2 : Int)), Rl.eq (.int .i64 (a6 : Int)), Rl.eq (.int .i64 (q3 : Int)), Rl.eq (.int .u32 (q3 : Int)), Rl.eq (.slice (some ⟨db, do_, none⟩) dn dc), Rl.eq (.int .i64 (at2 : Int)), Rl.eq (.int .i64 (a8 : Int)), Rl.eq (.pointer (some ⟨db, do_ + a8, none⟩)), Rl.eq (.int .u8 (q4 : Int)), Rl.eq (.agg #[.int .u32 (q2 : Int), .int .u32 (q3 : Int), .int .u8 (q4 : Int), .int .u16 0]), Rl.eq (.agg #[Value.int IntKind.i32 R1, Value.int IntKind.u8 0, Value.int IntKind.u32 (q2 : Int), Value.int IntKind.u32 (q3 : Int), Value.int IntKind.u8 (q4 : Int), Value.int IntKind.u16 0]), Rl.celB wr.heap.size] [174, 175, 176, 177, 178, 179, 180, 181, 182, 183, 184, 185, 186, 187, 188, 189, 190, 191, 192, 193, 194, 195, 19] (by kernel_rfl) rfl (by kernel_rfl) (by kernel_rfl) (by decide) (by kernel_rfl) (by kernel_rfl) ?_ ?_
                          · simp only [List.take_succ_cons, List.take_zero]
                            repeat (first | exact AllFrom.nil_ | (refine AllFrom.cons_ (by rfl) ?_ ?_; rotate_left))
                            · intro f_ w' g_ hF hD
                              have h1 : f_ 1 = .slice (some ⟨db, do_, none⟩) dn dc := hF 1 (by kernel_rfl)
                              rw [if_pos (wanted_none rfl)]
                              clear hF hD
                              exact gives_val (by simp only [execOp, evF, h1]; first | rfl | go_simp) ⟨Gr.refl _, rfl⟩
                            · intro f_ w' g_ hF hD
                              have h12 : f_ 12 = .int .i64 (at2 : Int) := hF 12 (by kernel_rfl)
                              rw [if_pos (wanted_none rfl)]
                              clear hF hD
                              exact gives_val (by simp only [execOp, evF, h12]; first | rfl | go_simp) ⟨Gr.refl _, rfl⟩
                            · intro f_ w' g_ hF hD
                              have h174 : f_ 174 = (.slice (some ⟨db, do_, none⟩) dn dc) := hD 0 174 (by kernel_rfl) rfl
                              have h175 : f_ 175 = (.int .i64 (at2 : Int)) := hD 1 175 (by kernel_rfl) rfl
                              rw [if_pos (wanted_none rfl)]
                              clear hF hD
                              have kg : Below wr.heap.size wr w' := (below_drewN (Below.refl _ _) 1).trans g_
                              have kw := HAI.out.bel.trans (kg.mono HAI.out.bel.size)
                              refine gives_func rfl Tryd.func82 (by kernel_rfl) rfl (by (simp only [List.map_toArray, List.map_cons, List.map_nil, evF, h174, h175]) <;> rfl) ((refNum16_c (some ⟨db, do_, none⟩) dn dc bs at2 4 w' HDN.out (HDR.out.below kw) (by omega) (by decide) hdl hdc).mono ?_)
                              rintro e w'' ⟨rfl, hb⟩
                              rw [EQ1.out]
                              exact ⟨_, rfl, hb, rfl⟩
                            · intro f_ w' g_ hF hD
                              have h176 : f_ 176 = (.int .i64 (q1 : Int)) := hD 2 176 (by kernel_rfl) rfl
                              rw [if_pos (wanted_none rfl)]
                              clear hF hD
                              exact gives_val (by simp only [execOp, evF, h176]; first | rfl | go_simp) ⟨Gr.refl _, rfl⟩
                            · intro f_ w' g_ hF hD
                              have h177 : f_ 177 = (.int .u32 (q1 : Int)) := hD 3 177 (by kernel_rfl) rfl
                              rw [if_pos (wanted_none rfl)]
                              clear hF hD
                              exact gives_val (by simp only [execOp, evF, h177]; first | rfl | go_simp) ⟨Gr.refl _, rfl⟩
                            · intro f_ w' g_ hF hD
                              have h1 : f_ 1 = .slice (some ⟨db, do_, none⟩) dn dc := hF 1 (by kernel_rfl)
                              rw [if_pos (wanted_none rfl)]
                              clear hF hD
                              exact gives_val (by simp only [execOp, evF, h1]; first | rfl | go_simp) ⟨Gr.refl _, rfl⟩
                            · intro f_ w' g_ hF hD
                              have h12 : f_ 12 = .int .i64 (at2 : Int) := hF 12 (by kernel_rfl)
                              rw [if_pos (wanted_none rfl)]
                              clear hF hD
                              exact gives_val (by simp only [execOp, evF, h12]; first | rfl | go_simp) ⟨Gr.refl _, rfl⟩
                            · intro f_ w' g_ hF hD
                              have h180 : f_ 180 = (.int .i64 (at2 : Int)) := hD 6 180 (by kernel_rfl) rfl
                              rw [if_pos (wanted_none rfl)]
                              clear hF hD
                              exact gives_val (by simp only [execOp, evF, h180]; first | rfl | go_simp) ⟨Gr.refl _, rfl⟩
                            · intro f_ w' g_ hF hD
                              have h179 : f_ 179 = (.slice (some ⟨db, do_, none⟩) dn dc) := hD 5 179 (by kernel_rfl) rfl
                              have h181 : f_ 181 = (.int .i64 (a4 : Int)) := hD 7 181 (by kernel_rfl) rfl
                              rw [if_pos (wanted_none rfl)]
                              clear hF hD
                              have kg : Below wr.heap.size wr w' := (below_drewN (Below.refl _ _) 1).trans g_
                              have kw := HAI.out.bel.trans (kg.mono HAI.out.bel.size)
                              refine gives_func rfl Tryd.func82 (by kernel_rfl) rfl (by (simp only [List.map_toArray, List.map_cons, List.map_nil, evF, h179, h181]) <;> rfl) ((refNum16_c (some ⟨db, do_, none⟩) dn dc bs a4 2 w' HDN.out (HDR.out.below kw) (by omega) (by decide) hdl hdc).mono ?_)
                              rintro e w'' ⟨rfl, hb⟩
                              rw [EQ2.out]
                              exact ⟨_, rfl, hb, rfl⟩
                            · intro f_ w' g_ hF hD
                              have h182 : f_ 182 = (.int .i64 (q2 : Int)) := hD 8 182 (by kernel_rfl) rfl
                              rw [if_pos (wanted_none rfl)]
                              clear hF hD
                              exact gives_val (by simp only [execOp, evF, h182]; first | rfl | go_simp) ⟨Gr.refl _, rfl⟩
                            · intro f_ w' g_ hF hD
                              have h1 : f_ 1 = .slice (some ⟨db, do_, none⟩) dn dc := hF 1 (by kernel_rfl)
                              rw [if_pos (wanted_none rfl)]
                              clear hF hD
                              exact gives_val (by simp only [execOp, evF, h1]; first | rfl | go_simp) ⟨Gr.refl _, rfl⟩
                            · intro f_ w' g_ hF hD
                              have h12 : f_ 12 = .int .i64 (at2 : Int) := hF 12 (by kernel_rfl)
                              rw [if_pos (wanted_none rfl)]
                              clear hF hD
                              exact gives_val (by simp only [execOp, evF, h12]; first | rfl | go_simp) ⟨Gr.refl _, rfl⟩
                            · intro f_ w' g_ hF hD
                              have h185 : f_ 185 = (.int .i64 (at2 : Int)) := hD 11 185 (by kernel_rfl) rfl
                              rw [if_pos (wanted_none rfl)]
                              clear hF hD
                              exact gives_val (by simp only [execOp, evF, h185]; first | rfl | go_simp) ⟨Gr.refl _, rfl⟩
                            · intro f_ w' g_ hF hD
                              have h184 : f_ 184 = (.slice (some ⟨db, do_, none⟩) dn dc) := hD 10 184 (by kernel_rfl) rfl
                              have h186 : f_ 186 = (.int .i64 (a6 : Int)) := hD 12 186 (by kernel_rfl) rfl
                              rw [if_pos (wanted_none rfl)]
                              clear hF hD
                              have kg : Below wr.heap.size wr w' := (below_drewN (Below.refl _ _) 1).trans g_
                              have kw := HAI.out.bel.trans (kg.mono HAI.out.bel.size)
                              refine gives_func rfl Tryd.func82 (by kernel_rfl) rfl (by (simp only [List.map_toArray, List.map_cons, List.map_nil, evF, h184, h186]) <;> rfl) ((refNum16_c (some ⟨db, do_, none⟩) dn dc bs a6 2 w' HDN.out (HDR.out.below kw) (by omega) (by decide) hdl hdc).mono ?_)
                              rintro e w'' ⟨rfl, hb⟩
                              rw [EQ3.out]
                              exact ⟨_, rfl, hb, rfl⟩
                            · intro f_ w' g_ hF hD
                              have h187 : f_ 187 = (.int .i64 (q3 : Int)) := hD 13 187 (by kernel_rfl) rfl
                              rw [if_pos (wanted_none rfl)]
                              clear hF hD
                              exact gives_val (by simp only [execOp, evF, h187]; first | rfl | go_simp) ⟨Gr.refl _, rfl⟩
                            · intro f_ w' g_ hF hD
                              have h1 : f_ 1 = .slice (some ⟨db, do_, none⟩) dn dc := hF 1 (by kernel_rfl)
                              rw [if_pos (wanted_none rfl)]
                              clear hF hD
                              exact gives_val (by simp only [execOp, evF, h1]; first | rfl | go_simp) ⟨Gr.refl _, rfl⟩
                            · intro f_ w' g_ hF hD
                              have h12 : f_ 12 = .int .i64 (at2 : Int) := hF 12 (by kernel_rfl)
                              rw [if_pos (wanted_none rfl)]
                              clear hF hD
                              exact gives_val (by simp only [execOp, evF, h12]; first | rfl | go_simp) ⟨Gr.refl _, rfl⟩
                            · intro f_ w' g_ hF hD
                              have h190 : f_ 190 = (.int .i64 (at2 : Int)) := hD 16 190 (by kernel_rfl) rfl
                              rw [if_pos (wanted_none rfl)]
                              clear hF hD
                              exact gives_val (by simp only [execOp, evF, h190]; first | rfl | go_simp) ⟨Gr.refl _, rfl⟩
                            · intro f_ w' g_ hF hD
                              have h189 : f_ 189 = (.slice (some ⟨db, do_, none⟩) dn dc) := hD 15 189 (by kernel_rfl) rfl
                              have h191 : f_ 191 = (.int .i64 (a8 : Int)) := hD 17 191 (by kernel_rfl) rfl
                              rw [if_pos (wanted_none rfl)]
                              clear hF hD
                              exact gives_val (by simp only [execOp, evF, h189, h191]; first | rfl | go_simp) ⟨Gr.refl _, rfl⟩
                            · intro f_ w' g_ hF hD
                              have h192 : f_ 192 = (.pointer (some ⟨db, do_ + a8, none⟩)) := hD 18 192 (by kernel_rfl) rfl
                              rw [if_pos (wanted_none rfl)]
                              clear hF hD
                              have kg : Below wr.heap.size wr w' := (below_drewN (Below.refl _ _) 1).trans g_
                              have kw := HAI.out.bel.trans (kg.mono HAI.out.bel.size)
                              have cl := HC8.out w' kw
                              exact gives_val (by simp only [execOp, evF, h192]; go_simp) ⟨Gr.refl _, rfl⟩
                            · intro f_ w' g_ hF hD
                              have h183 : f_ 183 = (.int .u32 (q2 : Int)) := hD 9 183 (by kernel_rfl) rfl
                              have h188 : f_ 188 = (.int .u32 (q3 : Int)) := hD 14 188 (by kernel_rfl) rfl
                              have h193 : f_ 193 = (.int .u8 (q4 : Int)) := hD 19 193 (by kernel_rfl) rfl
                              rw [if_pos (wanted_none rfl)]
                              clear hF hD
                              exact gives_build 45 _ rfl #[.int .u32 (q2 : Int), .int .u32 (q3 : Int), .int .u8 (q4 : Int), .int .u16 0] (by simp only [List.map_toArray, List.map_cons, List.map_nil, evF, h183, h188, h193]; kernel_rfl) ⟨Gr.refl _, rfl⟩
                            · intro f_ w' g_ hF hD
                              have h178 : f_ 178 = (.int .i32 R1) := hD 4 178 (by kernel_rfl) rfl
                              have h194 : f_ 194 = (.agg #[.int .u32 (q2 : Int), .int .u32 (q3 : Int), .int .u8 (q4 : Int), .int .u16 0]) := hD 20 194 (by kernel_rfl) rfl
                              rw [if_pos (wanted_none rfl)]
                              clear hF hD
                              exact gives_build 47 _ rfl #[Value.int IntKind.i32 R1, Value.int IntKind.u8 0, Value.int IntKind.u32 (q2 : Int), Value.int IntKind.u32 (q3 : Int), Value.int IntKind.u8 (q4 : Int), Value.int IntKind.u16 0] (by simp only [List.map_toArray, List.map_cons, List.map_nil, evF, h178, h194]; kernel_rfl) ⟨Gr.refl _, rfl⟩
                            · intro f_ w' g_ hF hD
                              rw [if_pos (wanted_none rfl)]
                              clear hF hD
                              have kg : Below wr.heap.size wr w' := (below_drewN (Below.refl _ _) 1).trans g_
                              exact gives_val (by simp only [execOp, evF]; first | rfl | go_simp) ⟨(Below.refl _ _).alloc (Nat.le_refl _) _, w'.heap.size, rfl, kg.size, heap_alloc_new _ _⟩
                          · intro f_ w4 gg hD
                            obtain ⟨gc, h19, hBc, hgc⟩ : ∃ gc, f_ 19 = .pointer (some ⟨gc, 0, none⟩) ∧ wr.heap.size ≤ gc ∧ w4.heap[gc]? = some (.cells #[.int .i32 0, .int .u8 0, .int .u32 0, .int .u32 0, .int .u8 0, .int .u16 0] 47 (0, 0)) := hD 22 19 (by decide) rfl
                            have h195 : f_ 195 = .agg #[Value.int IntKind.i32 R1, Value.int IntKind.u8 0, Value.int IntKind.u32 (q2 : Int), Value.int IntKind.u32 (q3 : Int), Value.int IntKind.u8 (q4 : Int), Value.int IntKind.u16 0] := hD 21 195 (by decide) rfl
                            have kg : Below wr.heap.size wr w4 := (below_drewN (Below.refl _ _) 1).trans gg
                            simp only [List.drop_succ_cons, List.drop_zero, putAll, List.setIfInBounds_toArray, List.set_cons_zero, List.set_cons_succ, h195, h19]
                            have HGC := Lib.hid hgc
                            have HKG := Lib.hid kg
                            have HBC : Hid (wr.heap.size ≤ gc) := Lib.hid hBc
                            clear hD gg kg h19 h195 hBc hgc i4 i6 i8 u4 u6 u8 u8i wq1 wq2 wq3 eR1 wa4 wa6 wa8
                            go_upto_region 45 with (first
                              | (refine wpList_store_rowTo rfl 47 (.tmp 19) (.tmp 195) rfl rfl gc #[Value.int IntKind.i32 R1, Value.int IntKind.u8 0, Value.int IntKind.u32 (q2 : Int), Value.int IntKind.u32 (q3 : Int), Value.int IntKind.u8 (q4 : Int), Value.int IntKind.u16 0] rfl rfl 47 _ HGC.out (info_ce6.trans rfl) rfl (by simp [Value.oneCell']) ?_))
                            obtain ⟨We, eWe⟩ : ∃ W, W = w4.setRow gc #[Value.int IntKind.i32 R1, Value.int IntKind.u8 0, Value.int IntKind.u32 (q2 : Int), Value.int IntKind.u32 (q3 : Int), Value.int IntKind.u8 (q4 : Int), Value.int IntKind.u16 0] := ⟨_, rfl⟩
                            rw [← eWe]
                            have hcb : We.heap[gc]? = some (.cells #[Value.int IntKind.i32 R1, Value.int IntKind.u8 0, Value.int IntKind.u32 (q2 : Int), Value.int IntKind.u32 (q3 : Int), Value.int IntKind.u8 (q4 : Int), Value.int IntKind.u16 0] 47 (0, 0)) := by rw [eWe]; exact setRow_heap _ _ _ _ _ _ HGC.out
                            have hbe : Below wr.heap.size wr We := by rw [eWe]; exact below_setRow HKG.out HBC.out _
                            have HCB := Lib.hid hcb
                            have HAE := Lib.hid (HAI.out.below hbe)
                            have HGX : Hid (gc ≠ gs) := Lib.hid (by have h1 := (HAI.out.own.lt gs rfl).2; have h2 := HBC.out; omega)
                            have d2 : We.cell? ⟨gc, 2, none⟩ = some (.int .u32 (q2 : Int)) := (heap_cell hcb 2).trans rfl
                            have d3 : We.cell? ⟨gc, 3, none⟩ = some (.int .u32 (q3 : Int)) := (heap_cell hcb 3).trans rfl
                            obtain ⟨D2, eD⟩ : ∃ D2 : CeD, D2 = ⟨R1, 0, (q2 : Int), (q3 : Int), (q4 : Int), 0⟩ := ⟨_, rfl⟩
                            have HM : Hid (Calls Tryd.prog 83 #[.agg #[Value.int IntKind.i32 R1, Value.int IntKind.u8 0, Value.int IntKind.u32 (q2 : Int), Value.int IntKind.u32 (q3 : Int), Value.int IntKind.u8 (q4 : Int), Value.int IntKind.u16 0]] We fun e w' => e = .returned (.bool (mayC D2)) ∧ Below We.heap.size We w') := Lib.hid (by rw [eD]; exact refMayC_c ⟨R1, 0, (q2 : Int), (q3 : Int), (q4 : Int), 0⟩ We)
                            have HDC : Hid (cellAt (bs.drop at2) = D2) := Lib.hid (by rw [eD]; exact HCA.out)
                            have HDD := Lib.hid eD
                            have hbd : badAt16 D2 = (!mayC D2 || (decide (256 < q2) || decide (256 < q3))) := by
                              rw [eD]; unfold badAt16
                              rw [show decide ((256 : Int) < (q2 : Int)) = decide (256 < q2) from decide_eq_decide.2 (by omega), show decide ((256 : Int) < (q3 : Int)) = decide (256 < q3) from decide_eq_decide.2 (by omega)]
                            have HBD := Lib.hid hbd
                            clear eWe hcb hbe eD hbd
                            obtain ⟨bad, ebad⟩ : ∃ b, badAt16 D2 = b := ⟨_, rfl⟩
                            have HEB := Lib.hid ebad
                            go_cut [210] (fun s210 wx => Hid (Below We.heap.size We wx) ∧ s210 = .bool bad)
                            case first => as_aux_lemma =>
                              obtain ⟨bm, em⟩ : ∃ b, mayC D2 = b := ⟨_, rfl⟩
                              obtain ⟨bf, ef⟩ : ∃ b, decide (256 < q2) = b := ⟨_, rfl⟩
                              obtain ⟨bb, eb⟩ : ∃ b, decide (256 < q3) = b := ⟨_, rfl⟩
                              have ef2 : decide ((256 : Int) < (q2 : Int)) = bf := by rw [← ef]; exact decide_eq_decide.2 (by omega)
                              have eb2 : decide ((256 : Int) < (q3 : Int)) = bb := by rw [← eb]; exact decide_eq_decide.2 (by omega)
                              have EM := Lib.hid em
                              have EB2 : Hid (bad = (!bm || (bf || bb))) := Lib.hid (by rw [← ebad, HBD.out, em, ef, eb])
                              clear em ebad
                              cases bm <;> cases bf <;> cases bb <;>
                              · go_wp2_with (first
                                  | (refine wpList_load_row rfl 47 (.tmp 19) rfl gc rfl 47 _ (0, 0) _ HCB.out Tryd.underlying47 rfl (info_ce6.trans rfl) ?_)
                                  | (go_at_call 83; (refine HM.out.mono ?_); rintro _ wf ⟨rfl, hbf⟩; rw [EM.out]; have HBF := Lib.hid hbf; have dd2 := (hbf.cell (p := ⟨gc, 2, none⟩) (heap_lt HCB.out)).trans d2; have dd3 := (hbf.cell (p := ⟨gc, 3, none⟩) (heap_lt HCB.out)).trans d3; clear hbf))
                                go_meet
                                exact ⟨HBF, by rw [EB2.out] <;> rfl⟩
                            case rest =>
                            obtain ⟨HBX, rfl⟩ := hcut
                            have HAX := Lib.hid (HAE.out.below HBX.out)
                            have hlen9 : ¬ (bs.drop at2).length < 9 := by rw [List.length_drop, HDN.out]; omega
                            have HLN := Lib.hid hlen9
                            have HTE : Hid (v1 - i = v1 - (i + 1) + 1) := Lib.hid (by omega)
                            clear ebad hlen9 d2 d3
                            cases bad
                            · have HT3 : Hid (tailB v1 v2 (K - (k + 1)) y0 (v1 - (i + 1)) (y0 * v1 + i + 1) (bs.drop (at2 + 9)) (cs2.set (y0 * v1 + i) D2) = PR) := Lib.hid (by
                                have h := HTL.out
                                rw [HTE.out, tailB_step _ _ _ _ _ _ _ _ HLN.out (by rw [HDC.out]; exact HEB.out), HDC.out, List.drop_drop] at h
                                exact h)
                              have x2 := HAX.out.sg.nine.2.2.1
                              obtain ⟨l0, el0⟩ : ∃ l, l = y0 * v1 := ⟨_, rfl⟩
                              obtain ⟨P0, eP0⟩ : ∃ P, P = l0 + i := ⟨_, rfl⟩
                              have hle : (y0 + 1) * v1 ≤ v1 * v2 := by rw [Nat.mul_comm v1 v2]; exact Nat.mul_le_mul_right v1 hyR
                              have hPn : P0 < n0 := by rw [Nat.add_mul, Nat.one_mul, ← el0, ← HAX.out.ln] at hle; omega
                              have hcl : cs2.length = n0 := HAX.out.own.parts.1
                              have HPL : Hid (P0 < cs2.length) := Lib.hid (by rw [hcl]; exact hPn)
                              have e1 : (y0 : Int) * (v1 : Int) = (l0 : Int) := by rw [el0]; exact (Int.natCast_mul y0 v1).symm
                              have e2 : (l0 : Int) + (i : Int) = (P0 : Int) := by rw [eP0]; exact (Int.natCast_add l0 i).symm
                              have EPL : Hid (y0 * v1 + i = P0) := Lib.hid (by rw [eP0, el0])
                              have hn2 : n0 ≤ 1920 := by rw [HAX.out.ln]; exact Nat.mul_le_mul HDIM.out.2.1 HDIM.out.2.2.2
                              have hl1 : l0 ≤ 1920 := by omega
                              have ho4 : OwnC wc w.heap.size (.slice (some ⟨gs, 0, none⟩) n0 c0) cs2 := HAX.out.own
                              obtain ⟨yo, -, z0, z1, z2, z3', z4, z5⟩ := ho4.cellsAt P0 HPL.out
                              have f0 := ho4.free (P0 * 6)
                              have f1 := ho4.free (P0 * 6 + 1)
                              have f2 := ho4.free (P0 * 6 + 2)
                              have f3 := ho4.free (P0 * 6 + 3)
                              have f4 := ho4.free (P0 * 6 + 4)
                              have f5 := ho4.free (P0 * 6 + 5)
                              have HO4 := Lib.hid ho4
                              have HCB4 := Lib.hid ((HBX.out.block gc (heap_lt HCB.out)).trans HCB.out)
                              clear ho4 el0 eP0 hle hcl
                              go_upto_region 48 with (first
                                | (refine wpList_load_row rfl 47 (.tmp 19) rfl gc rfl 47 _ (0, 0) _ HCB4.out Tryd.underlying47 rfl (info_ce6.trans rfl) ?_))
                              obtain ⟨W5, eW5⟩ : ∃ W5, W5 = ((((((wc.setCell ⟨gs, P0 * 6, none⟩ (.int .i32 R1)).setCell ⟨gs, P0 * 6 + 1, none⟩ (.int .u8 0)).setCell ⟨gs, P0 * 6 + 2, none⟩ (.int .u32 (q2 : Int))).setCell ⟨gs, P0 * 6 + 3, none⟩ (.int .u32 (q3 : Int))).setCell ⟨gs, P0 * 6 + 4, none⟩ (.int .u8 (q4 : Int))).setCell ⟨gs, P0 * 6 + 5, none⟩ (.int .u16 0)) := ⟨_, rfl⟩
                              rw [← eW5]
                              have HA5 : Hid (BpS w q z g gs v1 v2 (S2.withC (cs2.set P0 D2)) n0 c0 L0 d0 W5) := Lib.hid (by
                                have h := HAX.out.setCells (wy := W5) (cs := cs2.set P0 D2) (by rw [eW5]; exact six_stays _ _ _ _ _ _ _ _ _ _ _ _ _ _ _ rfl) (by rw [eW5, HDD.out]; exact HO4.out.setAll P0 HPL.out ⟨R1, 0, (q2 : Int), (q3 : Int), (q4 : Int), 0⟩) (fun d hd => by
                                  rcases List.mem_or_eq_of_mem_set hd with h1 | rfl
                                  · exact HAX.out.ok d h1
                                  · rw [HDD.out]; exact ⟨Int.le_refl _, (by decide : (0 : Int) < 65536)⟩)
                                exact h)
                              clear eW5 yo z0 z1 z2 z3' z4 z5 f0 f1 f2 f3 f4 f5 x2
                              go_wp2_with (fail)
                              go_roundw
                              case rel =>
                                refine ⟨i + 1, at2 + 9, cs2.set P0 D2, hic, rfl, rfl, h9n, Lib.hid ?_, HA5⟩
                                have h := HT3.out
                                rw [EPL.out] at h
                                rw [← Nat.add_assoc, EPL.out]
                                exact h
                              case measure => simp [intOf]; omega
                            · have HZ : Hid ((scZ, 3) = Z) := Lib.hid (by
                                have h := HTL.out
                                rw [HTE.out, tailB_bad _ _ _ _ _ _ _ _ HLN.out (by rw [HDC.out]; exact HEB.out)] at h
                                rw [← HZB.out, ← h]; exact end16_e S2 (by decide) cs2)
                              go_wp2_with (first
                                | (refine wpList_load_row rfl 25 (.tmp 6) rfl z rfl 25 _ (0, 0) _ HAX.out.hz Tryd.underlying25 rfl (info_sc.trans rfl) ?_)
                                | ((refine wpList_store_row rfl 25 (.tmp 4) (.tmp 211) rfl q (scC scZ none 0 0 none 0 0) rfl rfl 25 _ HAX.out.hq (info_sc.trans rfl) rfl (sc_one _ _ _ _ _ _ _) ?_); (repeat go_step); (refine bodyPost_ret (v := .tuple #[.agg (scC scZ none 0 0 none 0 0), .int .i64 3]) (results_row_tmp (p := 4) (u := 5) (ty := 25) rfl _ _ q 25 _ (0, 0) _ _ rfl rfl (setRow_heap wc q _ _ _ _ HAX.out.hq) Tryd.underlying25 rfl (info_sc.trans rfl)) rfl ?_); (exact PostA.none_ HZ.out rfl (below_setRow HAX.out.bel HWQ.out.1 _))))
                      · obtain rfl : i = v1 := by omega
                        go_wp2_with (fail)
                        go_roundw
                        case rel =>
                          refine ⟨k + 1, (y0 : Int), at2, cs2, hlt, rfl, rfl, rfl, ⟨by omega, by omega⟩, hat2, Lib.hid ?_, HAI⟩
                          have h := HTL.out
                          rw [Nat.sub_self, tailB_zero] at h
                          exact h
                        case measure => simp [intOf]; omega
              · as_aux_lemma =>
                  obtain rfl : k = K := by omega
                  have HRZ : Hid (((if (bs.drop at1).length = 0 then 0 else 6), cs) = PR) := Lib.hid (by rw [← HRP.out, Nat.sub_self]; rfl)
                  by_cases h9 : at1 < dn
                  · have HZ : Hid ((scZ, 6) = Z) := Lib.hid (by
                      have h := HRZ.out
                      rw [if_neg (by rw [List.length_drop, HDN.out]; omega)] at h
                      rw [← HZB.out, ← h]; exact end16_e S2 (by decide) cs)
                    have z3 : (at1 : Int) < (dn : Int) := by omega
                    go_wp2_with (first
                      | (refine wpList_load_row rfl 25 (.tmp 6) rfl z rfl 25 _ (0, 0) _ HAR.out.hz Tryd.underlying25 rfl (info_sc.trans rfl) ?_)
                      | ((refine wpList_store_row rfl 25 (.tmp 4) (.tmp 227) rfl q (scC scZ none 0 0 none 0 0) rfl rfl 25 _ HAR.out.hq (info_sc.trans rfl) rfl (sc_one _ _ _ _ _ _ _) ?_); (repeat go_step); (refine bodyPost_ret (v := .tuple #[.agg (scC scZ none 0 0 none 0 0), .int .i64 6]) (results_row_tmp (p := 4) (u := 5) (ty := 25) rfl _ _ q 25 _ (0, 0) _ _ rfl rfl (setRow_heap wr q _ _ _ _ HAR.out.hq) Tryd.underlying25 rfl (info_sc.trans rfl)) rfl ?_); (exact PostA.none_ HZ.out rfl (below_setRow HAR.out.bel HWQ.out.1 _))))
                  · have z3 : ¬ (at1 : Int) < (dn : Int) := by omega
                    obtain ⟨S3, eS3⟩ : ∃ S3 : ScD, S3 = S2.withC cs := ⟨_, rfl⟩
                    have HA3 : Hid (BpS w q z g gs v1 v2 S3 n0 c0 L0 d0 wr) := Lib.hid (by rw [eS3]; exact HAR.out)
                    obtain ⟨b3, e3⟩ : ∃ b, fit16 S3 = b := ⟨_, rfl⟩
                    have HF3 := Lib.hid e3
                    have HZ9 : Hid ((if b3 then (S3, 0) else (scZ, 3)) = Z) := Lib.hid (by
                      have h := HRZ.out
                      rw [if_pos (by rw [List.length_drop, HDN.out]; omega)] at h
                      rw [← HZB.out, ← h, ← e3, eS3]; rfl)
                    have HM3 : Hid (0 ≤ S3.mouse) := Lib.hid (by rw [eS3]; exact HMS.out)
                    clear e3 eS3 h9
                    cases b3
                    · have HZ : Hid ((scZ, 3) = Z) := Lib.hid HZ9.out
                      go_wp2_with (first
                        | (refine wpList_load_row rfl 25 (.tmp 10) rfl g rfl 25 _ (0, 0) _ HA3.out.sg Tryd.underlying25 rfl (info_sc.trans rfl) ?_)
                        | (go_at_call 26; (refine (refFits16_c S3 (some ⟨gs, 0, none⟩) n0 c0 L0 0 d0 wr HA3.out.read HM3.out (HU.out.next HA3.out.bel)).mono ?_); rintro _ w22 ⟨rfl, hb22⟩; rw [HF3.out]; have HA22 := Lib.hid (HA3.out.below hb22); clear hb22)
                        | (refine wpList_load_row rfl 25 (.tmp 6) rfl z rfl 25 _ (0, 0) _ HA22.out.hz Tryd.underlying25 rfl (info_sc.trans rfl) ?_)
                        | ((refine wpList_store_row rfl 25 (.tmp 4) (.tmp 231) rfl q (scC scZ none 0 0 none 0 0) rfl rfl 25 _ HA22.out.hq (info_sc.trans rfl) rfl (sc_one _ _ _ _ _ _ _) ?_); (repeat go_step); (refine bodyPost_ret (v := .tuple #[.agg (scC scZ none 0 0 none 0 0), .int .i64 3]) (results_row_tmp (p := 4) (u := 5) (ty := 25) rfl _ _ q 25 _ (0, 0) _ _ rfl rfl (setRow_heap w22 q _ _ _ _ HA22.out.hq) Tryd.underlying25 rfl (info_sc.trans rfl)) rfl ?_); (exact PostA.none_ HZ.out rfl (below_setRow HA22.out.bel HWQ.out.1 _))))
                    · have HZ : Hid ((S3, 0) = Z) := Lib.hid HZ9.out
                      go_wp2_with (first
                        | (refine wpList_load_row rfl 25 (.tmp 10) rfl g rfl 25 _ (0, 0) _ HA3.out.sg Tryd.underlying25 rfl (info_sc.trans rfl) ?_)
                        | (go_at_call 26; (refine (refFits16_c S3 (some ⟨gs, 0, none⟩) n0 c0 L0 0 d0 wr HA3.out.read HM3.out (HU.out.next HA3.out.bel)).mono ?_); rintro _ w22 ⟨rfl, hb22⟩; rw [HF3.out]; have HA22 := Lib.hid (HA3.out.below hb22); clear hb22)
                        | (refine wpList_load_row rfl 25 (.tmp 10) rfl g rfl 25 _ (0, 0) _ HA22.out.sg Tryd.underlying25 rfl (info_sc.trans rfl) ?_)
                        | ((refine wpList_store_row rfl 25 (.tmp 4) (.tmp 232) rfl q (scC S3 (some ⟨gs, 0, none⟩) n0 c0 L0 0 d0) rfl rfl 25 _ HA22.out.hq (info_sc.trans rfl) rfl (sc_one _ _ _ _ _ _ _) ?_); (repeat go_step); (refine bodyPost_ret (v := .tuple #[.agg (scC S3 (some ⟨gs, 0, none⟩) n0 c0 L0 0 d0), .int .i64 0]) (results_row_tmp (p := 4) (u := 5) (ty := 25) rfl _ _ q 25 _ (0, 0) _ _ rfl rfl (setRow_heap w22 q _ _ _ _ HA22.out.hq) Tryd.underlying25 rfl (info_sc.trans rfl)) rfl ?_); (refine PostA.some_ HZ.out (OwnC.keep HA22.out.own (fun j ej => ?_)) HA22.out.lk (below_setRow HA22.out.bel HWQ.out.1 _)); (injection ej with ej); (exact setRow_other _ _ _ _ (by have h1 : gs = j := ej; have h2 := HA22.out.ord; omega))))
end Go.Proofs.YtipofokinjkclaaDoor

