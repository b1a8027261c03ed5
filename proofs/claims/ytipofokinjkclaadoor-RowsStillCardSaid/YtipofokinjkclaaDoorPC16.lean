/- Parts one behind the other: What project.Screen answers of any screen. Conditions: as told at each. -/
import Derived.Test.YtipofokinjkclaaDoorPC15

set_option linter.unusedVariables false
set_option linter.unusedSimpArgs false
/- What project.Screen answers of any screen. Conditions: its parts can be read; the tables lie where they were laid. -/
namespace Go.Proofs.YtipofokinjkclaaDoor
open Go Go.RowKit Go.Lib

/-- The screen by the features. -/
def projS (col tru wid lnk ttl mou : Bool) (s : ScD) : ScD :=
  if rightS s then ⟨s.cols, s.rows, s.cells.map (fitD col tru wid lnk), s.x, s.y, s.hid, if mou then s.mouse else 0, if ttl then s.title else ⟨#[]⟩, if lnk then s.links else []⟩ else scZ
theorem own_apart {w : World} {B B' : Nat} {u v : Value} {ds : List CeD} {ss : List ByteArray} (h1 : OwnC w B u ds) (h2 : OwnT w B' v ss) : ∀ g, u.ownBlock = some g → v.ownBlock ≠ some g := by
  intro g hu hv
  rcases h1.2 with ⟨rfl, _⟩ | ⟨g1, cap, cur, rfl, _, hg, _⟩
  · cases hu
  · rcases h2.2 with ⟨rfl, _⟩ | ⟨g2, cap2, cur2, rfl, _, hg2, _⟩
    · cases hv
    · have e1 : g1 = g := by injection hu
      have e2 : g2 = g := by injection hv
      rw [e1] at hg
      rw [e2, hg] at hg2
      injection hg2 with hg2
      injection hg2 with _ h3 _
      exact absurd h3 (by decide)
def Rl.ownC (B : Nat) (ds : List CeD) : Rl := ⟨fun w v => OwnC w B v ds, fun h g => OwnC.below h g⟩
def Rl.ownT (B : Nat) (ss : List ByteArray) : Rl := ⟨fun w v => OwnT w B v ss, fun h g => Own.below h g⟩
theorem sliceApart {A B : Option Addr} {n c m d : Nat} (h : ∀ g, (Value.slice A n c).ownBlock = some g → (Value.slice B m d).ownBlock ≠ some g) (hA : ∀ a, A = some a → a.off = 0 ∧ a.spot = none) (hB : ∀ a, B = some a → a.off = 0 ∧ a.spot = none) :
    ∀ a b, A = some a → B = some b → a.block ≠ b.block := by
  intro a b ea eb e
  obtain ⟨a0, a1⟩ := hA a ea
  obtain ⟨b0, b1⟩ := hB b eb
  obtain ⟨ab, ao, sa⟩ := a
  obtain ⟨bb, bo, sb⟩ := b
  cases a0; cases a1; cases b0; cases b1
  subst ea eb
  exact h ab rfl (by rw [show ab = bb from e]; rfl)
theorem cells_load {w : World} {b o : Nat} {d : CeD} (h : CellsAt w b o d) : ∀ j v, d.cells[j]? = some v → w.cell? ((⟨b, o, none⟩ : Addr).add j) = some v := by
  intro j v hv
  obtain ⟨h0, h1, h2, h3, h4, h5⟩ := h
  rw [addr_add]
  match j with
  | 0 => rw [← hv]; exact h0
  | 1 => rw [← hv]; exact h1
  | 2 => rw [← hv]; exact h2
  | 3 => rw [← hv]; exact h3
  | 4 => rw [← hv]; exact h4
  | 5 => rw [← hv]; exact h5
  | j + 6 => simp [CeD.cells] at hv
theorem six_far (w : World) (b a0 a1 a2 a3 a4 a5 : Nat) (u0 u1 u2 u3 u4 u5 : Value) (j : Nat) (h : j ≠ b) :
    ((((((w.setCell ⟨b, a0, none⟩ u0).setCell ⟨b, a1, none⟩ u1).setCell ⟨b, a2, none⟩ u2).setCell ⟨b, a3, none⟩ u3).setCell ⟨b, a4, none⟩ u4).setCell ⟨b, a5, none⟩ u5).heap[j]? = w.heap[j]? :=
  (heap_far _ h).trans ((heap_far _ h).trans ((heap_far _ h).trans ((heap_far _ h).trans ((heap_far _ h).trans (heap_far _ h)))))
theorem six_below {B : Nat} {a w : World} (hb : Below B a w) (b a0 a1 a2 a3 a4 a5 : Nat) (u0 u1 u2 u3 u4 u5 : Value) (q : B ≤ b) :
    Below B a ((((((w.setCell ⟨b, a0, none⟩ u0).setCell ⟨b, a1, none⟩ u1).setCell ⟨b, a2, none⟩ u2).setCell ⟨b, a3, none⟩ u3).setCell ⟨b, a4, none⟩ u4).setCell ⟨b, a5, none⟩ u5) :=
  below_set (below_set (below_set (below_set (below_set (below_set hb b _ _ q) b _ _ q) b _ _ q) b _ _ q) b _ _ q) b _ _ q
/-- The first k of them turned. -/
def mixK (F : CeD → CeD) (l : List CeD) (k : Nat) : List CeD := (l.take k).map F ++ l.drop k
theorem mixK_len (F : CeD → CeD) (l : List CeD) (k : Nat) : (mixK F l k).length = l.length := by
  unfold mixK
  rw [List.length_append, List.length_map, List.length_take, List.length_drop]; omega
theorem mixK_get (F : CeD → CeD) (l : List CeD) (k : Nat) (h : k < l.length) (h2 : k < (mixK F l k).length) : (mixK F l k)[k] = l[k] := by
  have h3 : (mixK F l k)[k]? = some l[k] := by
    unfold mixK
    rw [List.getElem?_append_right (by rw [List.length_map, List.length_take]; omega), List.length_map, List.length_take, show k - min k l.length = 0 by omega, List.getElem?_drop, Nat.add_zero, List.getElem?_eq_getElem h]
  rw [List.getElem?_eq_getElem h2] at h3
  injection h3
theorem mixK_set (F : CeD → CeD) (l : List CeD) (k : Nat) (h : k < l.length) : (mixK F l k).set k (F l[k]) = mixK F l (k + 1) := by
  unfold mixK
  rw [List.set_append_right _ _ (by rw [List.length_map, List.length_take]; omega), List.length_map, List.length_take, show k - min k l.length = 0 by omega, List.drop_eq_getElem_cons h, List.set_cons_zero, List.take_succ_eq_append_getElem h, List.map_append, List.append_assoc]
  rfl
theorem mixK_end (F : CeD → CeD) (l : List CeD) : mixK F l l.length = l.map F := by
  unfold mixK
  rw [List.take_length, List.drop_length, List.append_nil]
set_option maxRecDepth 100000 in
set_option maxHeartbeats 16000000 in
theorem pjScreen_c (s : ScD) (A : Option Addr) (n c : Nat) (L : Option Addr) (m cm : Nat) (ft : Int) (col tru wid lnk ttl mou : Bool) (w : World) (hs : ScR w s A n c L m cm) (hf : Fts ft col tru wid lnk) (h16 : (bits BinOp.and .u32 ft 16 == 0) = !ttl) (h32 : (bits BinOp.and .u32 ft 32 == 0) = !mou)
    (hcl : ∀ d ∈ s.cells, 0 ≤ d.fg ∧ 0 ≤ d.bg) (hU : TabU w) (hC : TabC w) :
    Calls Tryd.prog 30 #[.agg (scC s A n c L m cm), .int .u32 ft] w fun e w' => ∃ A' n' c' L' m' cm', e = .returned (.agg (scC (projS col tru wid lnk ttl mou s) A' n' c' L' m' cm')) ∧ OwnC w' w.heap.size (.slice A' n' c') (projS col tru wid lnk ttl mou s).cells ∧ OwnT w' w.heap.size (.slice L' m' cm') (projS col tru wid lnk ttl mou s).links ∧ (∀ a b, A' = some a → L' = some b → a.block ≠ b.block) ∧ Below w.heap.size w w' := by
  obtain ⟨X, eX⟩ : ∃ X, X = scC s A n c L m cm := ⟨_, rfl⟩
  rw [← eX]
  obtain ⟨N, eN⟩ : ∃ N, projS col tru wid lnk ttl mou s = N := ⟨_, rfl⟩
  rw [eN]
  have EN := Lib.hid eN
  have HL8 := Lib.hid hf.lnk
  have HF := Lib.hid hf
  have HCL := Lib.hid hcl
  have H16 := Lib.hid h16
  have H32 := Lib.hid h32
  obtain ⟨W0, eW0⟩ : ∃ W0, W0 = (w.alloc (.cells X 25)).alloc (.cells (scC scZ none 0 0 none 0 0) 25) := ⟨_, rfl⟩
  obtain ⟨p, ep⟩ : ∃ p, p = w.heap.size := ⟨_, rfl⟩
  obtain ⟨q, eq⟩ : ∃ q, q = w.heap.size + 1 := ⟨_, rfl⟩
  have hb0 : Below w.heap.size w W0 := by rw [eW0]; exact ((Below.refl _ _).alloc (Nat.le_refl _) _).alloc (by simp) _
  have hp0 : ScB W0 p s A n c L m cm := by
    rw [eW0, ep, eX]
    exact (Below.heap_alloc _ _ _ (by simp)).trans (heap_alloc_new _ _)
  have hq0 : ScB W0 q scZ none 0 0 none 0 0 := by rw [eW0, eq]; exact heap_alloc2_new _ _ _
  have eW0' : (w.alloc (.cells X 25)).alloc (.cells #[.int .i64 0, .int .i64 0, .slice none 0 0, .int .i64 0, .int .i64 0, .bool false, .int .u8 0, .string { data := #[] }, .slice none 0 0] 25) = W0 := by rw [eW0]; rfl
  have EW0 := Lib.hid eW0'
  have EQ := Lib.hid eq
  have EP := Lib.hid ep
  have HB0 := Lib.hid hb0
  have HP0 := Lib.hid hp0
  have HQ0 := Lib.hid hq0
  have HR0 := Lib.hid (hs.below hb0)
  have HU0 := Lib.hid (hU.next hb0)
  have HC0 := Lib.hid (hC.next hb0)
  have HCW := Lib.hid hC
  have HPQ : Hid (w.heap.size ≤ p ∧ w.heap.size ≤ q ∧ p ≠ q) := Lib.hid ⟨by omega, by omega, by omega⟩
  clear eW0 ep eq hb0 hp0 hq0 eW0' hs hU hC eX hf hcl h16 h32 eN
  go_enter Tryd.func30, Tryd.ntmps30
  go_upto_region 1 with (fail)
  rw [EW0.out, ← EQ.out, ← EP.out]
  clear EW0 EQ
  obtain ⟨RG, eRG⟩ : ∃ b, rightS s = b := ⟨_, rfl⟩
  have HRG := Lib.hid eRG
  clear eRG
  cases RG
  · have HN : Hid (N = scZ) := Lib.hid (by rw [← EN.out, projS, HRG.out]; rfl)
    go_wp2_with (first
      | (refine wpList_load_row rfl 25 (.tmp 2) rfl p rfl 25 _ (0, 0) _ HP0.out Tryd.underlying25 rfl (info_sc.trans rfl) ?_)
      | (go_at_call 33; (refine (emulRight_c s A n c L m cm W0 HR0.out HU0.out).mono ?_); rintro _ w1 ⟨rfl, hb1⟩; rw [HRG.out]; have HB1 := Lib.hid (HB0.out.trans (hb1.mono HB0.out.size)); have HQ1 := Lib.hid (HQ0.out.below hb1); clear hb1)
      | (refine wpList_store_row rfl 25 (.tmp 4) (.tmp 9) rfl q (scC scZ none 0 0 none 0 0) rfl rfl 25 _ HQ1.out (info_sc.trans rfl) rfl (sc_one _ _ _ _ _ _ _) ?_))
    refine bodyPost_ret (v := .agg (scC scZ none 0 0 none 0 0)) (results_cell_row (p := 4) (ty := 25) rfl _ _ q 25 _ (0, 0) _ rfl (setRow_heap w1 q _ _ _ _ HQ1.out) Tryd.underlying25 rfl (info_sc.trans rfl)) rfl ?_
    rw [HN.out]
    exact ⟨none, 0, 0, none, 0, 0, rfl, OwnC.nil_ _ _, World.ownsRow_nil _ _ _ _, (fun a b h _ => by cases h), below_setRow HB1.out HPQ.out.2.1 _⟩
  · have HN : Hid (N = ⟨s.cols, s.rows, s.cells.map (fitD col tru wid lnk), s.x, s.y, s.hid, if mou then s.mouse else 0, if ttl then s.title else ⟨#[]⟩, if lnk then s.links else []⟩) := Lib.hid (by rw [← EN.out, projS, HRG.out]; rfl)
    go_upto_region 3 with (first
      | (refine wpList_load_row rfl 25 (.tmp 2) rfl p rfl 25 _ (0, 0) _ HP0.out Tryd.underlying25 rfl (info_sc.trans rfl) ?_)
      | (go_at_call 33; (refine (emulRight_c s A n c L m cm W0 HR0.out HU0.out).mono ?_); rintro _ w1 ⟨rfl, hb1⟩; rw [HRG.out]; have HB1 := Lib.hid (HB0.out.trans (hb1.mono HB0.out.size)); have HQ1 := Lib.hid (HQ0.out.below hb1); have HP1 := Lib.hid (HP0.out.below hb1); have HR1 := Lib.hid (HR0.out.below hb1); have HC1 := Lib.hid (HC0.out.next hb1); clear hb1))
    refine wp_region_rt 49 7 [Rl.eq (.pointer (some ⟨p, 2, none⟩)), Rl.eq (.slice A n c), Rl.ownC w1.heap.size s.cells, Rl.eq (.pointer (some ⟨p, 8, none⟩)), Rl.eq (.slice L m cm), Rl.ownT w1.heap.size s.links, Rl.eq (.pointer (some ⟨p, 2, none⟩))] [10, 11, 12, 13, 14, 15, 16, 17] (by kernel_rfl) rfl (by kernel_rfl) (by kernel_rfl) (by decide) (by kernel_rfl) (by kernel_rfl) ?_ ?_
    · simp only [List.take_succ_cons, List.take_zero]
      repeat (first | exact AllFrom.nil_ | (refine AllFrom.cons_ (by rfl) ?_ ?_; rotate_left))
      · intro f w' g hF hD
        have h2 : f 2 = .pointer (some ⟨p, 0, none⟩) := hF 2 (by kernel_rfl)
        rw [if_pos (wanted_none rfl)]
        clear hF hD
        exact gives_val (by simp only [execOp, evF, h2]; first | rfl | go_simp) ⟨Gr.refl _, rfl⟩
      · intro f w' g hF hD
        have h10 : f 10 = (.pointer (some ⟨p, 2, none⟩)) := hD 0 10 (by kernel_rfl) rfl
        rw [if_pos (wanted_none rfl)]
        clear hF hD
        have cl : w'.cell? ⟨p, 2, none⟩ = some (.slice A n c) := (heap_cell ((g.block p (heap_lt HP1.out)).trans HP1.out) 2)
        exact gives_val (by simp only [execOp, evF, h10]; go_simp) ⟨Gr.refl _, rfl⟩
      · intro f w' g hF hD
        have h11 : f 11 = (.slice A n c) := hD 1 11 (by kernel_rfl) rfl
        rw [if_pos (wanted_none rfl)]
        clear hF hD
        have kg : Below w1.heap.size w1 w' := (below_drewN (Below.refl _ _) 1).trans g
        refine gives_func rfl Tryd.func54 (by kernel_rfl) rfl (by simp only [List.map_toArray, List.map_cons, List.map_nil, evF, h11]) ((CloneC_c A n c s.cells w' HR1.out.hn (Rd.below HR1.out.rd kg) (by have := HR1.out.nl; omega)).mono ?_)
        rintro e w'' ⟨v, rfl, ho, hb⟩
        exact ⟨_, rfl, hb, OwnC.low ho kg.size⟩
      · intro f w' g hF hD
        have h2 : f 2 = .pointer (some ⟨p, 0, none⟩) := hF 2 (by kernel_rfl)
        rw [if_pos (wanted_none rfl)]
        clear hF hD
        exact gives_val (by simp only [execOp, evF, h2]; first | rfl | go_simp) ⟨Gr.refl _, rfl⟩
      · intro f w' g hF hD
        have h13 : f 13 = (.pointer (some ⟨p, 8, none⟩)) := hD 3 13 (by kernel_rfl) rfl
        rw [if_pos (wanted_none rfl)]
        clear hF hD
        have cl : w'.cell? ⟨p, 8, none⟩ = some (.slice L m cm) := (heap_cell ((g.block p (heap_lt HP1.out)).trans HP1.out) 8)
        exact gives_val (by simp only [execOp, evF, h13]; go_simp) ⟨Gr.refl _, rfl⟩
      · intro f w' g hF hD
        have h14 : f 14 = (.slice L m cm) := hD 4 14 (by kernel_rfl) rfl
        rw [if_pos (wanted_none rfl)]
        clear hF hD
        have kg : Below w1.heap.size w1 w' := (below_drewN (Below.refl _ _) 1).trans g
        refine gives_func rfl Tryd.func55 (by kernel_rfl) rfl (by simp only [List.map_toArray, List.map_cons, List.map_nil, evF, h14]) ((CloneT_c L m cm s.links w' HR1.out.hm (Rd.below HR1.out.rt kg) (by have := HR1.out.ml; omega)).mono ?_)
        rintro e w'' ⟨v, rfl, ho, hb⟩
        exact ⟨_, rfl, hb, Own.low ho kg.size⟩
      · intro f w' g hF hD
        have h2 : f 2 = .pointer (some ⟨p, 0, none⟩) := hF 2 (by kernel_rfl)
        rw [if_pos (wanted_none rfl)]
        clear hF hD
        exact gives_val (by simp only [execOp, evF, h2]; first | rfl | go_simp) ⟨Gr.refl _, rfl⟩
    intro g w2 gg hD
    have ho12 : OwnC w2 w1.heap.size (g 12) s.cells := hD 2 12 (by decide) rfl
    have ht15 : OwnT w2 w1.heap.size (g 15) s.links := hD 5 15 (by decide) rfl
    have h16 : g 16 = .pointer (some ⟨p, 2, none⟩) := hD 6 16 (by decide) rfl
    obtain ⟨v12, e12⟩ : ∃ v, g 12 = v := ⟨_, rfl⟩
    obtain ⟨v15, e15⟩ : ∃ v, g 15 = v := ⟨_, rfl⟩
    rw [e12] at ho12
    rw [e15] at ht15
    have hap := own_apart ho12 ht15
    obtain ⟨A2, c2, rfl, hnc2, hcm2, hrd2, ha2, hz2⟩ := ho12.form
    obtain ⟨L2, d2, rfl, hmc2, hdm2, hrt2, hl2⟩ := ht15.form
    have kg : Below w1.heap.size w1 w2 := (below_drewN (Below.refl _ _) 1).trans gg
    have hp2 := HP1.out.below kg
    have hq2 := HQ1.out.below kg
    rw [HR1.out.hn] at ho12 hap
    rw [HR1.out.hm] at ht15 hap
    simp only [List.drop_succ_cons, List.drop_zero, putAll, List.setIfInBounds_toArray, List.set_cons_zero, List.set_cons_succ, e12, e15, h16]
    rw [HR1.out.hn, HR1.out.hm]
    have hpq1 : p < w1.heap.size := heap_lt HP1.out
    obtain ⟨x0, x1, x2, x3, x4, x5, x6, x7, x8⟩ := hp2.nine
    have f2 := heap_free hp2 2
    have f8 := heap_free hp2 8
    obtain ⟨W3, eW3⟩ : ∃ W3, W3 = (w2.setCell ⟨p, 2, none⟩ (.slice A2 n c2)).setCell ⟨p, 8, none⟩ (.slice L2 m d2) := ⟨_, rfl⟩
    have hp3 : ScB W3 p s A2 n c2 L2 m d2 := by
      rw [eW3]
      have := heap_set (heap_set hp2 2 (.slice A2 n c2)) 8 (.slice L2 m d2)
      rwa [sc_cells, sc_links] at this
    have hq3 : ScB W3 q scZ none 0 0 none 0 0 := by rw [eW3]; exact (heap_far _ (Ne.symm HPQ.out.2.2)).trans ((heap_far _ (Ne.symm HPQ.out.2.2)).trans hq2)
    have hb2 : Below w.heap.size w w2 := HB1.out.trans (kg.mono HB1.out.size)
    have hb3 : Below w.heap.size w W3 := by rw [eW3]; exact below_set (below_set hb2 p _ _ HPQ.out.1) p _ _ HPQ.out.1
    have ho3 : OwnC W3 w1.heap.size (.slice A2 n c2) s.cells := OwnC.keep ho12 (fun k e => by
      have h1 := (OwnC.lt ho12 k e).1
      rw [eW3]; exact (heap_far _ (by show k ≠ p; omega)).trans (heap_far _ (by show k ≠ p; omega)))
    have ht3 : OwnT W3 w1.heap.size (.slice L2 m d2) s.links := Own.frameK' ht15 (fun k e => by
      have h1 := (Own.lt ht15 k e).1
      rw [eW3]; exact (heap_far _ (by show k ≠ p; omega)).trans (heap_far _ (by show k ≠ p; omega)))
    have HP2 := Lib.hid hp3
    have HQ2 := Lib.hid hq3
    have HB3 := Lib.hid hb3
    have HO3 := Lib.hid ho3
    have HT3 := Lib.hid ht3
    have HAP := Lib.hid hap
    have HC3 : Hid (TabC W3) := Lib.hid (HCW.out.next hb3)
    have EW3 := Lib.hid eW3
    clear hD gg kg h16 e12 e15 hp2 hq2 hp3 hq3 hb2 hb3 ho3 ht3 hap ho12 ht15 eW3 x0 x1 x3 x4 x5 x6 x7
    go_upto_region 4 with (fail)
    rw [← EW3.out]
    have hw1s : w.heap.size ≤ w1.heap.size := HB1.out.size
    have HW1S := Lib.hid hw1s
    have HPW : Hid (p < w1.heap.size ∧ q < w1.heap.size) := Lib.hid ⟨hpq1, heap_lt HQ1.out⟩
    obtain ⟨base, ebase⟩ : ∃ base, base = w1.heap.size := ⟨_, rfl⟩
    rw [← ebase] at HO3 HT3 HW1S HPW
    obtain ⟨F, eF⟩ : ∃ F, F = fitD col tru wid lnk := ⟨_, rfl⟩
    have EF := Lib.hid eF
    have HA2 : Hid (∀ a, A2 = some a → a.off = 0 ∧ a.spot = none) := Lib.hid (fun a e => ⟨(ha2 a e).2.2.1, (ha2 a e).2.2.2⟩)
    have HZ2 : Hid (A2 = none → c2 = 0) := Lib.hid hz2
    have HNC2 : Hid (n ≤ c2) := Lib.hid (by rw [← HR1.out.hn]; exact hnc2)
    have HLL2 : Hid (∀ a, L2 = some a → a.off = 0 ∧ a.spot = none) := Lib.hid (fun a e => ⟨(hl2 a e).2.2.1, (hl2 a e).2.2.2⟩)
    have HN1 : Hid (s.cells.length = n ∧ n ≤ 60000) := Lib.hid ⟨HR1.out.hn, HR1.out.nl⟩
    have y2 : W3.cell? ⟨p, 2, none⟩ = some (.slice A2 n c2) := HP2.out.nine.2.2.1
    clear hw1s hpq1 ebase eF ha2 hl2 hz2 hnc2 hcm2 hmc2 hdm2 hrd2 hrt2 x2 x8 f2 f8 EW3 HP0 HQ0 HP1 HQ1 HR0 HR1 HC0 HC1 HB1 HB0 HU0
    go_wp2_with (fail)
    clear y2
    go_loopw [21] (fun i wr => ∃ k : Nat, k ≤ n ∧ i = .int .i64 k ∧ Hid (OwnC wr base (.slice A2 n c2) (mixK F s.cells k)) ∧ Hid (OwnT wr base (.slice L2 m d2) s.links) ∧ Hid (ScB wr p s A2 n c2 L2 m d2) ∧ Hid (ScB wr q scZ none 0 0 none 0 0) ∧ Hid (Below w.heap.size w wr)) (fun i _ => n - (intOf i).toNat)
    case atStart => exact ⟨0, Nat.zero_le _, rfl, Lib.hid (by have := HO3.out; simpa [mixK] using this), HT3, HP2, HQ2, HB3⟩
    case round =>
      obtain ⟨k, hk, rfl, HO, HTT, HP, HQ, HBW⟩ := hrel
      rcases Nat.lt_or_ge k n with hlt | hge
      · have hn6 : n ≤ 60000 := HN1.out.2
        have hlt' : (k : Int) < (n : Int) := by omega
        obtain ⟨b, hA⟩ : ∃ b, A2 = some ⟨b, 0, none⟩ := by
          cases hA : A2 with
          | none => have h1 := HZ2.out hA; have h2 := HNC2.out; omega
          | some a => obtain ⟨h1, h2⟩ := HA2.out a hA; obtain ⟨bb, oo, ss⟩ := a; cases h1; cases h2; exact ⟨bb, rfl⟩
        subst hA
        obtain ⟨M, eM⟩ : ∃ M, M = mixK F s.cells k := ⟨_, rfl⟩
        have hml : M.length = n := by rw [eM, mixK_len]; exact HN1.out.1
        have ho := HO.out
        rw [← eM] at ho
        obtain ⟨d, ed, hcd⟩ := ho.cellsAt k (by omega)
        have hd1 : d = s.cells[k]'(by rw [HN1.out.1]; exact hlt) := by rw [ed]; simp only [eM]; exact mixK_get F s.cells k _ _
        have hM2 : Hid (M.set k (F d) = mixK F s.cells (k + 1)) := Lib.hid (by rw [eM, hd1]; exact mixK_set F s.cells k _)
        have hdg := HCL.out d (by rw [hd1]; exact List.getElem_mem _)
        obtain ⟨D, eD⟩ : ∃ D, F d = D := ⟨_, rfl⟩
        have hD2 : Hid (fitD col tru wid lnk d = D) := Lib.hid (by rw [← eD, EF.out])
        rw [eD] at hM2
        have hbl := (OwnC.lt ho b rfl).2
        have hbb := (OwnC.lt ho b rfl).1
        have HBL : Hid (b < wr.heap.size ∧ base ≤ b) := Lib.hid ⟨hbl, hbb⟩
        have HCD := Lib.hid hcd
        have HOM := Lib.hid ho
        have HML := Lib.hid hml
        have HDG := Lib.hid hdg
        have HTC : Hid (TabC wr) := Lib.hid (HCW.out.next HBW.out)
        clear eM hml ho ed hcd hd1 hdg eD hbl hbb HO
        go_upto_region 7 with (fail)
        refine wp_region_rt 49 11 [Rl.eq (.pointer (some ⟨p, 2, none⟩)), Rl.eq (.slice (some ⟨b, 0, none⟩) n c2), Rl.eq (.int .i64 (k : Int)), Rl.eq (.pointer (some ⟨p, 2, none⟩)), Rl.eq (.slice (some ⟨b, 0, none⟩) n c2), Rl.eq (.int .i64 (k : Int)), Rl.eq (.pointer (some ⟨b, k * 6, none⟩)), Rl.eq (.agg #[.int .i32 d.r, .int .u8 d.w, .int .u32 d.fg, .int .u32 d.bg, .int .u8 d.at_, .int .u16 d.ln]), Rl.eq (.int .u32 ft), Rl.eq (.agg #[.int .i32 D.r, .int .u8 D.w, .int .u32 D.fg, .int .u32 D.bg, .int .u8 D.at_, .int .u16 D.ln]), Rl.eq (.pointer (some ⟨b, k * 6, none⟩))] [24, 25, 26, 27, 28, 29, 30, 31, 32, 33, 34] (by kernel_rfl) rfl (by kernel_rfl) (by kernel_rfl) (by decide) (by kernel_rfl) (by kernel_rfl) ?_ ?_
        · simp only [List.take_succ_cons, List.take_zero]
          repeat (first | exact AllFrom.nil_ | (refine AllFrom.cons_ (by rfl) ?_ ?_; rotate_left))
          · intro f w' g hF hD
            have h2 : f 2 = .pointer (some ⟨p, 0, none⟩) := hF 2 (by kernel_rfl)
            rw [if_pos (wanted_none rfl)]
            clear hF hD
            exact gives_val (by simp only [execOp, evF, h2]; first | rfl | go_simp) ⟨Gr.refl _, rfl⟩
          · intro f w' g hF hD
            have h24 : f 24 = (.pointer (some ⟨p, 2, none⟩)) := hD 0 24 (by kernel_rfl) rfl
            rw [if_pos (wanted_none rfl)]
            clear hF hD
            have cl : w'.cell? ⟨p, 2, none⟩ = some (.slice (some ⟨b, 0, none⟩) n c2) := ((HP.out.below (show Below wr.heap.size wr w' from (below_drewN (Below.refl _ _) 1).trans g)).nine).2.2.1
            exact gives_val (by simp only [execOp, evF, h24]; go_simp) ⟨Gr.refl _, rfl⟩
          · intro f w' g hF hD
            have h5 : f 5 = .int .i64 (k : Int) := hF 5 (by kernel_rfl)
            rw [if_pos (wanted_none rfl)]
            clear hF hD
            exact gives_val (by simp only [execOp, evF, h5]; first | rfl | go_simp) ⟨Gr.refl _, rfl⟩
          · intro f w' g hF hD
            have h2 : f 2 = .pointer (some ⟨p, 0, none⟩) := hF 2 (by kernel_rfl)
            rw [if_pos (wanted_none rfl)]
            clear hF hD
            exact gives_val (by simp only [execOp, evF, h2]; first | rfl | go_simp) ⟨Gr.refl _, rfl⟩
          · intro f w' g hF hD
            have h27 : f 27 = (.pointer (some ⟨p, 2, none⟩)) := hD 3 27 (by kernel_rfl) rfl
            rw [if_pos (wanted_none rfl)]
            clear hF hD
            have cl : w'.cell? ⟨p, 2, none⟩ = some (.slice (some ⟨b, 0, none⟩) n c2) := ((HP.out.below (show Below wr.heap.size wr w' from (below_drewN (Below.refl _ _) 1).trans g)).nine).2.2.1
            exact gives_val (by simp only [execOp, evF, h27]; go_simp) ⟨Gr.refl _, rfl⟩
          · intro f w' g hF hD
            have h5 : f 5 = .int .i64 (k : Int) := hF 5 (by kernel_rfl)
            rw [if_pos (wanted_none rfl)]
            clear hF hD
            exact gives_val (by simp only [execOp, evF, h5]; first | rfl | go_simp) ⟨Gr.refl _, rfl⟩
          · intro f w' g hF hD
            have h28 : f 28 = (.slice (some ⟨b, 0, none⟩) n c2) := hD 4 28 (by kernel_rfl) rfl
            have h29 : f 29 = (.int .i64 (k : Int)) := hD 5 29 (by kernel_rfl) rfl
            rw [if_pos (wanted_none rfl)]
            clear hF hD
            exact gives_val (by simp only [execOp, evF, h28, h29]; first | rfl | go_simp) ⟨Gr.refl _, rfl⟩
          · intro f w' g hF hD
            have h30 : f 30 = (.pointer (some ⟨b, k * 6, none⟩)) := hD 6 30 (by kernel_rfl) rfl
            rw [if_pos (wanted_none rfl)]
            clear hF hD
            have kg : Below wr.heap.size wr w' := (below_drewN (Below.refl _ _) 1).trans g
            exact gives_load_cells 47 (.tmp 30) rfl ⟨b, k * 6, none⟩ (by simp only [evF, h30]) d.cells (.agg #[.int .i32 d.r, .int .u8 d.w, .int .u32 d.fg, .int .u32 d.bg, .int .u8 d.at_, .int .u16 d.ln]) rfl _ (cells_load (HCD.out.below kg HBL.out.1)) Tryd.underlying47 rfl (info_cell.trans rfl) ⟨Gr.refl _, rfl⟩
          · intro f w' g hF hD
            have h1 : f 1 = .int .u32 ft := hF 1 (by kernel_rfl)
            rw [if_pos (wanted_none rfl)]
            clear hF hD
            exact gives_val (by simp only [execOp, evF, h1]; first | rfl | go_simp) ⟨Gr.refl _, rfl⟩
          · intro f w' g hF hD
            have h31 : f 31 = (.agg #[.int .i32 d.r, .int .u8 d.w, .int .u32 d.fg, .int .u32 d.bg, .int .u8 d.at_, .int .u16 d.ln]) := hD 7 31 (by kernel_rfl) rfl
            have h32 : f 32 = (.int .u32 ft) := hD 8 32 (by kernel_rfl) rfl
            rw [if_pos (wanted_none rfl)]
            clear hF hD
            have kg : Below wr.heap.size wr w' := (below_drewN (Below.refl _ _) 1).trans g
            refine gives_func rfl Tryd.func56 (by kernel_rfl) rfl (by simp only [List.map_toArray, List.map_cons, List.map_nil, evF, h31, h32]; rfl) ((fit_c d ft col tru wid lnk w' HF.out HDG.out.1 HDG.out.2 (HTC.out.next kg)).mono ?_)
            rintro e w'' ⟨rfl, hb⟩
            rw [hD2.out]
            exact ⟨_, rfl, hb, rfl⟩
          · intro f w' g hF hD
            have h25 : f 25 = (.slice (some ⟨b, 0, none⟩) n c2) := hD 1 25 (by kernel_rfl) rfl
            have h26 : f 26 = (.int .i64 (k : Int)) := hD 2 26 (by kernel_rfl) rfl
            rw [if_pos (wanted_none rfl)]
            clear hF hD
            exact gives_val (by simp only [execOp, evF, h25, h26]; first | rfl | go_simp) ⟨Gr.refl _, rfl⟩
        intro g w4 gg hD
        have h33 : g 33 = .agg #[.int .i32 D.r, .int .u8 D.w, .int .u32 D.fg, .int .u32 D.bg, .int .u8 D.at_, .int .u16 D.ln] := hD 9 33 (by decide) rfl
        have h34 : g 34 = .pointer (some ⟨b, k * 6, none⟩) := hD 10 34 (by decide) rfl
        have kg : Below wr.heap.size wr w4 := (below_drewN (Below.refl _ _) 1).trans gg
        simp only [List.drop_succ_cons, List.drop_zero, putAll, List.setIfInBounds_toArray, List.set_cons_zero, List.set_cons_succ, h33, h34]
        have ho4 := OwnC.below HOM.out kg
        obtain ⟨yo, -, z0, z1, z2, z3, z4, z5⟩ := ho4.cellsAt k (by rw [HML.out]; exact hlt)
        have f0 := ho4.free (k * 6)
        have f1 := ho4.free (k * 6 + 1)
        have f2 := ho4.free (k * 6 + 2)
        have f3 := ho4.free (k * 6 + 3)
        have f4 := ho4.free (k * 6 + 4)
        have f5 := ho4.free (k * 6 + 5)
        have HO4 := Lib.hid ho4
        have HK4 := Lib.hid kg
        clear hD gg kg h33 h34 ho4
        go_upto_region 8 with (fail)
        obtain ⟨W5, eW5⟩ : ∃ W5, W5 = (((((w4.setCell ⟨b, k * 6, none⟩ (.int .i32 D.r)).setCell ⟨b, k * 6 + 1, none⟩ (.int .u8 D.w)).setCell ⟨b, k * 6 + 2, none⟩ (.int .u32 D.fg)).setCell ⟨b, k * 6 + 3, none⟩ (.int .u32 D.bg)).setCell ⟨b, k * 6 + 4, none⟩ (.int .u8 D.at_)).setCell ⟨b, k * 6 + 5, none⟩ (.int .u16 D.ln) := ⟨_, rfl⟩
        rw [← eW5]
        have hpb : p ≠ b := by have := HPW.out.1; have := HBL.out.2; omega
        have hqb : q ≠ b := by have := HPW.out.2; have := HBL.out.2; omega
        have HO5 : Hid (OwnC W5 base (.slice (some ⟨b, 0, none⟩) n c2) (mixK F s.cells (k + 1))) := Lib.hid (by
          have h := HO4.out.setAll k (by rw [HML.out]; exact hlt) D
          rw [hM2.out] at h
          rw [eW5]; exact h)
        have HT5 : Hid (OwnT W5 base (.slice L2 m d2) s.links) := Lib.hid (by
          have h := Own.below HTT.out HK4.out
          refine Own.frameK' h (fun kk e => ?_)
          rw [eW5]
          exact six_far _ _ _ _ _ _ _ _ _ _ _ _ _ _ _ (fun e2 => own_apart HO4.out h b rfl (by rw [e, e2])))
        have HP5 : Hid (ScB W5 p s (some ⟨b, 0, none⟩) n c2 L2 m d2) := Lib.hid (by
          rw [eW5]; exact (six_far _ _ _ _ _ _ _ _ _ _ _ _ _ _ _ hpb).trans (HP.out.below HK4.out))
        have HQ5 : Hid (ScB W5 q scZ none 0 0 none 0 0) := Lib.hid (by
          rw [eW5]; exact (six_far _ _ _ _ _ _ _ _ _ _ _ _ _ _ _ hqb).trans (HQ.out.below HK4.out))
        have HB5 : Hid (Below w.heap.size w W5) := Lib.hid (by
          rw [eW5]; exact six_below (HBW.out.trans (HK4.out.mono HBW.out.size)) _ _ _ _ _ _ _ _ _ _ _ _ _ (Nat.le_trans HW1S.out HBL.out.2))
        clear z0 z1 z2 z3 z4 z5 f0 f1 f2 f3 f4 f5 eW5 hpb hqb HO4 HK4
        go_wp2_with (fail)
        go_roundw
        case rel => exact ⟨k + 1, by omega, by go_num, HO5, HT5, HP5, HQ5, HB5⟩
        case measure => simp [intOf]; omega
      · obtain rfl : n = k := by omega
        have hge' : ¬ ((n : Int) < (n : Int)) := by omega
        have HO9 : Hid (OwnC wr base (.slice A2 n c2) (s.cells.map F)) := Lib.hid (by have h := HO.out; rw [← HN1.out.1, mixK_end] at h; rw [HN1.out.1] at h; exact h)
        clear hge hk
        go_upto_region 9 with (fail)
        obtain ⟨x0, x1, x2, x3, x4, x5, x6, x7, x8⟩ := HP.out.nine
        have f6 := heap_free HP.out 6
        have f7 := heap_free HP.out 7
        have f8 := heap_free HP.out 8
        have hl8 := HL8.out
        have h16 := H16.out
        have h32 := H32.out
        have HAP9 := Lib.hid (own_apart HO9.out HTT.out)
        rw [← EF.out] at HN
        have hbn : base ≤ w.heap.size + (base - w.heap.size) := by omega
        clear hbn x0 x1 x2 x3 x4 x5 HO
        cases lnk
        · cases ttl
          · cases mou
            · skip
              have hN : N = ⟨s.cols, s.rows, s.cells.map F, s.x, s.y, s.hid, 0, ⟨#[]⟩, []⟩ := HN.out
              go_upto_region 15 with (fail)
              obtain ⟨W9, eW9⟩ : ∃ W9, W9 = (((wr.setCell ⟨p, 8, none⟩ (.slice none 0 0)).setCell ⟨p, 7, none⟩ (.string ⟨#[]⟩)).setCell ⟨p, 6, none⟩ (.int .u8 0)) := ⟨_, rfl⟩
              rw [← eW9]
              have hfar : ∀ j, j ≠ p → W9.heap[j]? = wr.heap[j]? := fun j hj => by rw [eW9]; exact (heap_far _ hj).trans ((heap_far _ hj).trans (heap_far _ hj))
              have HP9 : Hid (ScB W9 p N A2 n c2 none 0 0) := Lib.hid (by rw [eW9, hN]; exact (heap_set (heap_set (heap_set HP.out 8 _) 7 _) 6 _))
              have HQ9 : Hid (ScB W9 q scZ none 0 0 none 0 0) := Lib.hid ((hfar q (Ne.symm HPQ.out.2.2)).trans HQ.out)
              have HB9 : Hid (Below w.heap.size w W9) := Lib.hid (by rw [eW9]; exact (below_set (below_set (below_set HBW.out p _ _ HPQ.out.1) p _ _ HPQ.out.1) p _ _ HPQ.out.1))
              have HC9 : Hid (OwnC W9 base (.slice A2 n c2) (s.cells.map F)) := Lib.hid (OwnC.keep HO9.out (fun j e => hfar j (by have h1 := (OwnC.lt HO9.out j e).1; have h2 := HPW.out.1; omega)))
              have HT9 : Hid (OwnT W9 base (.slice L2 m d2) s.links) := Lib.hid (Own.frameK' HTT.out (fun j e => hfar j (by have h1 := (Own.lt HTT.out j e).1; have h2 := HPW.out.1; omega)))
              have HNN := Lib.hid hN
              clear hN hfar eW9 x6 x7 x8 f6 f7 f8
              go_wp2_with (first
                | (refine wpList_load_row rfl 25 (.tmp 2) rfl p rfl 25 _ (0, 0) _ HP9.out Tryd.underlying25 rfl (info_sc.trans rfl) ?_)
                | (refine wpList_store_row rfl 25 (.tmp 4) (.tmp 48) rfl q (scC N A2 n c2 none 0 0) rfl rfl 25 _ HQ9.out (info_sc.trans rfl) rfl (sc_one _ _ _ _ _ _ _) ?_))
              refine bodyPost_ret (v := .agg (scC N A2 n c2 none 0 0)) (results_cell_row (p := 4) (ty := 25) rfl _ _ q 25 _ (0, 0) _ rfl (setRow_heap W9 q _ _ _ _ HQ9.out) Tryd.underlying25 rfl (info_sc.trans rfl)) rfl ?_
              have hk : ∀ Z j, j ≠ q → (W9.setRow q Z).heap[j]? = W9.heap[j]? := fun Z j e => setRow_other _ _ _ _ e
              refine ⟨A2, n, c2, none, 0, 0, rfl, ?_, ?_, ?_, below_setRow HB9.out HPQ.out.2.1 _⟩
              · rw [HNN.out]
                exact OwnC.low (OwnC.keep HC9.out (fun j e => hk _ j (by have h1 := (OwnC.lt HO9.out j e).1; have h2 := HPW.out.2; omega))) HW1S.out
              · rw [HNN.out]
                exact World.ownsRow_nil _ _ _ _
              · exact fun a b _ h => by cases h
            · skip
              have hN : N = ⟨s.cols, s.rows, s.cells.map F, s.x, s.y, s.hid, s.mouse, ⟨#[]⟩, []⟩ := HN.out
              go_upto_region 15 with (fail)
              obtain ⟨W9, eW9⟩ : ∃ W9, W9 = ((wr.setCell ⟨p, 8, none⟩ (.slice none 0 0)).setCell ⟨p, 7, none⟩ (.string ⟨#[]⟩)) := ⟨_, rfl⟩
              rw [← eW9]
              have hfar : ∀ j, j ≠ p → W9.heap[j]? = wr.heap[j]? := fun j hj => by rw [eW9]; exact (heap_far _ hj).trans (heap_far _ hj)
              have HP9 : Hid (ScB W9 p N A2 n c2 none 0 0) := Lib.hid (by rw [eW9, hN]; exact (heap_set (heap_set HP.out 8 _) 7 _))
              have HQ9 : Hid (ScB W9 q scZ none 0 0 none 0 0) := Lib.hid ((hfar q (Ne.symm HPQ.out.2.2)).trans HQ.out)
              have HB9 : Hid (Below w.heap.size w W9) := Lib.hid (by rw [eW9]; exact (below_set (below_set HBW.out p _ _ HPQ.out.1) p _ _ HPQ.out.1))
              have HC9 : Hid (OwnC W9 base (.slice A2 n c2) (s.cells.map F)) := Lib.hid (OwnC.keep HO9.out (fun j e => hfar j (by have h1 := (OwnC.lt HO9.out j e).1; have h2 := HPW.out.1; omega)))
              have HT9 : Hid (OwnT W9 base (.slice L2 m d2) s.links) := Lib.hid (Own.frameK' HTT.out (fun j e => hfar j (by have h1 := (Own.lt HTT.out j e).1; have h2 := HPW.out.1; omega)))
              have HNN := Lib.hid hN
              clear hN hfar eW9 x6 x7 x8 f6 f7 f8
              go_wp2_with (first
                | (refine wpList_load_row rfl 25 (.tmp 2) rfl p rfl 25 _ (0, 0) _ HP9.out Tryd.underlying25 rfl (info_sc.trans rfl) ?_)
                | (refine wpList_store_row rfl 25 (.tmp 4) (.tmp 48) rfl q (scC N A2 n c2 none 0 0) rfl rfl 25 _ HQ9.out (info_sc.trans rfl) rfl (sc_one _ _ _ _ _ _ _) ?_))
              refine bodyPost_ret (v := .agg (scC N A2 n c2 none 0 0)) (results_cell_row (p := 4) (ty := 25) rfl _ _ q 25 _ (0, 0) _ rfl (setRow_heap W9 q _ _ _ _ HQ9.out) Tryd.underlying25 rfl (info_sc.trans rfl)) rfl ?_
              have hk : ∀ Z j, j ≠ q → (W9.setRow q Z).heap[j]? = W9.heap[j]? := fun Z j e => setRow_other _ _ _ _ e
              refine ⟨A2, n, c2, none, 0, 0, rfl, ?_, ?_, ?_, below_setRow HB9.out HPQ.out.2.1 _⟩
              · rw [HNN.out]
                exact OwnC.low (OwnC.keep HC9.out (fun j e => hk _ j (by have h1 := (OwnC.lt HO9.out j e).1; have h2 := HPW.out.2; omega))) HW1S.out
              · rw [HNN.out]
                exact World.ownsRow_nil _ _ _ _
              · exact fun a b _ h => by cases h
          · cases mou
            · skip
              have hN : N = ⟨s.cols, s.rows, s.cells.map F, s.x, s.y, s.hid, 0, s.title, []⟩ := HN.out
              go_upto_region 15 with (fail)
              obtain ⟨W9, eW9⟩ : ∃ W9, W9 = ((wr.setCell ⟨p, 8, none⟩ (.slice none 0 0)).setCell ⟨p, 6, none⟩ (.int .u8 0)) := ⟨_, rfl⟩
              rw [← eW9]
              have hfar : ∀ j, j ≠ p → W9.heap[j]? = wr.heap[j]? := fun j hj => by rw [eW9]; exact (heap_far _ hj).trans (heap_far _ hj)
              have HP9 : Hid (ScB W9 p N A2 n c2 none 0 0) := Lib.hid (by rw [eW9, hN]; exact (heap_set (heap_set HP.out 8 _) 6 _))
              have HQ9 : Hid (ScB W9 q scZ none 0 0 none 0 0) := Lib.hid ((hfar q (Ne.symm HPQ.out.2.2)).trans HQ.out)
              have HB9 : Hid (Below w.heap.size w W9) := Lib.hid (by rw [eW9]; exact (below_set (below_set HBW.out p _ _ HPQ.out.1) p _ _ HPQ.out.1))
              have HC9 : Hid (OwnC W9 base (.slice A2 n c2) (s.cells.map F)) := Lib.hid (OwnC.keep HO9.out (fun j e => hfar j (by have h1 := (OwnC.lt HO9.out j e).1; have h2 := HPW.out.1; omega)))
              have HT9 : Hid (OwnT W9 base (.slice L2 m d2) s.links) := Lib.hid (Own.frameK' HTT.out (fun j e => hfar j (by have h1 := (Own.lt HTT.out j e).1; have h2 := HPW.out.1; omega)))
              have HNN := Lib.hid hN
              clear hN hfar eW9 x6 x7 x8 f6 f7 f8
              go_wp2_with (first
                | (refine wpList_load_row rfl 25 (.tmp 2) rfl p rfl 25 _ (0, 0) _ HP9.out Tryd.underlying25 rfl (info_sc.trans rfl) ?_)
                | (refine wpList_store_row rfl 25 (.tmp 4) (.tmp 48) rfl q (scC N A2 n c2 none 0 0) rfl rfl 25 _ HQ9.out (info_sc.trans rfl) rfl (sc_one _ _ _ _ _ _ _) ?_))
              refine bodyPost_ret (v := .agg (scC N A2 n c2 none 0 0)) (results_cell_row (p := 4) (ty := 25) rfl _ _ q 25 _ (0, 0) _ rfl (setRow_heap W9 q _ _ _ _ HQ9.out) Tryd.underlying25 rfl (info_sc.trans rfl)) rfl ?_
              have hk : ∀ Z j, j ≠ q → (W9.setRow q Z).heap[j]? = W9.heap[j]? := fun Z j e => setRow_other _ _ _ _ e
              refine ⟨A2, n, c2, none, 0, 0, rfl, ?_, ?_, ?_, below_setRow HB9.out HPQ.out.2.1 _⟩
              · rw [HNN.out]
                exact OwnC.low (OwnC.keep HC9.out (fun j e => hk _ j (by have h1 := (OwnC.lt HO9.out j e).1; have h2 := HPW.out.2; omega))) HW1S.out
              · rw [HNN.out]
                exact World.ownsRow_nil _ _ _ _
              · exact fun a b _ h => by cases h
            · skip
              have hN : N = ⟨s.cols, s.rows, s.cells.map F, s.x, s.y, s.hid, s.mouse, s.title, []⟩ := HN.out
              go_upto_region 15 with (fail)
              obtain ⟨W9, eW9⟩ : ∃ W9, W9 = (wr.setCell ⟨p, 8, none⟩ (.slice none 0 0)) := ⟨_, rfl⟩
              rw [← eW9]
              have hfar : ∀ j, j ≠ p → W9.heap[j]? = wr.heap[j]? := fun j hj => by rw [eW9]; exact (heap_far _ hj)
              have HP9 : Hid (ScB W9 p N A2 n c2 none 0 0) := Lib.hid (by rw [eW9, hN]; exact (heap_set HP.out 8 _))
              have HQ9 : Hid (ScB W9 q scZ none 0 0 none 0 0) := Lib.hid ((hfar q (Ne.symm HPQ.out.2.2)).trans HQ.out)
              have HB9 : Hid (Below w.heap.size w W9) := Lib.hid (by rw [eW9]; exact (below_set HBW.out p _ _ HPQ.out.1))
              have HC9 : Hid (OwnC W9 base (.slice A2 n c2) (s.cells.map F)) := Lib.hid (OwnC.keep HO9.out (fun j e => hfar j (by have h1 := (OwnC.lt HO9.out j e).1; have h2 := HPW.out.1; omega)))
              have HT9 : Hid (OwnT W9 base (.slice L2 m d2) s.links) := Lib.hid (Own.frameK' HTT.out (fun j e => hfar j (by have h1 := (Own.lt HTT.out j e).1; have h2 := HPW.out.1; omega)))
              have HNN := Lib.hid hN
              clear hN hfar eW9 x6 x7 x8 f6 f7 f8
              go_wp2_with (first
                | (refine wpList_load_row rfl 25 (.tmp 2) rfl p rfl 25 _ (0, 0) _ HP9.out Tryd.underlying25 rfl (info_sc.trans rfl) ?_)
                | (refine wpList_store_row rfl 25 (.tmp 4) (.tmp 48) rfl q (scC N A2 n c2 none 0 0) rfl rfl 25 _ HQ9.out (info_sc.trans rfl) rfl (sc_one _ _ _ _ _ _ _) ?_))
              refine bodyPost_ret (v := .agg (scC N A2 n c2 none 0 0)) (results_cell_row (p := 4) (ty := 25) rfl _ _ q 25 _ (0, 0) _ rfl (setRow_heap W9 q _ _ _ _ HQ9.out) Tryd.underlying25 rfl (info_sc.trans rfl)) rfl ?_
              have hk : ∀ Z j, j ≠ q → (W9.setRow q Z).heap[j]? = W9.heap[j]? := fun Z j e => setRow_other _ _ _ _ e
              refine ⟨A2, n, c2, none, 0, 0, rfl, ?_, ?_, ?_, below_setRow HB9.out HPQ.out.2.1 _⟩
              · rw [HNN.out]
                exact OwnC.low (OwnC.keep HC9.out (fun j e => hk _ j (by have h1 := (OwnC.lt HO9.out j e).1; have h2 := HPW.out.2; omega))) HW1S.out
              · rw [HNN.out]
                exact World.ownsRow_nil _ _ _ _
              · exact fun a b _ h => by cases h
        · cases ttl
          · cases mou
            · skip
              have hN : N = ⟨s.cols, s.rows, s.cells.map F, s.x, s.y, s.hid, 0, ⟨#[]⟩, s.links⟩ := HN.out
              go_upto_region 15 with (fail)
              obtain ⟨W9, eW9⟩ : ∃ W9, W9 = ((wr.setCell ⟨p, 7, none⟩ (.string ⟨#[]⟩)).setCell ⟨p, 6, none⟩ (.int .u8 0)) := ⟨_, rfl⟩
              rw [← eW9]
              have hfar : ∀ j, j ≠ p → W9.heap[j]? = wr.heap[j]? := fun j hj => by rw [eW9]; exact (heap_far _ hj).trans (heap_far _ hj)
              have HP9 : Hid (ScB W9 p N A2 n c2 L2 m d2) := Lib.hid (by rw [eW9, hN]; exact (heap_set (heap_set HP.out 7 _) 6 _))
              have HQ9 : Hid (ScB W9 q scZ none 0 0 none 0 0) := Lib.hid ((hfar q (Ne.symm HPQ.out.2.2)).trans HQ.out)
              have HB9 : Hid (Below w.heap.size w W9) := Lib.hid (by rw [eW9]; exact (below_set (below_set HBW.out p _ _ HPQ.out.1) p _ _ HPQ.out.1))
              have HC9 : Hid (OwnC W9 base (.slice A2 n c2) (s.cells.map F)) := Lib.hid (OwnC.keep HO9.out (fun j e => hfar j (by have h1 := (OwnC.lt HO9.out j e).1; have h2 := HPW.out.1; omega)))
              have HT9 : Hid (OwnT W9 base (.slice L2 m d2) s.links) := Lib.hid (Own.frameK' HTT.out (fun j e => hfar j (by have h1 := (Own.lt HTT.out j e).1; have h2 := HPW.out.1; omega)))
              have HNN := Lib.hid hN
              clear hN hfar eW9 x6 x7 x8 f6 f7 f8
              go_wp2_with (first
                | (refine wpList_load_row rfl 25 (.tmp 2) rfl p rfl 25 _ (0, 0) _ HP9.out Tryd.underlying25 rfl (info_sc.trans rfl) ?_)
                | (refine wpList_store_row rfl 25 (.tmp 4) (.tmp 48) rfl q (scC N A2 n c2 L2 m d2) rfl rfl 25 _ HQ9.out (info_sc.trans rfl) rfl (sc_one _ _ _ _ _ _ _) ?_))
              refine bodyPost_ret (v := .agg (scC N A2 n c2 L2 m d2)) (results_cell_row (p := 4) (ty := 25) rfl _ _ q 25 _ (0, 0) _ rfl (setRow_heap W9 q _ _ _ _ HQ9.out) Tryd.underlying25 rfl (info_sc.trans rfl)) rfl ?_
              have hk : ∀ Z j, j ≠ q → (W9.setRow q Z).heap[j]? = W9.heap[j]? := fun Z j e => setRow_other _ _ _ _ e
              refine ⟨A2, n, c2, L2, m, d2, rfl, ?_, ?_, ?_, below_setRow HB9.out HPQ.out.2.1 _⟩
              · rw [HNN.out]
                exact OwnC.low (OwnC.keep HC9.out (fun j e => hk _ j (by have h1 := (OwnC.lt HO9.out j e).1; have h2 := HPW.out.2; omega))) HW1S.out
              · rw [HNN.out]
                exact Own.low (Own.frameK' HT9.out (fun j e => hk _ j (by have h1 := (Own.lt HTT.out j e).1; have h2 := HPW.out.2; omega))) HW1S.out
              · exact fun a b ea eb => sliceApart HAP9.out (HA2.out) (HLL2.out) a b ea eb
            · skip
              have hN : N = ⟨s.cols, s.rows, s.cells.map F, s.x, s.y, s.hid, s.mouse, ⟨#[]⟩, s.links⟩ := HN.out
              go_upto_region 15 with (fail)
              obtain ⟨W9, eW9⟩ : ∃ W9, W9 = (wr.setCell ⟨p, 7, none⟩ (.string ⟨#[]⟩)) := ⟨_, rfl⟩
              rw [← eW9]
              have hfar : ∀ j, j ≠ p → W9.heap[j]? = wr.heap[j]? := fun j hj => by rw [eW9]; exact (heap_far _ hj)
              have HP9 : Hid (ScB W9 p N A2 n c2 L2 m d2) := Lib.hid (by rw [eW9, hN]; exact (heap_set HP.out 7 _))
              have HQ9 : Hid (ScB W9 q scZ none 0 0 none 0 0) := Lib.hid ((hfar q (Ne.symm HPQ.out.2.2)).trans HQ.out)
              have HB9 : Hid (Below w.heap.size w W9) := Lib.hid (by rw [eW9]; exact (below_set HBW.out p _ _ HPQ.out.1))
              have HC9 : Hid (OwnC W9 base (.slice A2 n c2) (s.cells.map F)) := Lib.hid (OwnC.keep HO9.out (fun j e => hfar j (by have h1 := (OwnC.lt HO9.out j e).1; have h2 := HPW.out.1; omega)))
              have HT9 : Hid (OwnT W9 base (.slice L2 m d2) s.links) := Lib.hid (Own.frameK' HTT.out (fun j e => hfar j (by have h1 := (Own.lt HTT.out j e).1; have h2 := HPW.out.1; omega)))
              have HNN := Lib.hid hN
              clear hN hfar eW9 x6 x7 x8 f6 f7 f8
              go_wp2_with (first
                | (refine wpList_load_row rfl 25 (.tmp 2) rfl p rfl 25 _ (0, 0) _ HP9.out Tryd.underlying25 rfl (info_sc.trans rfl) ?_)
                | (refine wpList_store_row rfl 25 (.tmp 4) (.tmp 48) rfl q (scC N A2 n c2 L2 m d2) rfl rfl 25 _ HQ9.out (info_sc.trans rfl) rfl (sc_one _ _ _ _ _ _ _) ?_))
              refine bodyPost_ret (v := .agg (scC N A2 n c2 L2 m d2)) (results_cell_row (p := 4) (ty := 25) rfl _ _ q 25 _ (0, 0) _ rfl (setRow_heap W9 q _ _ _ _ HQ9.out) Tryd.underlying25 rfl (info_sc.trans rfl)) rfl ?_
              have hk : ∀ Z j, j ≠ q → (W9.setRow q Z).heap[j]? = W9.heap[j]? := fun Z j e => setRow_other _ _ _ _ e
              refine ⟨A2, n, c2, L2, m, d2, rfl, ?_, ?_, ?_, below_setRow HB9.out HPQ.out.2.1 _⟩
              · rw [HNN.out]
                exact OwnC.low (OwnC.keep HC9.out (fun j e => hk _ j (by have h1 := (OwnC.lt HO9.out j e).1; have h2 := HPW.out.2; omega))) HW1S.out
              · rw [HNN.out]
                exact Own.low (Own.frameK' HT9.out (fun j e => hk _ j (by have h1 := (Own.lt HTT.out j e).1; have h2 := HPW.out.2; omega))) HW1S.out
              · exact fun a b ea eb => sliceApart HAP9.out (HA2.out) (HLL2.out) a b ea eb
          · cases mou
            · skip
              have hN : N = ⟨s.cols, s.rows, s.cells.map F, s.x, s.y, s.hid, 0, s.title, s.links⟩ := HN.out
              go_upto_region 15 with (fail)
              obtain ⟨W9, eW9⟩ : ∃ W9, W9 = (wr.setCell ⟨p, 6, none⟩ (.int .u8 0)) := ⟨_, rfl⟩
              rw [← eW9]
              have hfar : ∀ j, j ≠ p → W9.heap[j]? = wr.heap[j]? := fun j hj => by rw [eW9]; exact (heap_far _ hj)
              have HP9 : Hid (ScB W9 p N A2 n c2 L2 m d2) := Lib.hid (by rw [eW9, hN]; exact (heap_set HP.out 6 _))
              have HQ9 : Hid (ScB W9 q scZ none 0 0 none 0 0) := Lib.hid ((hfar q (Ne.symm HPQ.out.2.2)).trans HQ.out)
              have HB9 : Hid (Below w.heap.size w W9) := Lib.hid (by rw [eW9]; exact (below_set HBW.out p _ _ HPQ.out.1))
              have HC9 : Hid (OwnC W9 base (.slice A2 n c2) (s.cells.map F)) := Lib.hid (OwnC.keep HO9.out (fun j e => hfar j (by have h1 := (OwnC.lt HO9.out j e).1; have h2 := HPW.out.1; omega)))
              have HT9 : Hid (OwnT W9 base (.slice L2 m d2) s.links) := Lib.hid (Own.frameK' HTT.out (fun j e => hfar j (by have h1 := (Own.lt HTT.out j e).1; have h2 := HPW.out.1; omega)))
              have HNN := Lib.hid hN
              clear hN hfar eW9 x6 x7 x8 f6 f7 f8
              go_wp2_with (first
                | (refine wpList_load_row rfl 25 (.tmp 2) rfl p rfl 25 _ (0, 0) _ HP9.out Tryd.underlying25 rfl (info_sc.trans rfl) ?_)
                | (refine wpList_store_row rfl 25 (.tmp 4) (.tmp 48) rfl q (scC N A2 n c2 L2 m d2) rfl rfl 25 _ HQ9.out (info_sc.trans rfl) rfl (sc_one _ _ _ _ _ _ _) ?_))
              refine bodyPost_ret (v := .agg (scC N A2 n c2 L2 m d2)) (results_cell_row (p := 4) (ty := 25) rfl _ _ q 25 _ (0, 0) _ rfl (setRow_heap W9 q _ _ _ _ HQ9.out) Tryd.underlying25 rfl (info_sc.trans rfl)) rfl ?_
              have hk : ∀ Z j, j ≠ q → (W9.setRow q Z).heap[j]? = W9.heap[j]? := fun Z j e => setRow_other _ _ _ _ e
              refine ⟨A2, n, c2, L2, m, d2, rfl, ?_, ?_, ?_, below_setRow HB9.out HPQ.out.2.1 _⟩
              · rw [HNN.out]
                exact OwnC.low (OwnC.keep HC9.out (fun j e => hk _ j (by have h1 := (OwnC.lt HO9.out j e).1; have h2 := HPW.out.2; omega))) HW1S.out
              · rw [HNN.out]
                exact Own.low (Own.frameK' HT9.out (fun j e => hk _ j (by have h1 := (Own.lt HTT.out j e).1; have h2 := HPW.out.2; omega))) HW1S.out
              · exact fun a b ea eb => sliceApart HAP9.out (HA2.out) (HLL2.out) a b ea eb
            · skip
              have hN : N = ⟨s.cols, s.rows, s.cells.map F, s.x, s.y, s.hid, s.mouse, s.title, s.links⟩ := HN.out
              go_upto_region 15 with (fail)
              obtain ⟨W9, eW9⟩ : ∃ W9, W9 = wr := ⟨_, rfl⟩
              rw [← eW9]
              have hfar : ∀ j, j ≠ p → W9.heap[j]? = wr.heap[j]? := fun j hj => by rw [eW9]
              have HP9 : Hid (ScB W9 p N A2 n c2 L2 m d2) := Lib.hid (by rw [eW9, hN]; exact HP.out)
              have HQ9 : Hid (ScB W9 q scZ none 0 0 none 0 0) := Lib.hid ((hfar q (Ne.symm HPQ.out.2.2)).trans HQ.out)
              have HB9 : Hid (Below w.heap.size w W9) := Lib.hid (by rw [eW9]; exact HBW.out)
              have HC9 : Hid (OwnC W9 base (.slice A2 n c2) (s.cells.map F)) := Lib.hid (OwnC.keep HO9.out (fun j e => hfar j (by have h1 := (OwnC.lt HO9.out j e).1; have h2 := HPW.out.1; omega)))
              have HT9 : Hid (OwnT W9 base (.slice L2 m d2) s.links) := Lib.hid (Own.frameK' HTT.out (fun j e => hfar j (by have h1 := (Own.lt HTT.out j e).1; have h2 := HPW.out.1; omega)))
              have HNN := Lib.hid hN
              clear hN hfar eW9 x6 x7 x8 f6 f7 f8
              go_wp2_with (first
                | (refine wpList_load_row rfl 25 (.tmp 2) rfl p rfl 25 _ (0, 0) _ HP9.out Tryd.underlying25 rfl (info_sc.trans rfl) ?_)
                | (refine wpList_store_row rfl 25 (.tmp 4) (.tmp 48) rfl q (scC N A2 n c2 L2 m d2) rfl rfl 25 _ HQ9.out (info_sc.trans rfl) rfl (sc_one _ _ _ _ _ _ _) ?_))
              refine bodyPost_ret (v := .agg (scC N A2 n c2 L2 m d2)) (results_cell_row (p := 4) (ty := 25) rfl _ _ q 25 _ (0, 0) _ rfl (setRow_heap W9 q _ _ _ _ HQ9.out) Tryd.underlying25 rfl (info_sc.trans rfl)) rfl ?_
              have hk : ∀ Z j, j ≠ q → (W9.setRow q Z).heap[j]? = W9.heap[j]? := fun Z j e => setRow_other _ _ _ _ e
              refine ⟨A2, n, c2, L2, m, d2, rfl, ?_, ?_, ?_, below_setRow HB9.out HPQ.out.2.1 _⟩
              · rw [HNN.out]
                exact OwnC.low (OwnC.keep HC9.out (fun j e => hk _ j (by have h1 := (OwnC.lt HO9.out j e).1; have h2 := HPW.out.2; omega))) HW1S.out
              · rw [HNN.out]
                exact Own.low (Own.frameK' HT9.out (fun j e => hk _ j (by have h1 := (Own.lt HTT.out j e).1; have h2 := HPW.out.2; omega))) HW1S.out
              · exact fun a b ea eb => sliceApart HAP9.out (HA2.out) (HLL2.out) a b ea eb
end Go.Proofs.YtipofokinjkclaaDoor
