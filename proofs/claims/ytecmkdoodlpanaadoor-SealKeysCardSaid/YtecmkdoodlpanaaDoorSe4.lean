/- What seal.Open answers: what a datagram says, if its tag is right. Conditions: the table stands; lengths that fit. -/
import Derived.Test.YtecmkdoodlpanaaDoorSe3
import Derived.Test.YtecmkdoodlpanaaDoorRp
namespace Go.Proofs.YtecmkdoodlpanaaDoor
open Go Go.RowKit
attribute [local go_sem] run_eq_sumV run_guard_sumV

/-- 'append([]byte(nil), xs...)', as a step of a region that draws. -/
theorem step_cloneB {ops : Array Oper} {o : Oper} {a : Act} {w : World} {K : Act → World → Prop} {Q : Exit → Act → World → Prop} {E : Prop} (hgd : o.guard = none) (x : Operand)
    (ho : o.op = .call { callee := .builtin .append, args := #[.const (.slice none 0 0), x], argTypes := #[22, 22] })
    (A : Option Addr) (m c : Nat) (ns : List UInt8) (hx : a.eval x = .slice A m c) (hm : ns.length = m) (hr : Rd w A (ns.map bv)) (hl : m ≤ 140737488355328)
    (h : ∀ A' c' w', Hid (OwnB w' w.heap.size (.slice A' m c') ns) → Below w.heap.size w w' → K (a.put o.dst (.slice A' m c')) w') :
    if Region.wanted o (yielded ops a.tmps) = true then Oper.wp Tryd.prog o a w K Q else E := by
  rw [if_pos (wanted_none hgd)]
  obtain ⟨A', c', w', hrun, h1, h2, h3, h4, h5, h6, _⟩ := run_cloneB w o.type A m c ns hm hr hl
  unfold Oper.wp execOp
  simp only [ho, resolve, invoke, builtin, Sem.run_bind, Sem.run_pure, Result.andThen_ok, List.map_toArray, List.map_cons, List.map_nil, hx, show a.eval (.const (.slice none 0 0)) = .slice none 0 0 from rfl, hrun]
  exact h A' c' w' (Lib.hid h1) h2

theorem far4 {w : World} {g x : Nat} (h : g ≠ x) (u0 u1 u2 u3 : Value) (i : Nat) : ((((w.setCell ⟨g, 0, none⟩ u0).setCell ⟨g, 1, none⟩ u1).setCell ⟨g, 2, none⟩ u2).setCell ⟨g, 3, none⟩ u3).cell? ⟨x, i, none⟩ = w.cell? ⟨x, i, none⟩ := by
  rw [World.cell?_setCell_far _ _ _ _ h, World.cell?_setCell_far _ _ _ _ h, World.cell?_setCell_far _ _ _ _ h, World.cell?_setCell_far _ _ _ _ h]
theorem sameB_iff (xs ys : List UInt8) : sameB xs ys = true ↔ xs = ys := by unfold sameB; exact decide_eq_true_iff

set_option maxRecDepth 100000 in
set_option maxHeartbeats 4000000 in
theorem Open_c (Ak : Option Addr) (nk ck : Nat) (key : List UInt8) (A : Option Addr) (n c : Nat) (bs : List UInt8) (w : World) (hnk : key.length = nk) (hrk : Rd w Ak (key.map bv)) (hck : nk ≤ ck) (hmk : ck ≤ maxLen) (hlk : nk ≤ 1000000000)
    (hn : bs.length = n) (hr : Rd w A (bs.map bv)) (hc : n ≤ c) (hm : c ≤ maxLen) (hT : Tab w) :
    Calls Tryd.prog 15 #[.slice Ak nk ck, .slice A n c] w fun r w' => ∃ v, r = .returned (.tuple #[(openR key bs).1.V, v, .int .i64 ((openR key bs).2.2 : Int)]) ∧ Hid (OwnB w' w.heap.size v (openR key bs).2.1) ∧ Below w.heap.size w w' := by
  have HNK := Lib.hid hnk; clear hnk
  have HN := Lib.hid hn; clear hn
  have HT := Lib.hid hT; clear hT
  have k0 : Below w.heap.size w (w.alloc (.cells #[.int .u8 0, .bool false, .int .u32 0, .int .u64 0] 26)) := (Below.refl _ _).alloc (Nat.le_refl _) _
  have hb0 : Bx (w.alloc (.cells #[.int .u8 0, .bool false, .int .u32 0, .int .u64 0] 26)) w.heap.size 0 0 0 false := Bx.new w 0 0 0 false
  have HB0 := Lib.hid hb0; clear hb0
  obtain ⟨R, eR⟩ : ∃ R, R = openR key bs := ⟨_, rfl⟩
  rw [← eR]
  have hR0 : R = if (peekR bs).2 ≠ 0 then (hd0, [], (peekR bs).2)
    else if tagL key (bs.take (bs.length - 16)) = bs.drop (bs.length - 16) then ((peekR bs).1, (bs.drop 14).take (bs.length - 30), 0) else (hd0, [], 8) := eR
  clear eR
  have hPl : (peekR bs).2 = 0 → 30 ≤ n ∧ n ≤ 542 := by
    unfold peekR
    rw [HN.out]
    intro h
    split at h
    · simp at h
    · split at h
      · simp at h
      · omega
  have hP2 : (peekR bs).2 ≤ 4 := by
    unfold peekR
    split
    · decide
    · split
      · decide
      · split <;> simp
  obtain ⟨P, pr, eP⟩ : ∃ P pr, peekR bs = (P, pr) := ⟨_, _, rfl⟩
  rw [eP] at hR0 hPl hP2
  simp only at hR0 hPl hP2
  obtain ⟨pk, pd, pe, pq⟩ := P
  have HR0 := Lib.hid hR0; clear hR0
  have EP := Lib.hid eP; clear eP
  have HPL := Lib.hid hPl; clear hPl
  go_enter Tryd.func15, Tryd.ntmps15
  go_wp2_with (fail)
  refine (Peek_c A n c bs _ HN.out (hr.below k0) hc hm).mono ?_
  rintro r w1 ⟨rfl, hb1⟩
  rw [EP.out]
  simp only [Hd.V]
  have k1 := k0.trans (hb1.mono k0.size)
  have HB1 := Lib.hid (HB0.out.below hb1)
  have al : Below w1.heap.size w1 (w1.alloc (.cells #[.int .u8 (pk : Int), .bool pd, .int .u32 (pe : Int), .int .u64 (pq : Int)] 26)) := (Below.refl _ _).alloc (Nat.le_refl _) _
  have HX1 : Hid (Bx (w1.alloc (.cells #[.int .u8 (pk : Int), .bool pd, .int .u32 (pe : Int), .int .u64 (pq : Int)] 26)) w1.heap.size pk pe pq pd) := Lib.hid (Bx.new w1 pk pe pq pd)
  have HB2 := Lib.hid (HB1.out.below al)
  have k2 := k1.trans (al.mono k1.size)
  have hx : w.heap.size < w1.heap.size := HB1.out.lt
  clear hb1 HB0 k0 al
  obtain ⟨⟨d0, d1, d2, d3⟩, g0, g1, g2, g3⟩ := HB1.out.cells
  by_cases h0 : pr = 0
  · subst h0
    obtain ⟨l1, l2⟩ := HPL.out rfl
    obtain ⟨m, rfl⟩ : ∃ m, n = m + 16 := ⟨n - 16, by omega⟩
    have e16 : bs.length - 16 = m := by rw [HN.out]; omega
    have e30 : bs.length - 30 = m - 14 := by rw [HN.out]; omega
    have hR1 : R = if tagL key (bs.take m) = bs.drop m then (⟨pk, pd, pe, pq⟩, (bs.drop 14).take (m - 14), 0) else (hd0, [], 8) := by rw [HR0.out, if_neg (by simp), e16, e30]
    have HR1 := Lib.hid hR1; clear hR1 HR0 e16 e30 EP HPL hP2
    have l3 : 14 ≤ m := by omega
    have l4 : m ≤ 526 := by omega
    clear l1 l2
    have mc : (m : Int) ≤ (c : Int) := by omega
    have hrt := hr.take m
    rw [← List.map_take] at hrt
    obtain ⟨A6, c6, H6, r6, q6, q6'⟩ := cutFrom w A (m + 16) c m bs HN.out hr (by omega) hc
    have htl : (bs.take m).length = m := by rw [List.length_take, HN.out]; omega
    have hdl : (bs.drop m).length = m + 16 - m := by rw [List.length_drop, HN.out]
    have HTL := Lib.hid htl; clear htl
    have HDR := Lib.hid hdl; clear hdl
    obtain ⟨Dt, eDt⟩ : ∃ Dt, Dt = bs.take m := ⟨_, rfl⟩
    rw [← eDt] at HTL hrt HR1
    clear eDt d0 d1 d2 d3 g0 g1 g2 g3
    go_wp2_with (fail)
    have a3 : ∀ x ∈ [((A, m, c) : Option Addr × Nat × Nat)].zip [Dt], x.2.length = x.1.2.1 ∧ Rd (w1.alloc (.cells #[.int .u8 (pk : Int), .bool pd, .int .u32 (pe : Int), .int .u64 (pq : Int)] 26)) x.1.1 (x.2.map bv) ∧ x.1.2.1 ≤ x.1.2.2 ∧ x.1.2.2 ≤ maxLen := by
      intro x hx
      simp only [List.zip_cons_cons, List.zip_nil_right, List.mem_singleton] at hx
      subst hx
      exact ⟨HTL.out, hrt.below k2, by show m ≤ c; omega, hm⟩
    have r1 := RdS_lit (w1.alloc (.cells #[.int .u8 (pk : Int), .bool pd, .int .u32 (pe : Int), .int .u64 (pq : Int)] 26)) _ _ 22 (by simp only [List.length_cons, List.length_nil]) a3
    simp only [List.map_cons, List.map_nil, World.size_alloc] at r1
    clear a3
    have al2 : Below (w1.alloc (.cells #[.int .u8 (pk : Int), .bool pd, .int .u32 (pe : Int), .int .u64 (pq : Int)] 26)).heap.size (w1.alloc (.cells #[.int .u8 (pk : Int), .bool pd, .int .u32 (pe : Int), .int .u64 (pq : Int)] 26)) ((w1.alloc (.cells #[.int .u8 (pk : Int), .bool pd, .int .u32 (pe : Int), .int .u64 (pq : Int)] 26)).alloc (.cells #[.slice A m c] 22)) := (Below.refl _ _).alloc (Nat.le_refl _) _
    have k3 := k2.trans (al2.mono k2.size)
    have HX3 := Lib.hid (HX1.out.below al2)
    have HB3 := Lib.hid (HB2.out.below al2)
    obtain ⟨x, ex⟩ : ∃ x, x = w1.heap.size := ⟨_, rfl⟩
    refine (Code_c Ak nk ck key _ 1 1 [Dt] Dt _ HNK.out (hrk.below k3) hck hmk hlk rfl r1 (by omega) (by simp) (by rw [HTL.out]; omega) (Tab.below HT.out k3 HT.out.1)).mono ?_
    rintro r w3 ⟨rfl, hb3⟩
    have k4 := k3.trans (hb3.mono k3.size)
    have HX4 := Lib.hid (HX3.out.below hb3)
    have HB4 := Lib.hid (HB3.out.below hb3)
    rw [← ex] at HX4 hx
    rw [← ex]
    clear r1 HX3 HB3 HX1 HB2 k3 k2 al2 hb3 ex
    go_wp2_with (first | ((with_reducible refine wpList_putSum w3 rfl (.tmp 10) (.tmp 28) rfl (codeB key Dt) rfl rfl ?_); intro w4 hB hb4; have rt := (Bs.rd hB).take 16; rw [← List.map_take] at rt; have RT : Hid (Rd w4 (some ⟨w3.heap.size, 0, none⟩) ((tagL key Dt).map bv)) := Lib.hid rt; clear rt hB; have k5 := k4.trans (hb4.mono k4.size); have HX5 := Lib.hid (HX4.out.below hb4); have HB5 := Lib.hid (HB4.out.below hb4); clear hb4 HX4 HB4 k4))
    obtain ⟨g, eg⟩ : ∃ g, g = w3.heap.size := ⟨_, rfl⟩
    rw [← eg] at RT ⊢
    clear eg
    have kk := below_drewN k5 1
    refine wp_region_rw 41 [Rl.eq (.slice (some ⟨g, 0, none⟩) 16 32), Rl.eq (.slice A (m + 16) c), Rl.eq (.int .i64 (m : Int)), Rl.eq (.slice A6 (m + 16 - m) c6), Rl.eq (.bool (sameB (tagL key Dt) (bs.drop m))), Rl.eq (.bool (!(sameB (tagL key Dt) (bs.drop m))))] [29, 30, 31, 32, 33, 34] (by kernel_rfl) rfl (by kernel_rfl) (by kernel_rfl) ?_ ?_
    · repeat (first | exact AllFrom.nil_ | (refine AllFrom.cons_ (by rfl) ?_ ?_; rotate_left))
      · intro f w' g9 hF hD
        have h10 : f 10 = .pointer (some ⟨g, 0, none⟩) := hF 10 (by kernel_rfl)
        rw [if_pos (wanted_none rfl)]
        clear hF hD
        exact gives_val (by simp only [execOp, evF, Option.map_some, Option.map_none, h10]; go_simp) ⟨Gr.refl _, rfl⟩
      · intro f w' g9 hF hD
        have h1 : f 1 = .slice A (m + 16) c := hF 1 (by kernel_rfl)
        rw [if_pos (wanted_none rfl)]
        clear hF hD
        exact gives_val (by simp only [execOp, evF, h1]; first | rfl | go_simp) ⟨Gr.refl _, rfl⟩
      · intro f w' g9 hF hD
        have h9 : f 9 = .int .i64 (m : Int) := hF 9 (by kernel_rfl)
        rw [if_pos (wanted_none rfl)]
        clear hF hD
        exact gives_val (by simp only [execOp, evF, h9]; first | rfl | go_simp) ⟨Gr.refl _, rfl⟩
      · intro f w' g9 hF hD
        have h30 : f 30 = (.slice A (m + 16) c) := hD 1 30 (by kernel_rfl) rfl
        have h31 : f 31 = (.int .i64 (m : Int)) := hD 2 31 (by kernel_rfl) rfl
        rw [if_pos (wanted_none rfl)]
        clear hF hD
        exact gives_val (by simp only [execOp, evF, Option.map_some, Option.map_none, h30, h31]; simp only [Sem.run_bind, H6.out, Result.andThen_ok, Sem.run_pure]) ⟨Gr.refl _, rfl⟩
      · intro f w' g9 hF hD
        have h29 : f 29 = (.slice (some ⟨g, 0, none⟩) 16 32) := hD 0 29 (by kernel_rfl) rfl
        have h32 : f 32 = (.slice A6 (m + 16 - m) c6) := hD 3 32 (by kernel_rfl) rfl
        rw [if_pos (wanted_none rfl)]
        clear hF hD
        refine gives_func rfl Tryd.func30 (by kernel_rfl) rfl (by simp only [List.map_toArray, List.map_cons, List.map_nil, evF, h29, h32]) ((mSame_c (some ⟨g, 0, none⟩) A6 16 (m + 16 - m) 32 c6 (tagL key Dt) (bs.drop m) w' (tagL_len _ _) HDR.out ((RT.out.drewN 1).below g9) ((r6.below kk).below g9) (by decide)).mono ?_)
        rintro e w'' ⟨rfl, q, rfl⟩
        exact ⟨_, rfl, below_drewN (Below.refl _ _) q, rfl⟩
      · intro f w' g9 hF hD
        have h33 : f 33 = (.bool (sameB (tagL key Dt) (bs.drop m))) := hD 4 33 (by kernel_rfl) rfl
        rw [if_pos (wanted_none rfl)]
        clear hF hD
        exact gives_val (by simp only [execOp, evF, h33]; first | rfl | go_simp) ⟨Gr.refl _, rfl⟩
    · intro f w' g9 hD
      have h34 : f 34 = .bool (!(sameB (tagL key Dt) (bs.drop m))) := hD 5 34 rfl
      have HX6 := Lib.hid ((HX5.out.drewN 1).below g9)
      have HB6 := Lib.hid ((HB5.out.drewN 1).below g9)
      have k6 := kk.trans (Below.mono g9 kk.size)
      clear hD g9 HX5 HB5 RT
      obtain ⟨⟨d0, d1, d2, d3⟩, g0, g1, g2, g3⟩ := HB6.out.cells
      cases hsb : sameB (tagL key Dt) (bs.drop m) with
      | false =>
        rw [hsb] at h34
        have hR2 : R = (hd0, [], 8) := by
          rw [HR1.out, if_neg]
          intro h
          rw [(sameB_iff _ _).2 h] at hsb; cases hsb
        have HR2 := Lib.hid hR2; clear hR2 HR1 hsb
        simp only [putAll, Act.put, List.setIfInBounds_toArray, List.set_cons_zero, List.set_cons_succ, h34, Bool.not_false]
        go_wp2_with (fail)
        have h9 := HB6.out.set4 0 0 0 false
        have k9 := (((k6.setCell (p := ⟨w.heap.size, 0, none⟩) (Nat.le_refl _) (.int .u8 0)).setCell (p := ⟨w.heap.size, 1, none⟩) (Nat.le_refl _) (.bool false)).setCell (p := ⟨w.heap.size, 2, none⟩) (Nat.le_refl _) (.int .u32 0)).setCell (p := ⟨w.heap.size, 3, none⟩) (Nat.le_refl _) (.int .u64 0)
        obtain ⟨⟨e0, e1, e2, e3⟩, _⟩ := Bx.cells h9
        refine bodyPost_ret (v := .tuple #[hd0.V, .slice none 0 0, .int .i64 8]) (by simp only [Int.natCast_zero, Int.cast_ofNat_Int] at e0 e1 e2 e3; simp [results, Tryd.results15, go_sem, e0, e1, e2, e3]; rfl) rfl ?_
        exact ⟨_, by rw [HR2.out]; rfl, Lib.hid (by rw [HR2.out]; exact Own.nil_ _ _ _), k9⟩
      | true =>
        rw [hsb] at h34
        have hR2 : R = (⟨pk, pd, pe, pq⟩, (bs.drop 14).take (m - 14), 0) := by rw [HR1.out, if_pos ((sameB_iff _ _).1 hsb)]
        have HR2 := Lib.hid hR2; clear hR2 HR1 hsb
        simp only [putAll, Act.put, List.setIfInBounds_toArray, List.set_cons_zero, List.set_cons_succ, h34, Bool.not_true]
        go_wp2_with (fail)
        have rcut := (hr.cut (k := 14) (n := m + 16) (c := c) (by rw [List.length_map]; exact HN.out) (by omega) hc).take (m - 14)
        rw [← List.map_drop, ← List.map_take] at rcut
        have RCUT := Lib.hid rcut; clear rcut
        have hcl : ((bs.drop 14).take (m - 14)).length = m - 14 := by rw [List.length_take, List.length_drop, HN.out]; omega
        have HCL := Lib.hid hcl; clear hcl
        have m14 : (14 : Int) ≤ (m : Int) := by omega
        have hgx : w.heap.size ≠ x := by omega
        obtain ⟨⟨x0, x1, x2, x3⟩, _⟩ := HX6.out.cells
        go_region_held3 (fun w'' => w''.cell? ⟨x, 0, none⟩ = some (.int .u8 (pk : Int)) ∧ w''.cell? ⟨x, 1, none⟩ = some (.bool pd) ∧ w''.cell? ⟨x, 2, none⟩ = some (.int .u32 (pe : Int)) ∧ w''.cell? ⟨x, 3, none⟩ = some (.int .u64 (pq : Int))) (first | exact ⟨x0, x1, x2, x3⟩ | exact ⟨hx7.1, hx7.2.1, hx7.2.2.1, hx7.2.2.2⟩ | exact ⟨(far4 hgx _ _ _ _ _).trans hx7.1, (far4 hgx _ _ _ _ _).trans hx7.2.1, (far4 hgx _ _ _ _ _).trans hx7.2.2.1, (far4 hgx _ _ _ _ _).trans hx7.2.2.2⟩) (first
          | ((refine step_cloneB rfl (.tmp 39) rfl _ (m - 14) _ _ rfl HCL.out ((RCUT.out.below k6).drewN 1) (by omega) ?_); intro A8 c8 w8 HV8 hb8; have HX8 := Lib.hid ((HX6.out.drewN 1).below hb8); have HB8 := Lib.hid ((HB6.out.drewN 1).below hb8); have hx7 := HX8.out.cells.1; have k8 := (below_drewN k6 1).trans (hb8.mono k6.size); obtain ⟨⟨d0, d1, d2, d3⟩, g0, g1, g2, g3⟩ := HB8.out.cells))
        all_goals
          go_wp2_with (fail)
          have h9 := HB8.out.set4 pk pe pq pd
          have k9 := (((k8.setCell (p := ⟨w.heap.size, 0, none⟩) (Nat.le_refl _) (.int .u8 (pk : Int))).setCell (p := ⟨w.heap.size, 1, none⟩) (Nat.le_refl _) (.bool pd)).setCell (p := ⟨w.heap.size, 2, none⟩) (Nat.le_refl _) (.int .u32 (pe : Int))).setCell (p := ⟨w.heap.size, 3, none⟩) (Nat.le_refl _) (.int .u64 (pq : Int))
          have hv9 := (((Own.setBelow HV8.out (p := ⟨w.heap.size, 0, none⟩) (by show w.heap.size < _; have := HB6.out.lt; simpa using this) (.int .u8 (pk : Int))).setBelow (p := ⟨w.heap.size, 1, none⟩) (by show w.heap.size < _; have := HB6.out.lt; simpa using this) (.bool pd)).setBelow (p := ⟨w.heap.size, 2, none⟩) (by show w.heap.size < _; have := HB6.out.lt; simpa using this) (.int .u32 (pe : Int))).setBelow (p := ⟨w.heap.size, 3, none⟩) (by show w.heap.size < _; have := HB6.out.lt; simpa using this) (.int .u64 (pq : Int))
          obtain ⟨⟨e0, e1, e2, e3⟩, _⟩ := Bx.cells h9
          refine bodyPost_ret (v := .tuple #[(⟨pk, pd, pe, pq⟩ : Hd).V, .slice A8 (m - 14) c8, .int .i64 0]) (by simp [results, Tryd.results15, go_sem, e0, e1, e2, e3]; rfl) rfl ?_
          exact ⟨_, by rw [HR2.out]; rfl, Lib.hid (by rw [HR2.out]; exact Own.low hv9 (by have := k6.size; simpa using this)), k9⟩
  · have hR1 : R = (hd0, [], pr) := by rw [HR0.out, if_pos h0]
    have HR1 := Lib.hid hR1; clear hR1 HR0
    have hb : ((pr : Int) != 0) = true := by rw [bne_iff_ne]; omega
    clear h0
    go_wp2_with (fail)
    have h9 := (HB1.out.set4 0 0 0 false).below ((Below.refl _ _).alloc (Nat.le_refl _) (.cells #[.int .u8 (pk : Int), .bool pd, .int .u32 (pe : Int), .int .u64 (pq : Int)] 26))
    have k9a := (((k1.setCell (p := ⟨w.heap.size, 0, none⟩) (Nat.le_refl _) (.int .u8 0)).setCell (p := ⟨w.heap.size, 1, none⟩) (Nat.le_refl _) (.bool false)).setCell (p := ⟨w.heap.size, 2, none⟩) (Nat.le_refl _) (.int .u32 0)).setCell (p := ⟨w.heap.size, 3, none⟩) (Nat.le_refl _) (.int .u64 0)
    have k9 := k9a.alloc k9a.size (.cells #[.int .u8 (pk : Int), .bool pd, .int .u32 (pe : Int), .int .u64 (pq : Int)] 26)
    obtain ⟨⟨e0, e1, e2, e3⟩, _⟩ := Bx.cells h9
    refine bodyPost_ret (v := .tuple #[hd0.V, .slice none 0 0, .int .i64 (pr : Int)]) (by simp only [Int.natCast_zero, Int.cast_ofNat_Int] at e0 e1 e2 e3; simp [results, Tryd.results15, go_sem, e0, e1, e2, e3]; rfl) rfl ?_
    exact ⟨_, by rw [HR1.out], Lib.hid (by rw [HR1.out]; exact Own.nil_ _ _ _), k9⟩
end Go.Proofs.YtecmkdoodlpanaaDoor

