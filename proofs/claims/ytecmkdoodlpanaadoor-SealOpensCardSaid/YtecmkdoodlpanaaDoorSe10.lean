/- What the reference's Open answers: what a datagram says, if its tag is right. Conditions: lengths that fit. -/
import Derived.Test.YtecmkdoodlpanaaDoorSe9
namespace Go.Proofs.YtecmkdoodlpanaaDoor
open Go Go.RowKit
attribute [local go_sem] run_eq_sumV run_guard_sumV

/-- A slice of n bytes that reads as these. -/
def Rl.rdn (n : Nat) (l : List UInt8) : Rl := ⟨fun w v => ∃ X c, v = .slice X n c ∧ Rd w X (l.map bv) ∧ c ≤ maxLen, fun ⟨X, c, h, r, m⟩ hb => ⟨X, c, h, r.below hb, m⟩⟩

set_option maxRecDepth 100000 in
set_option maxHeartbeats 4000000 in
theorem refOpen_c (Ak : Option Addr) (nk ck : Nat) (key : List UInt8) (A : Option Addr) (n c : Nat) (bs : List UInt8) (w : World) (hnk : key.length = nk) (hrk : Rd w Ak (key.map bv)) (hck : nk ≤ ck) (hmk : ck ≤ maxLen) (hlk : nk ≤ 1000000000)
    (hn : bs.length = n) (hr : Rd w A (bs.map bv)) (hc : n ≤ c) (hm : c ≤ maxLen) :
    Calls Tryd.prog 17 #[.slice Ak nk ck, .slice A n c] w fun r w' => ∃ v, r = .returned (.tuple #[(openR key bs).1.V, v, .int .i64 ((openR key bs).2.2 : Int)]) ∧ Hid (OwnB w' w.heap.size v (openR key bs).2.1) ∧ Below w.heap.size w w' := by
  have HNK := Lib.hid hnk; clear hnk
  have HN := Lib.hid hn; clear hn
  have k0 : Below w.heap.size w (w.alloc (.cells #[.int .u8 0, .bool false, .int .u32 0, .int .u64 0] 26)) := (Below.refl _ _).alloc (Nat.le_refl _) _
  have hb0 : Bx (w.alloc (.cells #[.int .u8 0, .bool false, .int .u32 0, .int .u64 0] 26)) w.heap.size 0 0 0 false := Bx.new w 0 0 0 false
  have HB0 := Lib.hid hb0; clear hb0
  obtain ⟨R, eR⟩ : ∃ R, R = openR key bs := ⟨_, rfl⟩
  rw [← eR]
  have hR0 : R = if (peekR bs).2 ≠ 0 then (hd0, [], (peekR bs).2)
    else if tagL key (bs.take (bs.length - 16)) = bs.drop (bs.length - 16) then ((peekR bs).1, (bs.drop 14).take (bs.length - 30), 0) else (hd0, [], 8) := eR
  clear eR
  have hPl : (peekR bs).2 = 0 → 30 ≤ n ∧ n ≤ 542 := by
    unfold peekR
    rw [HN.out]
    intro h
    split at h
    · simp at h
    · split at h
      · simp at h
      · omega
  have hP2 : (peekR bs).2 ≤ 4 := by
    unfold peekR
    split
    · decide
    · split
      · decide
      · split <;> simp
  obtain ⟨P, pr, eP⟩ : ∃ P pr, peekR bs = (P, pr) := ⟨_, _, rfl⟩
  rw [eP] at hR0 hPl hP2
  simp only at hR0 hPl hP2
  obtain ⟨pk, pd, pe, pq⟩ := P
  have HR0 := Lib.hid hR0; clear hR0
  have EP := Lib.hid eP; clear eP
  have HPL := Lib.hid hPl; clear hPl
  go_enter Tryd.func17, Tryd.ntmps17
  go_wp2_with (fail)
  refine (refPeek_c A n c bs _ HN.out (hr.below k0) hc hm).mono ?_
  rintro r w1 ⟨rfl, hb1⟩
  rw [EP.out]
  simp only [Hd.V]
  have k1 := k0.trans (hb1.mono k0.size)
  have HB1 := Lib.hid (HB0.out.below hb1)
  have al : Below w1.heap.size w1 (w1.alloc (.cells #[.int .u8 (pk : Int), .bool pd, .int .u32 (pe : Int), .int .u64 (pq : Int)] 26)) := (Below.refl _ _).alloc (Nat.le_refl _) _
  have HX1 : Hid (Bx (w1.alloc (.cells #[.int .u8 (pk : Int), .bool pd, .int .u32 (pe : Int), .int .u64 (pq : Int)] 26)) w1.heap.size pk pe pq pd) := Lib.hid (Bx.new w1 pk pe pq pd)
  have HB2 := Lib.hid (HB1.out.below al)
  have k2 := k1.trans (al.mono k1.size)
  have hx : w.heap.size < w1.heap.size := HB1.out.lt
  clear hb1 HB0 k0 al
  obtain ⟨⟨d0, d1, d2, d3⟩, g0, g1, g2, g3⟩ := HB1.out.cells
  by_cases h0 : pr = 0
  · subst h0
    obtain ⟨l1, l2⟩ := HPL.out rfl
    obtain ⟨m, rfl⟩ : ∃ m, n = m + 16 := ⟨n - 16, by omega⟩
    have e16 : bs.length - 16 = m := by rw [HN.out]; omega
    have e30 : bs.length - 30 = m - 14 := by rw [HN.out]; omega
    have hR1 : R = if tagL key (bs.take m) = bs.drop m then (⟨pk, pd, pe, pq⟩, (bs.drop 14).take (m - 14), 0) else (hd0, [], 8) := by rw [HR0.out, if_neg (by simp), e16, e30]
    have HR1 := Lib.hid hR1; clear hR1 HR0 e16 e30 EP HPL hP2
    have l3 : 14 ≤ m := by omega
    have l4 : m ≤ 526 := by omega
    clear l1 l2
    have mc : (m : Int) ≤ (c : Int) := by omega
    have hrt := hr.take m
    rw [← List.map_take] at hrt
    obtain ⟨A6, c6, H6, r6, q6, q6'⟩ := cutFrom w A (m + 16) c m bs HN.out hr (by omega) hc
    have htl : (bs.take m).length = m := by rw [List.length_take, HN.out]; omega
    have hdl : (bs.drop m).length = m + 16 - m := by rw [List.length_drop, HN.out]
    have HTL := Lib.hid htl; clear htl
    have HDR := Lib.hid hdl; clear hdl
    obtain ⟨Dt, eDt⟩ : ∃ Dt, Dt = bs.take m := ⟨_, rfl⟩
    rw [← eDt] at HTL hrt HR1
    clear eDt d0 d1 d2 d3 g0 g1 g2 g3
    go_wp2_with (fail)
    have HX5 := HX1
    have HB5 := HB2
    have k5 := k2
    obtain ⟨x, ex⟩ : ∃ x, x = w1.heap.size := ⟨_, rfl⟩
    rw [← ex] at HX5 hx ⊢
    clear ex HX1 HB2 k2
    have kk := below_drewN k5 1
    have hwm : IntKind.i64.wrap (m : Int) = (m : Int) := IntWalk.i64_in _ ⟨by omega, by omega⟩
    refine wp_region_rw 40 [Rl.eq (.slice Ak nk ck), Rl.eq (.slice A (m + 16) c), Rl.eq (.int .i64 ((m : Int) + 16)), Rl.eq (.int .i64 (m : Int)), Rl.eq (.slice A m c), Rl.rdn 16 (tagL key Dt), Rl.eq (.slice A (m + 16) c), Rl.eq (.int .i64 ((m : Int) + 16)), Rl.eq (.int .i64 (m : Int)), Rl.eq (.slice A6 (m + 16 - m) c6), Rl.eq (.bool (sameB (tagL key Dt) (bs.drop m))), Rl.eq (.bool (!(sameB (tagL key Dt) (bs.drop m))))] [21, 22, 23, 24, 25, 26, 27, 28, 29, 30, 31, 32] (by kernel_rfl) rfl (by kernel_rfl) (by kernel_rfl) ?_ ?_
    · repeat (first | exact AllFrom.nil_ | (refine AllFrom.cons_ (by rfl) ?_ ?_; rotate_left))
      · intro f w' g9 hF hD
        have h0 : f 0 = .slice Ak nk ck := hF 0 (by kernel_rfl)
        rw [if_pos (wanted_none rfl)]
        clear hF hD
        exact gives_val (by simp only [execOp, evF, h0]; first | rfl | go_simp) ⟨Gr.refl _, rfl⟩
      · intro f w' g9 hF hD
        have h1 : f 1 = .slice A (m + 16) c := hF 1 (by kernel_rfl)
        rw [if_pos (wanted_none rfl)]
        clear hF hD
        exact gives_val (by simp only [execOp, evF, h1]; first | rfl | go_simp) ⟨Gr.refl _, rfl⟩
      · intro f w' g9 hF hD
        have h9 : f 9 = .int .i64 ((m : Int) + 16) := hF 9 (by kernel_rfl)
        rw [if_pos (wanted_none rfl)]
        clear hF hD
        exact gives_val (by simp only [execOp, evF, h9]; first | rfl | go_simp) ⟨Gr.refl _, rfl⟩
      · intro f w' g9 hF hD
        have h23 : f 23 = (.int .i64 ((m : Int) + 16)) := hD 2 23 (by kernel_rfl) rfl
        rw [if_pos (wanted_none rfl)]
        clear hF hD
        exact gives_val (by simp only [execOp, evF, h23]; first | rfl | go_simp) ⟨Gr.refl _, rfl⟩
      · intro f w' g9 hF hD
        have h22 : f 22 = (.slice A (m + 16) c) := hD 1 22 (by kernel_rfl) rfl
        have h24 : f 24 = (.int .i64 (m : Int)) := hD 3 24 (by kernel_rfl) rfl
        rw [if_pos (wanted_none rfl)]
        clear hF hD
        exact gives_val (by simp only [execOp, evF, Option.map_some, Option.map_none, h22, h24]; go_simp) ⟨Gr.refl _, rfl⟩
      · intro f w' g9 hF hD
        have h21 : f 21 = (.slice Ak nk ck) := hD 0 21 (by kernel_rfl) rfl
        have h25 : f 25 = (.slice A m c) := hD 4 25 (by kernel_rfl) rfl
        rw [if_pos (wanted_none rfl)]
        clear hF hD
        have kg := kk.trans (Below.mono g9 kk.size)
        refine gives_func rfl Tryd.func27 (by kernel_rfl) rfl (by simp only [List.map_toArray, List.map_cons, List.map_nil, evF, h21, h25]) ((refTag_c Ak nk ck key A m c Dt w' HNK.out (hrk.below kg) hck hmk (by omega) HTL.out (hrt.below kg) (by omega) hm (by omega)).mono ?_)
        rintro e w'' ⟨v, rfl, HV, hb⟩
        obtain ⟨A7, c7, rfl, s1, s2, s3, _⟩ := OwnB.form HV.out
        rw [tagL_len]
        exact ⟨_, rfl, hb, A7, c7, rfl, s3, s2⟩
      · intro f w' g9 hF hD
        have h1 : f 1 = .slice A (m + 16) c := hF 1 (by kernel_rfl)
        rw [if_pos (wanted_none rfl)]
        clear hF hD
        exact gives_val (by simp only [execOp, evF, h1]; first | rfl | go_simp) ⟨Gr.refl _, rfl⟩
      · intro f w' g9 hF hD
        have h9 : f 9 = .int .i64 ((m : Int) + 16) := hF 9 (by kernel_rfl)
        rw [if_pos (wanted_none rfl)]
        clear hF hD
        exact gives_val (by simp only [execOp, evF, h9]; first | rfl | go_simp) ⟨Gr.refl _, rfl⟩
      · intro f w' g9 hF hD
        have h28 : f 28 = (.int .i64 ((m : Int) + 16)) := hD 7 28 (by kernel_rfl) rfl
        rw [if_pos (wanted_none rfl)]
        clear hF hD
        exact gives_val (by simp only [execOp, evF, h28]; first | rfl | go_simp) ⟨Gr.refl _, rfl⟩
      · intro f w' g9 hF hD
        have h27 : f 27 = (.slice A (m + 16) c) := hD 6 27 (by kernel_rfl) rfl
        have h29 : f 29 = (.int .i64 (m : Int)) := hD 8 29 (by kernel_rfl) rfl
        rw [if_pos (wanted_none rfl)]
        clear hF hD
        exact gives_val (by simp only [execOp, evF, Option.map_some, Option.map_none, h27, h29]; simp only [Sem.run_bind, H6.out, Result.andThen_ok, Sem.run_pure]) ⟨Gr.refl _, rfl⟩
      · intro f w' g9 hF hD
        have q26 := hD 5 26 (by kernel_rfl) rfl
        have h30 : f 30 = (.slice A6 (m + 16 - m) c6) := hD 9 30 (by kernel_rfl) rfl
        rw [if_pos (wanted_none rfl)]
        clear hF hD
        obtain ⟨X, cX, hX, rX, _⟩ : ∃ X cX, f 26 = .slice X 16 cX ∧ Rd w' X ((tagL key Dt).map bv) ∧ cX ≤ maxLen := q26
        have kg := kk.trans (Below.mono g9 kk.size)
        refine gives_func rfl Tryd.func13 (by kernel_rfl) rfl (by simp only [List.map_toArray, List.map_cons, List.map_nil, evF, hX, h30]) ((Same_c X A6 16 (m + 16 - m) cX c6 (tagL key Dt) (bs.drop m) w' (tagL_len _ _) HDR.out rX (r6.below kg) (by decide)).mono ?_)
        rintro e w'' ⟨rfl, q, rfl⟩
        exact ⟨_, rfl, below_drewN (Below.refl _ _) q, rfl⟩
      · intro f w' g9 hF hD
        have h31 : f 31 = (.bool (sameB (tagL key Dt) (bs.drop m))) := hD 10 31 (by kernel_rfl) rfl
        rw [if_pos (wanted_none rfl)]
        clear hF hD
        exact gives_val (by simp only [execOp, evF, h31]; first | rfl | go_simp) ⟨Gr.refl _, rfl⟩
    · intro f w' g9 hD
      have h34 : f 32 = .bool (!(sameB (tagL key Dt) (bs.drop m))) := hD 11 32 rfl
      have HX6 := Lib.hid ((HX5.out.drewN 1).below g9)
      have HB6 := Lib.hid ((HB5.out.drewN 1).below g9)
      have k6 := kk.trans (Below.mono g9 kk.size)
      clear hD g9 HX5 HB5
      obtain ⟨⟨d0, d1, d2, d3⟩, g0, g1, g2, g3⟩ := HB6.out.cells
      cases hsb : sameB (tagL key Dt) (bs.drop m) with
      | false =>
        rw [hsb] at h34
        have hR2 : R = (hd0, [], 8) := by
          rw [HR1.out, if_neg]
          intro h
          rw [(sameB_iff _ _).2 h] at hsb; cases hsb
        have HR2 := Lib.hid hR2; clear hR2 HR1 hsb
        simp only [putAll, Act.put, List.setIfInBounds_toArray, List.set_cons_zero, List.set_cons_succ, h34, Bool.not_false]
        go_wp2_with (fail)
        have h9 := HB6.out.set4 0 0 0 false
        have k9 := (((k6.setCell (p := ⟨w.heap.size, 0, none⟩) (Nat.le_refl _) (.int .u8 0)).setCell (p := ⟨w.heap.size, 1, none⟩) (Nat.le_refl _) (.bool false)).setCell (p := ⟨w.heap.size, 2, none⟩) (Nat.le_refl _) (.int .u32 0)).setCell (p := ⟨w.heap.size, 3, none⟩) (Nat.le_refl _) (.int .u64 0)
        obtain ⟨⟨e0, e1, e2, e3⟩, _⟩ := Bx.cells h9
        refine bodyPost_ret (v := .tuple #[hd0.V, .slice none 0 0, .int .i64 8]) (by simp only [Int.natCast_zero, Int.cast_ofNat_Int] at e0 e1 e2 e3; simp [results, Tryd.results17, go_sem, e0, e1, e2, e3]; rfl) rfl ?_
        exact ⟨_, by rw [HR2.out]; rfl, Lib.hid (by rw [HR2.out]; exact Own.nil_ _ _ _), k9⟩
      | true =>
        rw [hsb] at h34
        have hR2 : R = (⟨pk, pd, pe, pq⟩, (bs.drop 14).take (m - 14), 0) := by rw [HR1.out, if_pos ((sameB_iff _ _).1 hsb)]
        have HR2 := Lib.hid hR2; clear hR2 HR1 hsb
        simp only [putAll, Act.put, List.setIfInBounds_toArray, List.set_cons_zero, List.set_cons_succ, h34, Bool.not_true]
        go_wp2_with (fail)
        have rcut := (hr.cut (k := 14) (n := m + 16) (c := c) (by rw [List.length_map]; exact HN.out) (by omega) hc).take (m - 14)
        rw [← List.map_drop, ← List.map_take] at rcut
        have RCUT := Lib.hid rcut; clear rcut
        have hcl : ((bs.drop 14).take (m - 14)).length = m - 14 := by rw [List.length_take, List.length_drop, HN.out]; omega
        have HCL := Lib.hid hcl; clear hcl
        have m14 : (14 : Int) ≤ (m : Int) := by omega
        have hgx : w.heap.size ≠ x := by omega
        obtain ⟨⟨x0, x1, x2, x3⟩, _⟩ := HX6.out.cells
        go_region_held3 (fun w'' => w''.cell? ⟨x, 0, none⟩ = some (.int .u8 (pk : Int)) ∧ w''.cell? ⟨x, 1, none⟩ = some (.bool pd) ∧ w''.cell? ⟨x, 2, none⟩ = some (.int .u32 (pe : Int)) ∧ w''.cell? ⟨x, 3, none⟩ = some (.int .u64 (pq : Int))) (first | exact ⟨x0, x1, x2, x3⟩ | exact ⟨hx7.1, hx7.2.1, hx7.2.2.1, hx7.2.2.2⟩ | exact ⟨(far4 hgx _ _ _ _ _).trans hx7.1, (far4 hgx _ _ _ _ _).trans hx7.2.1, (far4 hgx _ _ _ _ _).trans hx7.2.2.1, (far4 hgx _ _ _ _ _).trans hx7.2.2.2⟩) (first
          | (go_at_call 10; refine (Copy_c _ (m - 14) _ _ _ HCL.out ((RCUT.out.below k6).drewN 1) (by omega)).mono ?_; rintro _ w8 ⟨v8, rfl, HV8', hb8⟩; obtain ⟨A8, c8, rfl, _, _, _, _⟩ := OwnB.form HV8'; rw [HCL.out] at HV8' ⊢; have HV8 := Lib.hid HV8'; clear HV8'; have HX8 := Lib.hid ((HX6.out.drewN 1).below hb8); have HB8 := Lib.hid ((HB6.out.drewN 1).below hb8); have hx7 := HX8.out.cells.1; have k8 := (below_drewN k6 1).trans (hb8.mono k6.size); obtain ⟨⟨d0, d1, d2, d3⟩, g0, g1, g2, g3⟩ := HB8.out.cells))
        all_goals
          go_wp2_with (fail)
          have h9 := HB8.out.set4 pk pe pq pd
          have k9 := (((k8.setCell (p := ⟨w.heap.size, 0, none⟩) (Nat.le_refl _) (.int .u8 (pk : Int))).setCell (p := ⟨w.heap.size, 1, none⟩) (Nat.le_refl _) (.bool pd)).setCell (p := ⟨w.heap.size, 2, none⟩) (Nat.le_refl _) (.int .u32 (pe : Int))).setCell (p := ⟨w.heap.size, 3, none⟩) (Nat.le_refl _) (.int .u64 (pq : Int))
          have hv9 := (((Own.setBelow HV8.out (p := ⟨w.heap.size, 0, none⟩) (by show w.heap.size < _; have := HB6.out.lt; simpa using this) (.int .u8 (pk : Int))).setBelow (p := ⟨w.heap.size, 1, none⟩) (by show w.heap.size < _; have := HB6.out.lt; simpa using this) (.bool pd)).setBelow (p := ⟨w.heap.size, 2, none⟩) (by show w.heap.size < _; have := HB6.out.lt; simpa using this) (.int .u32 (pe : Int))).setBelow (p := ⟨w.heap.size, 3, none⟩) (by show w.heap.size < _; have := HB6.out.lt; simpa using this) (.int .u64 (pq : Int))
          obtain ⟨⟨e0, e1, e2, e3⟩, _⟩ := Bx.cells h9
          refine bodyPost_ret (v := .tuple #[(⟨pk, pd, pe, pq⟩ : Hd).V, .slice A8 (m - 14) c8, .int .i64 0]) (by simp [results, Tryd.results17, go_sem, e0, e1, e2, e3]; rfl) rfl ?_
          exact ⟨_, by rw [HR2.out]; rfl, Lib.hid (by rw [HR2.out]; exact Own.low hv9 (by have := k6.size; simpa using this)), k9⟩
  · have hR1 : R = (hd0, [], pr) := by rw [HR0.out, if_pos h0]
    have HR1 := Lib.hid hR1; clear hR1 HR0
    have hb : ((pr : Int) != 0) = true := by rw [bne_iff_ne]; omega
    clear h0
    go_wp2_with (fail)
    have h9 := (HB1.out.set4 0 0 0 false).below ((Below.refl _ _).alloc (Nat.le_refl _) (.cells #[.int .u8 (pk : Int), .bool pd, .int .u32 (pe : Int), .int .u64 (pq : Int)] 26))
    have k9a := (((k1.setCell (p := ⟨w.heap.size, 0, none⟩) (Nat.le_refl _) (.int .u8 0)).setCell (p := ⟨w.heap.size, 1, none⟩) (Nat.le_refl _) (.bool false)).setCell (p := ⟨w.heap.size, 2, none⟩) (Nat.le_refl _) (.int .u32 0)).setCell (p := ⟨w.heap.size, 3, none⟩) (Nat.le_refl _) (.int .u64 0)
    have k9 := k9a.alloc k9a.size (.cells #[.int .u8 (pk : Int), .bool pd, .int .u32 (pe : Int), .int .u64 (pq : Int)] 26)
    obtain ⟨⟨e0, e1, e2, e3⟩, _⟩ := Bx.cells h9
    refine bodyPost_ret (v := .tuple #[hd0.V, .slice none 0 0, .int .i64 (pr : Int)]) (by simp only [Int.natCast_zero, Int.cast_ofNat_Int] at e0 e1 e2 e3; simp [results, Tryd.results17, go_sem, e0, e1, e2, e3]; rfl) rfl ?_
    exact ⟨_, by rw [HR1.out], Lib.hid (by rw [HR1.out]; exact Own.nil_ _ _ _), k9⟩
end Go.Proofs.YtecmkdoodlpanaaDoor

