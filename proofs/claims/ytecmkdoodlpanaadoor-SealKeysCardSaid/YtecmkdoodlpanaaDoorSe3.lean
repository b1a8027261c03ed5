/- What seal.Seal answers: a datagram's bytes, or an error. Conditions: the table stands; lengths that fit. -/
import Derived.Test.YtecmkdoodlpanaaDoorSe2
import Derived.Test.YtecmkdoodlpanaaDoorMc2
import Derived.Test.YtecmkdoodlpanaaDoorMs
import Derived.Test.YtecmkdoodlpanaaDoorCu
import Derived.Deep.RegionHeld3
namespace Go.Proofs.YtecmkdoodlpanaaDoor
open Go Go.RowKit
attribute [local go_sem] run_eq_sumV run_guard_sumV

/-- 'append(v, xs...)' on bytes, as a step of a region that draws. -/
theorem step_appB {ops : Array Oper} {o : Oper} {a : Act} {w : World} {K : Act → World → Prop} {Q : Exit → Act → World → Prop} {E : Prop} (hgd : o.guard = none) (s x : Operand)
    (ho : o.op = .call { callee := .builtin .append, args := #[s, x], argTypes := #[22, 22] })
    (B : Nat) (v : Value) (bs : List UInt8) (hs : a.eval s = v) (hown : OwnB w B v bs)
    (A : Option Addr) (m c : Nat) (ns : List UInt8) (hx : a.eval x = .slice A m c) (hm : ns.length = m) (hr : Rd w A (ns.map bv))
    (hlen : bs.length + m ≤ 140737488355328) (hB : B ≤ w.heap.size)
    (h : ∀ v' w', Hid (OwnB w' B v' (bs ++ ns)) → Below B w w' → w.grownBy w' v.ownBlock → K (a.put o.dst v') w') :
    if Region.wanted o (yielded ops a.tmps) = true then Oper.wp Tryd.prog o a w K Q else E := by
  rw [if_pos (wanted_none hgd)]
  obtain ⟨i0, hi, hz0, hz1, hz2⟩ := info_parts info_u8
  obtain ⟨v', w', hrun, h2, h3, h4⟩ := run_app (P := Tryd.prog) w B 22 o.type 5 i0 (.int .u8 0) 1 Tryd.underlying22 hi hz0 hz1 hz2 rfl v (bs.map bv) hown A m c (ns.map bv) (by simpa using hm) hr (bv_one _) (by simp only [List.length_map, maxLen]; omega) (by simp only [List.length_map]; omega) hB
  unfold Oper.wp execOp
  simp only [ho, resolve, invoke, builtin, Sem.run_bind, Sem.run_pure, Result.andThen_ok, List.map_toArray, List.map_cons, List.map_nil, hs, hx, hrun]
  exact h v' w' (Lib.hid (by simpa [OwnB] using h2)) ((Below.refl B w).grown h3 hB (fun k e => (Own.lt hown k e).1)) h3

theorem u32_64 {e : Nat} (he : U32 e) : IntKind.u64.wrap (e : Int) = (e : Int) := by
  unfold U32 at he
  unfold IntKind.wrap
  simp [IntKind.bits, IntKind.signed]
  omega
/-- Two cells that stay. -/
def Sc (g e q : Nat) (w : World) : Prop := w.cell? ⟨g, 2, none⟩ = some (.int .u32 (e : Int)) ∧ w.cell? ⟨g, 3, none⟩ = some (.int .u64 (q : Int))
theorem keepS {g e q : Nat} {a b : World} (h : a.cell? ⟨g, 2, none⟩ = some (.int .u32 (e : Int)) ∧ a.cell? ⟨g, 3, none⟩ = some (.int .u64 (q : Int))) (hb : Below (g + 1) a b) : b.cell? ⟨g, 2, none⟩ = some (.int .u32 (e : Int)) ∧ b.cell? ⟨g, 3, none⟩ = some (.int .u64 (q : Int)) :=
  ⟨(hb.cell (p := ⟨g, 2, none⟩) (Nat.lt_succ_self _)).trans h.1, (hb.cell (p := ⟨g, 3, none⟩) (Nat.lt_succ_self _)).trans h.2⟩

set_option maxRecDepth 100000 in
set_option maxHeartbeats 4000000 in
theorem Seal_c (Ak : Option Addr) (nk ck : Nat) (key : List UInt8) (k e q : Nat) (d : Bool) (A : Option Addr) (n c : Nat) (body : List UInt8) (w : World) (hnk : key.length = nk) (hrk : Rd w Ak (key.map bv)) (hck : nk ≤ ck) (hmk : ck ≤ maxLen) (hlk : nk ≤ 1000000000)
    (hk : k < 256) (he : U32 e) (hq : U64 q) (hn : body.length = n) (hr : Rd w A (body.map bv)) (hT : Tab w) :
    Calls Tryd.prog 11 #[.slice Ak nk ck, .agg #[.int .u8 (k : Int), .bool d, .int .u32 (e : Int), .int .u64 (q : Int)], .slice A n c] w fun r w' => ∃ v, r = .returned (.tuple #[v, .int .i64 ((sealR key ⟨k, d, e, q⟩ body).2 : Int)]) ∧ Hid (OwnB w' w.heap.size v (sealR key ⟨k, d, e, q⟩ body).1) ∧ Below w.heap.size w w' := by
  have HNK := Lib.hid hnk; clear hnk
  have HN := Lib.hid hn; clear hn
  have HT := Lib.hid hT; clear hT
  have k0 : Below w.heap.size w (w.alloc (.cells #[.int .u8 (k : Int), .bool d, .int .u32 (e : Int), .int .u64 (q : Int)] 26)) := (Below.refl _ _).alloc (Nat.le_refl _) _
  have HB0 := Lib.hid (Bx.new w k e q d)
  have hue : U64 e := Nat.lt_trans he (by decide)
  have elo : Value.int .u8 (k : Int) = bv (lo k) := by unfold bv; rw [lo_nat, Nat.mod_eq_of_lt hk]
  have ELO := Lib.hid elo; clear elo hk
  obtain ⟨R, eR⟩ : ∃ R, R = sealR key ⟨k, d, e, q⟩ body := ⟨_, rfl⟩
  rw [← eR]
  have ER := Lib.hid eR; clear eR
  obtain ⟨my, emy⟩ : ∃ my, my = mayB ⟨k, d, e, q⟩ := ⟨_, rfl⟩
  go_enter Tryd.func11, Tryd.ntmps11
  go_wp2_with (fail)
  refine (may_c k e q d _).mono ?_
  rintro r w1 ⟨rfl, hb1⟩
  rw [← emy]
  have EMY := Lib.hid emy; clear emy
  have k1 := k0.trans (hb1.mono k0.size)
  have HB1 := Lib.hid (HB0.out.below hb1)
  clear HB0 hb1 k0
  cases my with
  | false =>
    have hR : R = ([], 1) := by rw [ER.out, sealR, ← EMY.out]; rfl
    have HRR := Lib.hid hR; clear hR
    go_wp2_with (fail)
    go_ret2
    exact ⟨_, by rw [HRR.out]; rfl, Lib.hid (by rw [HRR.out]; exact Own.nil_ _ _ _), k1⟩
  | true =>
    by_cases hbig : 512 < n
    · have hR : R = ([], 4) := by rw [ER.out, sealR, ← EMY.out, if_pos rfl, if_neg (by rw [HN.out]; omega)]
      have HRR := Lib.hid hR; clear hR
      have hbig' : (512 : Int) < (n : Int) := by omega
      go_wp2_with (fail)
      go_ret2
      exact ⟨_, by rw [HRR.out]; rfl, Lib.hid (by rw [HRR.out]; exact Own.nil_ _ _ _), k1⟩
    · have hR : R = (headL ⟨k, d, e, q⟩ ++ body ++ tagL key (headL ⟨k, d, e, q⟩ ++ body), 0) := by rw [ER.out, sealR, ← EMY.out, if_pos rfl, if_pos (by rw [HN.out]; omega)]
      have HRR := Lib.hid hR; clear hR ER EMY
      have hsm : (n : Int) ≤ 512 := by omega
      clear hbig
      obtain ⟨⟨c0, c1, c2, c3⟩, _⟩ := HB1.out.cells
      have z1 : w.heap.size + 1 ≤ w1.heap.size := HB1.out.lt
      have lits : ∀ x : UInt8, Hid (OwnB (w1.alloc (.cells #[.int .u8 (k : Int), bv x] 5)) (w.heap.size + 1) (.slice (some ⟨w1.heap.size, 0, none⟩) 2 2) [lo k, x]) ∧ Hid (Bx (w1.alloc (.cells #[.int .u8 (k : Int), bv x] 5)) w.heap.size k e q d) ∧ Below w.heap.size w (w1.alloc (.cells #[.int .u8 (k : Int), bv x] 5)) := by
        intro x
        have hown := OwnB.lit w1 [lo k, x] 2 rfl (by decide)
        simp only [List.map_cons, List.map_nil] at hown
        rw [← ELO.out] at hown
        exact ⟨Lib.hid (Own.low hown z1), Lib.hid (HB1.out.below ((Below.refl _ _).alloc (Nat.le_refl _) _)), k1.alloc k1.size _⟩
      have LITS := Lib.hid lits; clear lits
      have hO1 : OwnB (w1.alloc (.cells #[.int .u8 (k : Int), .int .u8 0] 5)) (w.heap.size + 1) (.slice (some ⟨w1.heap.size, 0, none⟩) 2 2) [lo k, 0] := (LITS.out 0).1.out
      have hB1a : Bx (w1.alloc (.cells #[.int .u8 (k : Int), .int .u8 0] 5)) w.heap.size k e q d := (LITS.out 0).2.1.out
      have o1 := hO1.cell 1 (by simp)
      have f1 := hO1.free 1
      obtain ⟨⟨c0', c1', c2', c3'⟩, _⟩ := hB1a.cells
      clear hO1 hB1a
      cases d with
      | true =>
        go_wp2_with (fail)
        obtain ⟨HOa, HBa, kWa⟩ := LITS.out 1
        clear o1 f1 c0 c1 c2 c3 c0' c1' c2' c3' LITS
        change Hid (OwnB (w1.alloc (.cells #[.int .u8 (k : Int), .int .u8 1] 5)) _ _ _) at HOa
        change Hid (Bx (w1.alloc (.cells #[.int .u8 (k : Int), .int .u8 1] 5)) _ _ _ _ _) at HBa
        change Below _ _ (w1.alloc (.cells #[.int .u8 (k : Int), .int .u8 1] 5)) at kWa
        generalize (w1.alloc (.cells #[.int .u8 (k : Int), .int .u8 1] 5)) = W0 at HOa HBa kWa ⊢
        have sW : w.heap.size + 1 ≤ W0.heap.size := HBa.out.lt
        have hwr := u32_64 he
        have kr0 : Below w.heap.size w W0.drew := below_drewN kWa 1
        clear z1
        go_region_held3 (fun w' => w'.cell? ⟨w.heap.size, 2, none⟩ = some (.int .u32 (e : Int)) ∧ w'.cell? ⟨w.heap.size, 3, none⟩ = some (.int .u64 (q : Int))) (first | exact keepS (by with_reducible assumption) (by with_reducible assumption) | exact ⟨HBa.out.cells.1.2.2.1, HBa.out.cells.1.2.2.2⟩) (first
          | (go_at_call 24; (with_reducible refine (Num_c e 4 _ hue).mono ?_); rintro _ w2 ⟨v2, rfl, ho2, hb2⟩; rw [num4] at ho2; obtain ⟨A2, c2, rfl, _, _, r2, hA2⟩ := OwnB.form ho2; rw [numL_length]; have R2 := Lib.hid r2; clear r2 ho2; have hk2 : Below (w.heap.size + 1) _ w2 := hb2.mono sW; have HO2 : Hid (OwnB w2 (w.heap.size + 1) _ _) := Lib.hid (Own.below (Own.drewN HOa.out 1) hb2); have s2 : w.heap.size + 1 ≤ w2.heap.size := Nat.le_trans sW hb2.size)
          | ((refine step_appB rfl (.tmp 25) (.tmp 29) rfl (w.heap.size + 1) _ _ rfl HO2.out A2 4 c2 (numL e 4) rfl (numL_length _ _) R2.out (by simp) s2 ?_); intro v3 w3 HA3 hk3 hg3; have s3 : w.heap.size + 1 ≤ w3.heap.size := Nat.le_trans s2 hk3.size)
          | (go_at_call 24; (with_reducible refine (Num_c q 8 _ hq).mono ?_); rintro _ w4 ⟨v4, rfl, ho4, hb4⟩; rw [num8] at ho4; obtain ⟨A4, c4, rfl, _, _, r4, hA4⟩ := OwnB.form ho4; rw [numL_length]; have R4 := Lib.hid r4; clear r4 ho4; have hk4 : Below (w.heap.size + 1) _ w4 := hb4.mono s3; have HO4 : Hid (OwnB w4 (w.heap.size + 1) _ _) := Lib.hid (Own.below HA3.out hb4); have s4 : w.heap.size + 1 ≤ w4.heap.size := Nat.le_trans s3 hb4.size)
          | ((refine step_appB rfl (.tmp 30) (.tmp 33) rfl (w.heap.size + 1) _ _ rfl HO4.out A4 8 c4 (numL q 8) rfl (numL_length _ _) R4.out (by simp [numL_length]) s4 ?_); intro v5 w5 HA5 hk5 hg5; have s5 : w.heap.size + 1 ≤ w5.heap.size := Nat.le_trans s4 hk5.size; have kr := (((kr0.trans (hk2.mono (Nat.le_succ _))).trans (hk3.mono (Nat.le_succ _))).trans (hk4.mono (Nat.le_succ _))).trans (hk5.mono (Nat.le_succ _)))
          | ((refine step_appB rfl (.tmp 34) (.tmp 35) rfl (w.heap.size + 1) _ _ rfl HA5.out A n c body rfl HN.out (hr.below kr) (by simp [numL_length]; omega) s5 ?_); intro v6 w6 HA6 hk6 hg6))
        all_goals
          have kz := kr.trans (hk6.mono (Nat.le_succ _))
          obtain ⟨Dt, eD⟩ : ∃ Dt, Dt = headL ⟨k, true, e, q⟩ ++ body := ⟨_, rfl⟩
          have HD6 : Hid (OwnB w6 (w.heap.size + 1) v6 Dt) := by rw [eD]; exact HA6
          have s6 : w.heap.size + 1 ≤ w6.heap.size := Nat.le_trans s5 hk6.size
          have hdl : Dt.length ≤ 526 := by rw [eD, List.length_append, headL_len, HN.out]; omega
          rw [← eD] at HRR
          clear HA6 HA5 HO4 HA3 HO2 hg3 hg5 hg6 R2 R4 hk2 hk3 hk4 hk5 hk6 hA2 hA4 hb2 hb4 kr kr0 HBa HOa kWa eD hwr
          obtain ⟨A6, c6, rfl, p1, p2, p3, _⟩ := OwnB.form HD6.out
          obtain ⟨nt, ent⟩ : ∃ nt, nt = Dt.length := ⟨_, rfl⟩
          rw [← ent] at p1 hdl HD6 ⊢
          have ENT := Lib.hid ent; clear ent
          go_wp2_with (fail)
          have a3 : ∀ x ∈ [((A6, nt, c6) : Option Addr × Nat × Nat)].zip [Dt], x.2.length = x.1.2.1 ∧ Rd w6 x.1.1 (x.2.map bv) ∧ x.1.2.1 ≤ x.1.2.2 ∧ x.1.2.2 ≤ maxLen := by
            intro x hx
            simp only [List.zip_cons_cons, List.zip_nil_right, List.mem_singleton] at hx
            subst hx
            exact ⟨ENT.out.symm, p3, p1, p2⟩
          have r1 := RdS_lit w6 _ _ 22 (by simp only [List.length_cons, List.length_nil]) a3
          simp only [List.map_cons, List.map_nil] at r1
          clear a3
          have k7 := kz.alloc kz.size (.cells #[.slice A6 nt c6] 22)
          have HD7 : Hid (OwnB (w6.alloc (.cells #[.slice A6 nt c6] 22)) (w.heap.size + 1) _ Dt) := Lib.hid (Own.alloc HD6.out _)
          have s7 : w.heap.size + 1 ≤ (w6.alloc (.cells #[.slice A6 nt c6] 22)).heap.size := by simp; omega
          refine (Code_c Ak nk ck key _ 1 1 [Dt] Dt _ HNK.out (hrk.below k7) hck hmk hlk rfl r1 (by omega) (by simp) (by rw [← ENT.out]; omega) (Tab.below HT.out k7 HT.out.1)).mono ?_
          rintro r w8 ⟨rfl, hb8⟩
          have k8 := k7.trans (hb8.mono k7.size)
          have HD8 : Hid (OwnB w8 (w.heap.size + 1) _ Dt) := Lib.hid (Own.below HD7.out hb8)
          have s8 := Nat.le_trans s7 hb8.size
          clear HD7 HD6 r1 k7 kz hb8 s7 p3
          go_wp2_with (first | ((with_reducible refine wpList_putSum w8 rfl (.tmp 9) (.tmp 40) rfl (codeB key Dt) rfl rfl ?_); intro w9 hB hb9; have rt := (Bs.rd hB).take 16; rw [← List.map_take] at rt; have RT := Lib.hid rt; clear rt hB; have k9 := k8.trans (hb9.mono k8.size); have HD9 : Hid (OwnB w9 (w.heap.size + 1) _ Dt) := Lib.hid (Own.below HD8.out hb9); have s9 := Nat.le_trans s8 hb9.size; clear hb9 HD8) | (at_builtin; refine wpList_appB _ rfl (.tmp 41) (.tmp 42) rfl (w.heap.size + 1) _ _ rfl HD9.out (some ⟨w8.heap.size, 0, none⟩) 16 32 (tagL key Dt) rfl (tagL_len _ _) RT.out (by rw [← ENT.out]; omega) s9 ?_; intro v10 w10 ha ga _; have HA10 := Lib.hid ha; clear ha; have k10 := k9.grown ga k9.size (fun k e => by have := (Own.lt HD9.out k e).1; omega); clear ga))
          go_ret2
          exact ⟨_, by rw [HRR.out]; rfl, Lib.hid (by rw [HRR.out]; exact Own.low HA10.out (Nat.le_succ _)), k10⟩
      | false =>
        go_wp2_with (fail)
        obtain ⟨HOa, HBa, kWa⟩ := LITS.out 0
        clear o1 f1 c0 c1 c2 c3 c0' c1' c2' c3' LITS
        change Hid (OwnB (w1.alloc (.cells #[.int .u8 (k : Int), .int .u8 0] 5)) _ _ _) at HOa
        change Hid (Bx (w1.alloc (.cells #[.int .u8 (k : Int), .int .u8 0] 5)) _ _ _ _ _) at HBa
        change Below _ _ (w1.alloc (.cells #[.int .u8 (k : Int), .int .u8 0] 5)) at kWa
        generalize (w1.alloc (.cells #[.int .u8 (k : Int), .int .u8 0] 5)) = W0 at HOa HBa kWa ⊢
        have sW : w.heap.size + 1 ≤ W0.heap.size := HBa.out.lt
        have hwr := u32_64 he
        have kr0 : Below w.heap.size w W0.drew := below_drewN kWa 1
        clear z1
        go_region_held3 (fun w' => w'.cell? ⟨w.heap.size, 2, none⟩ = some (.int .u32 (e : Int)) ∧ w'.cell? ⟨w.heap.size, 3, none⟩ = some (.int .u64 (q : Int))) (first | exact keepS (by with_reducible assumption) (by with_reducible assumption) | exact ⟨HBa.out.cells.1.2.2.1, HBa.out.cells.1.2.2.2⟩) (first
          | (go_at_call 24; (with_reducible refine (Num_c e 4 _ hue).mono ?_); rintro _ w2 ⟨v2, rfl, ho2, hb2⟩; rw [num4] at ho2; obtain ⟨A2, c2, rfl, _, _, r2, hA2⟩ := OwnB.form ho2; rw [numL_length]; have R2 := Lib.hid r2; clear r2 ho2; have hk2 : Below (w.heap.size + 1) _ w2 := hb2.mono sW; have HO2 : Hid (OwnB w2 (w.heap.size + 1) _ _) := Lib.hid (Own.below (Own.drewN HOa.out 1) hb2); have s2 : w.heap.size + 1 ≤ w2.heap.size := Nat.le_trans sW hb2.size)
          | ((refine step_appB rfl (.tmp 25) (.tmp 29) rfl (w.heap.size + 1) _ _ rfl HO2.out A2 4 c2 (numL e 4) rfl (numL_length _ _) R2.out (by simp) s2 ?_); intro v3 w3 HA3 hk3 hg3; have s3 : w.heap.size + 1 ≤ w3.heap.size := Nat.le_trans s2 hk3.size)
          | (go_at_call 24; (with_reducible refine (Num_c q 8 _ hq).mono ?_); rintro _ w4 ⟨v4, rfl, ho4, hb4⟩; rw [num8] at ho4; obtain ⟨A4, c4, rfl, _, _, r4, hA4⟩ := OwnB.form ho4; rw [numL_length]; have R4 := Lib.hid r4; clear r4 ho4; have hk4 : Below (w.heap.size + 1) _ w4 := hb4.mono s3; have HO4 : Hid (OwnB w4 (w.heap.size + 1) _ _) := Lib.hid (Own.below HA3.out hb4); have s4 : w.heap.size + 1 ≤ w4.heap.size := Nat.le_trans s3 hb4.size)
          | ((refine step_appB rfl (.tmp 30) (.tmp 33) rfl (w.heap.size + 1) _ _ rfl HO4.out A4 8 c4 (numL q 8) rfl (numL_length _ _) R4.out (by simp [numL_length]) s4 ?_); intro v5 w5 HA5 hk5 hg5; have s5 : w.heap.size + 1 ≤ w5.heap.size := Nat.le_trans s4 hk5.size; have kr := (((kr0.trans (hk2.mono (Nat.le_succ _))).trans (hk3.mono (Nat.le_succ _))).trans (hk4.mono (Nat.le_succ _))).trans (hk5.mono (Nat.le_succ _)))
          | ((refine step_appB rfl (.tmp 34) (.tmp 35) rfl (w.heap.size + 1) _ _ rfl HA5.out A n c body rfl HN.out (hr.below kr) (by simp [numL_length]; omega) s5 ?_); intro v6 w6 HA6 hk6 hg6))
        all_goals
          have kz := kr.trans (hk6.mono (Nat.le_succ _))
          obtain ⟨Dt, eD⟩ : ∃ Dt, Dt = headL ⟨k, false, e, q⟩ ++ body := ⟨_, rfl⟩
          have HD6 : Hid (OwnB w6 (w.heap.size + 1) v6 Dt) := by rw [eD]; exact HA6
          have s6 : w.heap.size + 1 ≤ w6.heap.size := Nat.le_trans s5 hk6.size
          have hdl : Dt.length ≤ 526 := by rw [eD, List.length_append, headL_len, HN.out]; omega
          rw [← eD] at HRR
          clear HA6 HA5 HO4 HA3 HO2 hg3 hg5 hg6 R2 R4 hk2 hk3 hk4 hk5 hk6 hA2 hA4 hb2 hb4 kr kr0 HBa HOa kWa eD hwr
          obtain ⟨A6, c6, rfl, p1, p2, p3, _⟩ := OwnB.form HD6.out
          obtain ⟨nt, ent⟩ : ∃ nt, nt = Dt.length := ⟨_, rfl⟩
          rw [← ent] at p1 hdl HD6 ⊢
          have ENT := Lib.hid ent; clear ent
          go_wp2_with (fail)
          have a3 : ∀ x ∈ [((A6, nt, c6) : Option Addr × Nat × Nat)].zip [Dt], x.2.length = x.1.2.1 ∧ Rd w6 x.1.1 (x.2.map bv) ∧ x.1.2.1 ≤ x.1.2.2 ∧ x.1.2.2 ≤ maxLen := by
            intro x hx
            simp only [List.zip_cons_cons, List.zip_nil_right, List.mem_singleton] at hx
            subst hx
            exact ⟨ENT.out.symm, p3, p1, p2⟩
          have r1 := RdS_lit w6 _ _ 22 (by simp only [List.length_cons, List.length_nil]) a3
          simp only [List.map_cons, List.map_nil] at r1
          clear a3
          have k7 := kz.alloc kz.size (.cells #[.slice A6 nt c6] 22)
          have HD7 : Hid (OwnB (w6.alloc (.cells #[.slice A6 nt c6] 22)) (w.heap.size + 1) _ Dt) := Lib.hid (Own.alloc HD6.out _)
          have s7 : w.heap.size + 1 ≤ (w6.alloc (.cells #[.slice A6 nt c6] 22)).heap.size := by simp; omega
          refine (Code_c Ak nk ck key _ 1 1 [Dt] Dt _ HNK.out (hrk.below k7) hck hmk hlk rfl r1 (by omega) (by simp) (by rw [← ENT.out]; omega) (Tab.below HT.out k7 HT.out.1)).mono ?_
          rintro r w8 ⟨rfl, hb8⟩
          have k8 := k7.trans (hb8.mono k7.size)
          have HD8 : Hid (OwnB w8 (w.heap.size + 1) _ Dt) := Lib.hid (Own.below HD7.out hb8)
          have s8 := Nat.le_trans s7 hb8.size
          clear HD7 HD6 r1 k7 kz hb8 s7 p3
          go_wp2_with (first | ((with_reducible refine wpList_putSum w8 rfl (.tmp 9) (.tmp 40) rfl (codeB key Dt) rfl rfl ?_); intro w9 hB hb9; have rt := (Bs.rd hB).take 16; rw [← List.map_take] at rt; have RT := Lib.hid rt; clear rt hB; have k9 := k8.trans (hb9.mono k8.size); have HD9 : Hid (OwnB w9 (w.heap.size + 1) _ Dt) := Lib.hid (Own.below HD8.out hb9); have s9 := Nat.le_trans s8 hb9.size; clear hb9 HD8) | (at_builtin; refine wpList_appB _ rfl (.tmp 41) (.tmp 42) rfl (w.heap.size + 1) _ _ rfl HD9.out (some ⟨w8.heap.size, 0, none⟩) 16 32 (tagL key Dt) rfl (tagL_len _ _) RT.out (by rw [← ENT.out]; omega) s9 ?_; intro v10 w10 ha ga _; have HA10 := Lib.hid ha; clear ha; have k10 := k9.grown ga k9.size (fun k e => by have := (Own.lt HD9.out k e).1; omega); clear ga))
          go_ret2
          exact ⟨_, by rw [HRR.out]; rfl, Lib.hid (by rw [HRR.out]; exact Own.low HA10.out (Nat.le_succ _)), k10⟩
end Go.Proofs.YtecmkdoodlpanaaDoor
