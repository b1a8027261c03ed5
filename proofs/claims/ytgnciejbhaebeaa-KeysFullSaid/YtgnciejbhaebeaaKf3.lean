/- What the reference's Encode answers: a batch's bytes in a version, or an error. Conditions: events that can be read; lengths that fit. -/
import Derived.Test.YtgnciejbhaebeaaKf2
import Derived.Test.YtgnciejbhaebeaaRt
namespace Go.Proofs.Ytgnciejbhaebeaa
open Go Go.RowKit

theorem putL_small (f : Bool) (n : Nat) (h : n < 128) : putL f n 1 = [lo n] := by
  cases f
  · show varL n = _
    rw [varL, if_pos h]
  · show numLI n 1 = _
    unfold numLI
    rw [if_pos (by decide)]
    simp [numL]
theorem lo_bv {n : Nat} (h : n < 256) : Value.int .u8 (n : Int) = bv (lo n) := by unfold bv; rw [lo_nat, Nat.mod_eq_of_lt h]
theorem u8_wrap {n : Nat} (h : n < 256) : IntKind.u8.wrap (n : Int) = (n : Int) := by
  unfold IntKind.wrap
  simp [IntKind.bits, IntKind.signed]
  omega

set_option maxRecDepth 100000 in
set_option maxHeartbeats 4000000 in
theorem refEncode_c (ok : Nat → Prop) (ver : Int) (base : Nat) (A : Option Addr) (n c : Nat) (ds : List EvV) (es : List Ev) (w : World) (hu : U64 base) (hn : es.length = n) (hr : EvsR ok w A ds es) (hl : n ≤ 140737488355328) :
    Calls Try.prog 20 #[.int .i64 ver, .int .u64 base, .slice A n c] w fun r w' => ∃ v, r = .returned (.tuple #[v, .int .i64 ((encE ver base es).2 : Int)]) ∧ OwnB w' w.heap.size v (encE ver base es).1 ∧ Below w.heap.size w w' := by
  have HN := Lib.hid hn; clear hn
  obtain ⟨L, er, eR⟩ : ∃ L er, encE ver base es = (L, er) := ⟨_, _, rfl⟩
  rw [eR]
  have ER := Lib.hid eR; clear eR
  show Calls _ _ _ _ fun r w' => ∃ v, r = .returned (.tuple #[v, .int .i64 (er : Int)]) ∧ OwnB w' w.heap.size v L ∧ Below w.heap.size w w'
  rcases Int.lt_or_le ver 1 with v1 | v1
  · have hR : encE ver base es = ([], 1) := by rw [encE, if_pos (.inl v1)]
    rw [ER.out] at hR
    injection hR with r1 r2
    subst r1 r2
    go_enter Try.func20, Try.ntmps20
    go_wp2_with (fail)
    go_ret2
    exact ⟨_, rfl, Own.nil_ _ _ _, Below.refl _ _⟩
  rcases Int.lt_or_le 3 ver with v3 | v3
  · have hR : encE ver base es = ([], 1) := by rw [encE, if_pos (.inr (.inl v3))]
    rw [ER.out] at hR
    injection hR with r1 r2
    subst r1 r2
    go_enter Try.func20, Try.ntmps20
    go_wp2_with (fail)
    go_ret2
    exact ⟨_, rfl, Own.nil_ _ _ _, Below.refl _ _⟩
  rcases Nat.eq_zero_or_pos n with h0 | h0
  · have hR : encE ver base es = ([], 1) := by rw [encE, if_pos (.inr (.inr (.inl (List.eq_nil_of_length_eq_zero (HN.out.trans h0)))))]
    rw [ER.out] at hR
    injection hR with r1 r2
    subst r1 r2 h0
    go_enter Try.func20, Try.ntmps20
    go_wp2_with (fail)
    go_ret2
    exact ⟨_, rfl, Own.nil_ _ _ _, Below.refl _ _⟩
  have hne : es ≠ [] := by intro e; have := HN.out; rw [e] at this; simp at this; omega
  have HNE := Lib.hid hne; clear hne
  have d1 : decide (ver < 1) = false := decide_eq_false (by omega)
  have d2 : decide (3 < ver) = false := decide_eq_false (by omega)
  have d3 : ((n : Int) == 0) = false := by rw [beq_eq_false_iff_ne]; omega
  have V1 := Lib.hid v1; have V3 := Lib.hid v3
  clear v1 v3
  have HR := Lib.hid hr; clear hr
  go_enter Try.func20, Try.ntmps20
  go_wp2_with (fail)
  go_loopw [24] (fun i wr => ∃ (k : Nat), k ≤ n ∧ i = .int .i64 k ∧ Hid ((es.take k).all Ev.may = true) ∧ Below w.heap.size w wr) (fun i _ => n - (intOf i).toNat)
  case atStart => exact ⟨0, Nat.zero_le _, rfl, Lib.hid rfl, Below.refl _ _⟩
  case round =>
    obtain ⟨k, hk, rfl, HA, kb⟩ := hrel
    rcases Nat.lt_or_ge k n with hlt | hge
    · obtain ⟨e, b1, o1, At, m, cm, ee, rfl, hb1, -, tt, c0, ca, cb, cc, cd⟩ := HR.out.at_ k (by rw [HN.out]; exact hlt)
      have hmay : e.may = mayB e.k e.x e.y e.b m := by rw [Ev.may, tt.1]
      have hnx : (es.take (k + 1)).all Ev.may = ((es.take k).all Ev.may && mayB e.k e.x e.y e.b m) := by
        rw [List.take_succ_eq_append_getElem (by rw [HN.out]; exact hlt), List.all_append, ← ee, ← hmay]
        simp
      rw [HA.out, Bool.true_and] at hnx
      have HNX := Lib.hid hnx; clear hnx hmay ee tt HA
      obtain ⟨z0, t, z2, z3, z4⟩ := e
      simp only at c0 ca cb cc cd HNX
      rw [← kb.cell (p := ⟨b1, _, none⟩) hb1] at c0 ca cb cc cd
      have hlt' : (k : Int) < (n : Int) := by omega
      go_wp2_with (fail)
      refine (refMay_c z0 z2 z3 z4 At m cm wr).mono ?_
      rintro r w1 ⟨rfl, hb⟩
      have kb1 := kb.trans (hb.mono kb.size)
      clear c0 ca cb cc cd
      obtain ⟨M, eM⟩ : ∃ M, M = mayB z0 z2 z3 z4 m := ⟨_, rfl⟩
      rw [← eM]
      rw [← eM] at HNX
      clear eM
      cases M
      · have hall : es.all Ev.may = false := by
          cases h : es.all Ev.may
          · rfl
          · have := all_take h (k + 1)
            rw [HNX.out] at this; cases this
        have hR : encE ver base es = ([], 1) := by rw [encE, if_pos (.inr (.inr (.inr hall)))]
        rw [ER.out] at hR
        injection hR with r1 r2
        subst r1 r2
        clear hall
        go_wp2_with (fail)
        go_ret2
        exact ⟨_, rfl, Own.nil_ _ _ _, kb1⟩
      · go_wp2_with (fail)
        go_roundw
        case rel => exact ⟨k + 1, by omega, by go_num, HNX, kb1⟩
        case measure => simp [intOf]; omega
    · obtain rfl : n = k := by omega
      have hall : es.all Ev.may = true := by have := HA.out; rwa [← HN.out, List.take_length] at this
      have HALL := Lib.hid hall
      have hnb : ¬ (ver < 1 ∨ 3 < ver ∨ es = [] ∨ es.all Ev.may = false) := by
        have := V1.out; have := V3.out
        rintro (h | h | h | h)
        · omega
        · omega
        · exact HNE.out h
        · rw [hall] at h; cases h
      clear hall HA
      by_cases hbig : 16 < n
      · have hR : encE ver base es = ([], 4) := by rw [encE, if_neg hnb, if_pos (by rw [HN.out]; exact hbig)]
        rw [ER.out] at hR
        injection hR with r1 r2
        subst r1 r2
        have hbig' : (16 : Int) < (n : Int) := by omega
        clear hnb
        go_wp2_with (fail)
        go_ret2
        exact ⟨_, rfl, Own.nil_ _ _ _, kb⟩
      · have hR : encE ver base es = (encL (decide (ver = 1)) base es, 0) := by rw [encE, if_neg hnb, if_neg (by rw [HN.out]; exact hbig)]
        rw [ER.out] at hR
        injection hR with r1 r2
        subst r2
        have hsm : n ≤ 16 := by omega
        have hsm' : (n : Int) ≤ 16 := by omega
        obtain ⟨f, ef⟩ : ∃ f, f = decide (ver = 1) := ⟨_, rfl⟩
        rw [← ef] at r1
        have R1 := Lib.hid r1; clear r1
        have EF := Lib.hid ef; clear ef
        have hu1 : U64 n := u64_small (by omega)
        have wn := u64_wrap hu1
        clear hbig hnb
        go_wp2_with (fail)
        refine (lay24_c ver base 8 wr hu).mono ?_
        rintro r w3 ⟨v3, rfl, ho3, hb3⟩
        rw [← EF.out] at ho3
        have k3 := kb.trans (hb3.mono kb.size)
        have HO3 := Lib.hid (Own.low ho3 kb.size)
        clear ho3 hb3
        go_wp2_with (fail)
        refine (lay24_c ver n 1 w3 hu1).mono ?_
        rintro r w5 ⟨v5, rfl, ho5, hb5⟩
        rw [← EF.out] at ho5
        obtain ⟨A5, c5, rfl, _, _, r5, _⟩ := OwnB.form ho5
        have k5 := k3.trans (hb5.mono k3.size)
        have HO5 : Hid (OwnB w5 w.heap.size v3 _) := Lib.hid (Own.below HO3.out hb5)
        have R5 := Lib.hid r5
        have l0 := putL_le f base 8 hu
        have l1 := putL_le f n 1 hu1
        clear ho5 hb5 r5 HO3
        go_wp2_with (first | (at_builtin; refine wpList_appB _ rfl (.tmp 40) (.tmp 45) rfl w.heap.size _ _ rfl HO5.out A5 _ c5 (putL f n 1) rfl rfl R5.out (by omega) k5.size ?_; intro v7 w7 h7 hg7 _; have HO7 := Lib.hid h7; clear h7; have k7 := k5.grown hg7 k5.size (fun q e => (Own.lt HO5.out q e).1)))
        have HO : Hid (OwnB w7 w.heap.size v7 (preL f base n (es.take 0))) := by
          have : preL f base n (es.take 0) = putL f base 8 ++ putL f n 1 := by rw [List.take_zero, preL]; simp [evsL]
          rw [this]; exact HO7
        clear HO7 HO5 R5 hg7 kb k3 k5 l0 l1
        go_loopw [9, 49] (fun vb i wr => ∃ (k : Nat), k ≤ n ∧ i = .int .i64 k ∧ Hid (OwnB wr w.heap.size vb (preL f base n (es.take k))) ∧ Below w.heap.size w wr) (fun _ i _ => n - (intOf i).toNat)
        case atStart => exact ⟨0, Nat.zero_le _, rfl, HO, k7⟩
        case round =>
          clear HO k7
          obtain ⟨k, hk, rfl, HO, kb⟩ := hrel
          have hpl := preL_le f base n (es.take k) hu hsm (all_take HALL.out k) (by rw [List.length_take]; omega)
          obtain ⟨P, eP⟩ : ∃ P, P = preL f base n (es.take k) := ⟨_, rfl⟩
          rw [← eP] at HO hpl
          have EP := Lib.hid eP; clear eP
          rcases Nat.lt_or_ge k n with hlt | hge
          · obtain ⟨e, b1, o1, At, m, cm, ee, rfl, hb1, -, tt, c0, ca, cb, cc, cd⟩ := HR.out.at_ k (by rw [HN.out]; exact hlt)
            have hmay : e.may = true := by
              have := HALL.out
              rw [List.all_eq_true] at this
              rw [ee]
              exact this _ (List.getElem_mem _)
            obtain ⟨q0, q1, q2, q3, q4, q5, q6, q7⟩ := may_bounds hmay
            have hnext : preL f base n (es.take (k + 1)) = P ++ evL f e := by
              rw [EP.out, ee, preL, preL, evsL_take f es k (by rw [HN.out]; exact hlt)]; simp only [List.append_assoc]
            have HX := Lib.hid hnext; clear hnext ee hmay
            obtain ⟨t1, t2, t3, t4, -, t5⟩ := tt
            obtain ⟨z0, t, z2, z3, z4⟩ := e
            simp only at c0 ca cb cc cd t1 t2 q0 q1 q2 q3 q4 q5 q6 q7
            obtain ⟨K0, rfl⟩ : ∃ K0 : Nat, z0 = (K0 : Int) := ⟨z0.toNat, by omega⟩
            obtain ⟨X, rfl⟩ : ∃ X : Nat, z2 = (X : Int) := ⟨z2.toNat, by omega⟩
            obtain ⟨Y, rfl⟩ : ∃ Y : Nat, z3 = (Y : Int) := ⟨z3.toNat, by omega⟩
            obtain ⟨Z, rfl⟩ : ∃ Z : Nat, z4 = (Z : Int) := ⟨z4.toNat, by omega⟩
            rw [t1] at q1
            have T1 := Lib.hid t1; clear t1
            have T2 := Lib.hid t2; clear t2
            have CC := Lib.hid (And.intro c0 (And.intro ca (And.intro cb (And.intro cc cd))))
            have uZ : U64 Z := u64_small (by omega)
            have bK := u8_wrap (n := K0) (by omega)
            have bX := u8_wrap (n := X) (by omega)
            have bY := u8_wrap (n := Y) (by omega)
            have bM := u8_wrap (n := m) (by omega)
            have wZ := u64_wrap uZ
            have KV := Lib.hid (lo_bv (n := K0) (by omega))
            have XV := Lib.hid (lo_bv (n := X) (by omega))
            have YV := Lib.hid (lo_bv (n := Y) (by omega))
            have MV := Lib.hid (lo_bv (n := m) (by omega))
            have hlt' : (k : Int) < (n : Int) := by omega
            rw [← kb.cell (p := ⟨b1, _, none⟩) hb1] at c0 ca cb cc cd
            have EVL : Hid (evL f ⟨(K0 : Int), t, (X : Int), (Y : Int), (Z : Int)⟩ = [lo K0] ++ (if (K0 : Int) = 1 ∨ (K0 : Int) = 2 then [lo m] ++ t else [lo X, lo Y] ++ (if (K0 : Int) = 3 then putL f Z 1 else []))) := Lib.hid (by
              unfold evL
              simp only [Int.toNat_natCast, T1.out]
              rw [putL_small f K0 (by omega), putL_small f m (by omega), putL_small f X (by omega), putL_small f Y (by omega)]
              rfl)
            obtain ⟨P1, eP1⟩ : ∃ P1, P1 = P ++ [lo K0] := ⟨_, rfl⟩
            have hp1 : P1.length ≤ 2001 := by rw [eP1, List.length_append]; simp; omega
            have hnx : preL f base n (es.take (k + 1)) = P1 ++ (if (K0 : Int) = 1 ∨ (K0 : Int) = 2 then [lo m] ++ t else [lo X, lo Y] ++ (if (K0 : Int) = 3 then putL f Z 1 else [])) := by
              rw [HX.out, EVL.out, eP1]; simp only [List.append_assoc]
            have HNX := Lib.hid hnx
            have lZ := putL_le f Z 1 uZ
            clear hnx EVL HX
            have al := kb.alloc kb.size (.cells #[.int .u8 (K0 : Int)] 5)
            by_cases hK1 : K0 = 1
            · skip
              have e1 : ((K0 : Int) == 1) = true := by rw [beq_iff_eq]; omega
              have hnx := HNX.out
              rw [if_pos (by omega)] at hnx
              have HN2 := Lib.hid hnx; clear hnx HNX
              clear hK1
              go_wp2_with (first
                | (at_builtin; refine wpList_appB1 _ rfl (.tmp 52) (.tmp 59) rfl w.heap.size _ _ rfl HO.out _ rfl (lo K0) KV.out (by omega) kb.size ?_; intro v1 w1 h1 hg1 _; have H1 : Hid (OwnB w1 w.heap.size v1 P1) := Lib.hid (by rw [eP1]; exact h1); clear h1; have k1 := al.grown hg1 al.size (fun q e => (Own.lt HO.out q e).1); obtain ⟨c0, ca, cb, cc, cd⟩ := CC.out; rw [← k1.cell (p := ⟨b1, _, none⟩) hb1] at c0 ca cb cc cd; have al1 := k1.alloc k1.size (.cells #[.int .u8 (m : Int)] 5); clear hg1)
                | (at_builtin; refine wpList_appB1 _ rfl (.tmp 69) (.tmp 77) rfl w.heap.size _ _ rfl H1.out _ rfl (lo m) MV.out (by omega) k1.size ?_; intro v2 w2 h2 hg2 _; have H2 := Lib.hid h2; clear h2; have k2 := al1.grown hg2 al1.size (fun q e => (Own.lt H1.out q e).1); obtain ⟨c0, ca, cb, cc, cd⟩ := CC.out; rw [← k2.cell (p := ⟨b1, _, none⟩) hb1] at c0 ca cb cc cd; clear hg2)
                | (at_builtin; refine wpList_appB _ rfl (.tmp 79) (.tmp 84) rfl w.heap.size _ _ rfl H2.out At m cm t rfl T1.out (T2.out.below k2) (by rw [List.length_append, List.length_singleton]; omega) k2.size ?_; intro vd wd hd hgd _; have HD := Lib.hid (show OwnB wd w.heap.size vd (P1 ++ [lo m] ++ t) from hd); clear hd; have kd := k2.grown hgd k2.size (fun q e => (Own.lt H2.out q e).1); clear hgd))
              have HD2 : Hid (OwnB wd w.heap.size vd (P1 ++ ([lo m] ++ t))) := Lib.hid (by rw [← List.append_assoc]; exact HD.out)
              clear HD H1 H2 MV KV XV YV
              have hfin : OwnB wd w.heap.size vd (preL f base n (es.take (k + 1))) := by
                rw [HN2.out]; exact HD2.out
              have HFIN := Lib.hid hfin; clear hfin
              go_roundw
              case rel => exact ⟨k + 1, by omega, by go_num, HFIN, kd⟩
              case measure => simp [intOf]; omega
            have f1 : ((K0 : Int) == 1) = false := by rw [beq_eq_false_iff_ne]; omega
            by_cases hK2 : K0 = 2
            · skip
              have e2 : ((K0 : Int) == 2) = true := by rw [beq_iff_eq]; omega
              have hnx := HNX.out
              rw [if_pos (by omega)] at hnx
              have HN2 := Lib.hid hnx; clear hnx HNX
              clear hK1 hK2
              go_wp2_with (first
                | (at_builtin; refine wpList_appB1 _ rfl (.tmp 52) (.tmp 59) rfl w.heap.size _ _ rfl HO.out _ rfl (lo K0) KV.out (by omega) kb.size ?_; intro v1 w1 h1 hg1 _; have H1 : Hid (OwnB w1 w.heap.size v1 P1) := Lib.hid (by rw [eP1]; exact h1); clear h1; have k1 := al.grown hg1 al.size (fun q e => (Own.lt HO.out q e).1); obtain ⟨c0, ca, cb, cc, cd⟩ := CC.out; rw [← k1.cell (p := ⟨b1, _, none⟩) hb1] at c0 ca cb cc cd; have al1 := k1.alloc k1.size (.cells #[.int .u8 (m : Int)] 5); clear hg1)
                | (at_builtin; refine wpList_appB1 _ rfl (.tmp 69) (.tmp 77) rfl w.heap.size _ _ rfl H1.out _ rfl (lo m) MV.out (by omega) k1.size ?_; intro v2 w2 h2 hg2 _; have H2 := Lib.hid h2; clear h2; have k2 := al1.grown hg2 al1.size (fun q e => (Own.lt H1.out q e).1); obtain ⟨c0, ca, cb, cc, cd⟩ := CC.out; rw [← k2.cell (p := ⟨b1, _, none⟩) hb1] at c0 ca cb cc cd; clear hg2)
                | (at_builtin; refine wpList_appB _ rfl (.tmp 79) (.tmp 84) rfl w.heap.size _ _ rfl H2.out At m cm t rfl T1.out (T2.out.below k2) (by rw [List.length_append, List.length_singleton]; omega) k2.size ?_; intro vd wd hd hgd _; have HD := Lib.hid (show OwnB wd w.heap.size vd (P1 ++ [lo m] ++ t) from hd); clear hd; have kd := k2.grown hgd k2.size (fun q e => (Own.lt H2.out q e).1); clear hgd))
              have HD2 : Hid (OwnB wd w.heap.size vd (P1 ++ ([lo m] ++ t))) := Lib.hid (by rw [← List.append_assoc]; exact HD.out)
              clear HD H1 H2 MV KV XV YV
              have hfin : OwnB wd w.heap.size vd (preL f base n (es.take (k + 1))) := by
                rw [HN2.out]; exact HD2.out
              have HFIN := Lib.hid hfin; clear hfin
              go_roundw
              case rel => exact ⟨k + 1, by omega, by go_num, HFIN, kd⟩
              case measure => simp [intOf]; omega
            have f2 : ((K0 : Int) == 2) = false := by rw [beq_eq_false_iff_ne]; omega
            by_cases hK3 : K0 = 3
            · skip
              have e3 : ((K0 : Int) == 3) = true := by rw [beq_iff_eq]; omega
              have hnx := HNX.out
              rw [if_neg (by omega), if_pos (by omega)] at hnx
              have HN2 := Lib.hid hnx; clear hnx HNX
              clear hK1 hK2 hK3
              go_wp2_with ((at_builtin; refine wpList_appB1 _ rfl (.tmp 52) (.tmp 59) rfl w.heap.size _ _ rfl HO.out _ rfl (lo K0) KV.out (by omega) kb.size ?_; intro v1 w1 h1 hg1 _; have H1 : Hid (OwnB w1 w.heap.size v1 P1) := Lib.hid (by rw [eP1]; exact h1); clear h1; have k1 := al.grown hg1 al.size (fun q e => (Own.lt HO.out q e).1); obtain ⟨c0, ca, cb, cc, cd⟩ := CC.out; rw [← k1.cell (p := ⟨b1, _, none⟩) hb1] at c0 ca cb cc cd; have al1 := k1.alloc k1.size (.cells #[.int .u8 (m : Int)] 5); clear hg1))
              have kk := below_drewN k1 1
              refine wp_region_rt 132 14 [Rl.eq (v1), Rl.eq (.slice (some ⟨b1, o1, none⟩) n c), Rl.eq (.int .i64 (k : Int)), Rl.eq (.pointer (some ⟨b1, o1 + k * 5, none⟩)), Rl.eq (.pointer (some ⟨b1, o1 + k * 5 + 2, none⟩)), Rl.eq (.int .i64 (X : Int)), Rl.eq (.int .u8 (X : Int)), Rl.eq (.slice (some ⟨b1, o1, none⟩) n c), Rl.eq (.int .i64 (k : Int)), Rl.eq (.pointer (some ⟨b1, o1 + k * 5, none⟩)), Rl.eq (.pointer (some ⟨b1, o1 + k * 5 + 3, none⟩)), Rl.eq (.int .i64 (Y : Int)), Rl.eq (.int .u8 (Y : Int)), Rl.rdb 2 [lo X, lo Y]] [88, 89, 90, 91, 92, 93, 94, 95, 96, 97, 98, 99, 100, 101, 102, 9] (by kernel_rfl) rfl (by kernel_rfl) (by kernel_rfl) (by decide) (by kernel_rfl) (by kernel_rfl) ?_ ?_
              · simp only [List.take_succ_cons, List.take_zero]
                repeat (first | exact AllFrom.nil_ | (refine AllFrom.cons_ (by rfl) ?_ ?_; rotate_left))
                · intro f w' g hF hD
                  have h9 : f 9 = v1 := hF 9 (by kernel_rfl)
                  rw [if_pos (wanted_none rfl)]
                  clear hF hD
                  exact gives_val (by simp only [execOp, evF, h9]; first | rfl | go_simp) ⟨Gr.refl _, rfl⟩
                · intro f w' g hF hD
                  have h2 : f 2 = .slice (some ⟨b1, o1, none⟩) n c := hF 2 (by kernel_rfl)
                  rw [if_pos (wanted_none rfl)]
                  clear hF hD
                  exact gives_val (by simp only [execOp, evF, h2]; first | rfl | go_simp) ⟨Gr.refl _, rfl⟩
                · intro f w' g hF hD
                  have h10 : f 10 = .int .i64 (k : Int) := hF 10 (by kernel_rfl)
                  rw [if_pos (wanted_none rfl)]
                  clear hF hD
                  exact gives_val (by simp only [execOp, evF, h10]; first | rfl | go_simp) ⟨Gr.refl _, rfl⟩
                · intro f w' g hF hD
                  have h89 : f 89 = (.slice (some ⟨b1, o1, none⟩) n c) := hD 1 89 (by kernel_rfl) rfl
                  have h90 : f 90 = (.int .i64 (k : Int)) := hD 2 90 (by kernel_rfl) rfl
                  rw [if_pos (wanted_none rfl)]
                  clear hF hD
                  exact gives_val (by simp only [execOp, evF, h89, h90]; first | rfl | go_simp) ⟨Gr.refl _, rfl⟩
                · intro f w' g hF hD
                  have h91 : f 91 = (.pointer (some ⟨b1, o1 + k * 5, none⟩)) := hD 3 91 (by kernel_rfl) rfl
                  rw [if_pos (wanted_none rfl)]
                  clear hF hD
                  exact gives_val (by simp only [execOp, evF, h91]; first | rfl | go_simp) ⟨Gr.refl _, rfl⟩
                · intro f w' g hF hD
                  have h92 : f 92 = (.pointer (some ⟨b1, o1 + k * 5 + 2, none⟩)) := hD 4 92 (by kernel_rfl) rfl
                  rw [if_pos (wanted_none rfl)]
                  clear hF hD
                  have cl : w'.cell? ⟨b1, o1 + k * 5 + 2, none⟩ = some (.int .i64 (X : Int)) := ((kk.trans (g.mono kk.size)).cell (p := ⟨b1, _, none⟩) hb1).trans CC.out.2.2.1
                  exact gives_val (by simp only [execOp, evF, h92]; go_simp) ⟨Gr.refl _, rfl⟩
                · intro f w' g hF hD
                  have h93 : f 93 = (.int .i64 (X : Int)) := hD 5 93 (by kernel_rfl) rfl
                  rw [if_pos (wanted_none rfl)]
                  clear hF hD
                  exact gives_val (by simp only [execOp, evF, h93]; first | rfl | go_simp) ⟨Gr.refl _, rfl⟩
                · intro f w' g hF hD
                  have h2 : f 2 = .slice (some ⟨b1, o1, none⟩) n c := hF 2 (by kernel_rfl)
                  rw [if_pos (wanted_none rfl)]
                  clear hF hD
                  exact gives_val (by simp only [execOp, evF, h2]; first | rfl | go_simp) ⟨Gr.refl _, rfl⟩
                · intro f w' g hF hD
                  have h10 : f 10 = .int .i64 (k : Int) := hF 10 (by kernel_rfl)
                  rw [if_pos (wanted_none rfl)]
                  clear hF hD
                  exact gives_val (by simp only [execOp, evF, h10]; first | rfl | go_simp) ⟨Gr.refl _, rfl⟩
                · intro f w' g hF hD
                  have h95 : f 95 = (.slice (some ⟨b1, o1, none⟩) n c) := hD 7 95 (by kernel_rfl) rfl
                  have h96 : f 96 = (.int .i64 (k : Int)) := hD 8 96 (by kernel_rfl) rfl
                  rw [if_pos (wanted_none rfl)]
                  clear hF hD
                  exact gives_val (by simp only [execOp, evF, h95, h96]; first | rfl | go_simp) ⟨Gr.refl _, rfl⟩
                · intro f w' g hF hD
                  have h97 : f 97 = (.pointer (some ⟨b1, o1 + k * 5, none⟩)) := hD 9 97 (by kernel_rfl) rfl
                  rw [if_pos (wanted_none rfl)]
                  clear hF hD
                  exact gives_val (by simp only [execOp, evF, h97]; first | rfl | go_simp) ⟨Gr.refl _, rfl⟩
                · intro f w' g hF hD
                  have h98 : f 98 = (.pointer (some ⟨b1, o1 + k * 5 + 3, none⟩)) := hD 10 98 (by kernel_rfl) rfl
                  rw [if_pos (wanted_none rfl)]
                  clear hF hD
                  have cl : w'.cell? ⟨b1, o1 + k * 5 + 3, none⟩ = some (.int .i64 (Y : Int)) := ((kk.trans (g.mono kk.size)).cell (p := ⟨b1, _, none⟩) hb1).trans CC.out.2.2.2.1
                  exact gives_val (by simp only [execOp, evF, h98]; go_simp) ⟨Gr.refl _, rfl⟩
                · intro f w' g hF hD
                  have h99 : f 99 = (.int .i64 (Y : Int)) := hD 11 99 (by kernel_rfl) rfl
                  rw [if_pos (wanted_none rfl)]
                  clear hF hD
                  exact gives_val (by simp only [execOp, evF, h99]; first | rfl | go_simp) ⟨Gr.refl _, rfl⟩
                · intro f w' g hF hD
                  have h94 : f 94 = (.int .u8 (X : Int)) := hD 6 94 (by kernel_rfl) rfl
                  have h100 : f 100 = (.int .u8 (Y : Int)) := hD 12 100 (by kernel_rfl) rfl
                  rw [if_pos (wanted_none rfl)]
                  clear hF hD
                  have r1 := rdb_lit w' [lo X, lo Y] 2 5
                  simp only [List.map_cons, List.map_nil] at r1
                  rw [← XV.out, ← YV.out] at r1
                  exact gives_val (by simp only [execOp, evF, h94, h100]; first | rfl | go_simp) ⟨(Below.refl _ _).alloc (Nat.le_refl _) _, r1⟩
              intro f' w' g hD
              have h0 : f' 88 = v1 := hD 0 88 (by decide) rfl
              obtain ⟨g1, h13, r13⟩ : ∃ g, f' 101 = .slice (some ⟨g, 0, none⟩) 2 2 ∧ Rd w' (some ⟨g, 0, none⟩) ([lo X, lo Y].map bv) := hD 13 101 (by decide) rfl
              have kw := kk.trans (g.mono kk.size)
              have HW : Hid (OwnB w' w.heap.size v1 P1) := Lib.hid (Own.below (Own.drewN H1.out 1) g)
              clear hD g H1
              simp only [List.drop_succ_cons, List.drop_zero, putAll, List.setIfInBounds_toArray, List.set_cons_zero, List.set_cons_succ, h0, h13]
              refine wpList_appB _ rfl (.tmp 88) (.tmp 101) rfl w.heap.size _ _ rfl HW.out _ 2 2 [lo X, lo Y] rfl rfl r13 (by omega) kw.size ?_
              intro vd wd hd hgd _
              have HD := Lib.hid hd; clear hd
              have kd := kw.grown hgd kw.size (fun q e => (Own.lt HW.out q e).1)
              clear hgd HW r13
              have ld : (P1 ++ [lo X, lo Y]).length ≤ 2003 := by rw [List.length_append]; simp; omega
              obtain ⟨c0, ca, cb, cc, cd⟩ := CC.out
              rw [← kd.cell (p := ⟨b1, _, none⟩) hb1] at c0 ca cb cc cd
              go_wp2_with (fail)
              refine (lay24_c ver Z 1 wd uZ).mono ?_
              rintro r wb ⟨vb, rfl, hob, hbb⟩
              rw [← EF.out] at hob
              obtain ⟨Ab, cb', rfl, _, _, rb, _⟩ := OwnB.form hob
              have HB : Hid (OwnB wb w.heap.size vd (P1 ++ [lo X, lo Y])) := Lib.hid (Own.below HD.out hbb)
              have RB := Lib.hid rb
              have kb2 := kd.trans (hbb.mono kd.size)
              clear hob hbb rb HD c0 ca cb cc cd
              go_wp2_with (first
                | (at_builtin; refine wpList_appB _ rfl (.tmp 103) (.tmp 111) rfl w.heap.size _ _ rfl HB.out Ab _ cb' (putL f Z 1) rfl rfl RB.out (by omega) kb2.size ?_; intro ve we he hge' _; have HE := Lib.hid he; clear he; have ke := kb2.grown hge' kb2.size (fun q e => (Own.lt HB.out q e).1); clear hge'))
              have HE2 : Hid (OwnB we w.heap.size ve (P1 ++ ([lo X, lo Y] ++ putL f Z 1))) := Lib.hid (by rw [← List.append_assoc]; exact HE.out)
              have hfin : OwnB we w.heap.size ve (preL f base n (es.take (k + 1))) := by
                rw [HN2.out]; exact HE2.out
              have HFIN := Lib.hid hfin; clear hfin
              go_roundw
              case rel => exact ⟨k + 1, by omega, by go_num, HFIN, ke⟩
              case measure => simp [intOf]; omega
            have f3 : ((K0 : Int) == 3) = false := by rw [beq_eq_false_iff_ne]; omega
            have hK4 : K0 = 4 := by omega
            have e4 : ((K0 : Int) == 4) = true := by rw [beq_iff_eq]; omega
            have hnx := HNX.out
            rw [if_neg (by omega), if_neg (by omega)] at hnx
            have HN2 := Lib.hid hnx; clear hnx HNX
            clear hK1 hK2 hK3 hK4
            go_wp2_with ((at_builtin; refine wpList_appB1 _ rfl (.tmp 52) (.tmp 59) rfl w.heap.size _ _ rfl HO.out _ rfl (lo K0) KV.out (by omega) kb.size ?_; intro v1 w1 h1 hg1 _; have H1 : Hid (OwnB w1 w.heap.size v1 P1) := Lib.hid (by rw [eP1]; exact h1); clear h1; have k1 := al.grown hg1 al.size (fun q e => (Own.lt HO.out q e).1); obtain ⟨c0, ca, cb, cc, cd⟩ := CC.out; rw [← k1.cell (p := ⟨b1, _, none⟩) hb1] at c0 ca cb cc cd; have al1 := k1.alloc k1.size (.cells #[.int .u8 (m : Int)] 5); clear hg1))
            have kk := below_drewN k1 1
            refine wp_region_rt 132 14 [Rl.eq (v1), Rl.eq (.slice (some ⟨b1, o1, none⟩) n c), Rl.eq (.int .i64 (k : Int)), Rl.eq (.pointer (some ⟨b1, o1 + k * 5, none⟩)), Rl.eq (.pointer (some ⟨b1, o1 + k * 5 + 2, none⟩)), Rl.eq (.int .i64 (X : Int)), Rl.eq (.int .u8 (X : Int)), Rl.eq (.slice (some ⟨b1, o1, none⟩) n c), Rl.eq (.int .i64 (k : Int)), Rl.eq (.pointer (some ⟨b1, o1 + k * 5, none⟩)), Rl.eq (.pointer (some ⟨b1, o1 + k * 5 + 3, none⟩)), Rl.eq (.int .i64 (Y : Int)), Rl.eq (.int .u8 (Y : Int)), Rl.rdb 2 [lo X, lo Y]] [115, 116, 117, 118, 119, 120, 121, 122, 123, 124, 125, 126, 127, 128, 129, 9] (by kernel_rfl) rfl (by kernel_rfl) (by kernel_rfl) (by decide) (by kernel_rfl) (by kernel_rfl) ?_ ?_
            · simp only [List.take_succ_cons, List.take_zero]
              repeat (first | exact AllFrom.nil_ | (refine AllFrom.cons_ (by rfl) ?_ ?_; rotate_left))
              · intro f w' g hF hD
                have h9 : f 9 = v1 := hF 9 (by kernel_rfl)
                rw [if_pos (wanted_none rfl)]
                clear hF hD
                exact gives_val (by simp only [execOp, evF, h9]; first | rfl | go_simp) ⟨Gr.refl _, rfl⟩
              · intro f w' g hF hD
                have h2 : f 2 = .slice (some ⟨b1, o1, none⟩) n c := hF 2 (by kernel_rfl)
                rw [if_pos (wanted_none rfl)]
                clear hF hD
                exact gives_val (by simp only [execOp, evF, h2]; first | rfl | go_simp) ⟨Gr.refl _, rfl⟩
              · intro f w' g hF hD
                have h10 : f 10 = .int .i64 (k : Int) := hF 10 (by kernel_rfl)
                rw [if_pos (wanted_none rfl)]
                clear hF hD
                exact gives_val (by simp only [execOp, evF, h10]; first | rfl | go_simp) ⟨Gr.refl _, rfl⟩
              · intro f w' g hF hD
                have h116 : f 116 = (.slice (some ⟨b1, o1, none⟩) n c) := hD 1 116 (by kernel_rfl) rfl
                have h117 : f 117 = (.int .i64 (k : Int)) := hD 2 117 (by kernel_rfl) rfl
                rw [if_pos (wanted_none rfl)]
                clear hF hD
                exact gives_val (by simp only [execOp, evF, h116, h117]; first | rfl | go_simp) ⟨Gr.refl _, rfl⟩
              · intro f w' g hF hD
                have h118 : f 118 = (.pointer (some ⟨b1, o1 + k * 5, none⟩)) := hD 3 118 (by kernel_rfl) rfl
                rw [if_pos (wanted_none rfl)]
                clear hF hD
                exact gives_val (by simp only [execOp, evF, h118]; first | rfl | go_simp) ⟨Gr.refl _, rfl⟩
              · intro f w' g hF hD
                have h119 : f 119 = (.pointer (some ⟨b1, o1 + k * 5 + 2, none⟩)) := hD 4 119 (by kernel_rfl) rfl
                rw [if_pos (wanted_none rfl)]
                clear hF hD
                have cl : w'.cell? ⟨b1, o1 + k * 5 + 2, none⟩ = some (.int .i64 (X : Int)) := ((kk.trans (g.mono kk.size)).cell (p := ⟨b1, _, none⟩) hb1).trans CC.out.2.2.1
                exact gives_val (by simp only [execOp, evF, h119]; go_simp) ⟨Gr.refl _, rfl⟩
              · intro f w' g hF hD
                have h120 : f 120 = (.int .i64 (X : Int)) := hD 5 120 (by kernel_rfl) rfl
                rw [if_pos (wanted_none rfl)]
                clear hF hD
                exact gives_val (by simp only [execOp, evF, h120]; first | rfl | go_simp) ⟨Gr.refl _, rfl⟩
              · intro f w' g hF hD
                have h2 : f 2 = .slice (some ⟨b1, o1, none⟩) n c := hF 2 (by kernel_rfl)
                rw [if_pos (wanted_none rfl)]
                clear hF hD
                exact gives_val (by simp only [execOp, evF, h2]; first | rfl | go_simp) ⟨Gr.refl _, rfl⟩
              · intro f w' g hF hD
                have h10 : f 10 = .int .i64 (k : Int) := hF 10 (by kernel_rfl)
                rw [if_pos (wanted_none rfl)]
                clear hF hD
                exact gives_val (by simp only [execOp, evF, h10]; first | rfl | go_simp) ⟨Gr.refl _, rfl⟩
              · intro f w' g hF hD
                have h122 : f 122 = (.slice (some ⟨b1, o1, none⟩) n c) := hD 7 122 (by kernel_rfl) rfl
                have h123 : f 123 = (.int .i64 (k : Int)) := hD 8 123 (by kernel_rfl) rfl
                rw [if_pos (wanted_none rfl)]
                clear hF hD
                exact gives_val (by simp only [execOp, evF, h122, h123]; first | rfl | go_simp) ⟨Gr.refl _, rfl⟩
              · intro f w' g hF hD
                have h124 : f 124 = (.pointer (some ⟨b1, o1 + k * 5, none⟩)) := hD 9 124 (by kernel_rfl) rfl
                rw [if_pos (wanted_none rfl)]
                clear hF hD
                exact gives_val (by simp only [execOp, evF, h124]; first | rfl | go_simp) ⟨Gr.refl _, rfl⟩
              · intro f w' g hF hD
                have h125 : f 125 = (.pointer (some ⟨b1, o1 + k * 5 + 3, none⟩)) := hD 10 125 (by kernel_rfl) rfl
                rw [if_pos (wanted_none rfl)]
                clear hF hD
                have cl : w'.cell? ⟨b1, o1 + k * 5 + 3, none⟩ = some (.int .i64 (Y : Int)) := ((kk.trans (g.mono kk.size)).cell (p := ⟨b1, _, none⟩) hb1).trans CC.out.2.2.2.1
                exact gives_val (by simp only [execOp, evF, h125]; go_simp) ⟨Gr.refl _, rfl⟩
              · intro f w' g hF hD
                have h126 : f 126 = (.int .i64 (Y : Int)) := hD 11 126 (by kernel_rfl) rfl
                rw [if_pos (wanted_none rfl)]
                clear hF hD
                exact gives_val (by simp only [execOp, evF, h126]; first | rfl | go_simp) ⟨Gr.refl _, rfl⟩
              · intro f w' g hF hD
                have h121 : f 121 = (.int .u8 (X : Int)) := hD 6 121 (by kernel_rfl) rfl
                have h127 : f 127 = (.int .u8 (Y : Int)) := hD 12 127 (by kernel_rfl) rfl
                rw [if_pos (wanted_none rfl)]
                clear hF hD
                have r1 := rdb_lit w' [lo X, lo Y] 2 5
                simp only [List.map_cons, List.map_nil] at r1
                rw [← XV.out, ← YV.out] at r1
                exact gives_val (by simp only [execOp, evF, h121, h127]; first | rfl | go_simp) ⟨(Below.refl _ _).alloc (Nat.le_refl _) _, r1⟩
            intro f' w' g hD
            have h0 : f' 115 = v1 := hD 0 115 (by decide) rfl
            obtain ⟨g1, h13, r13⟩ : ∃ g, f' 128 = .slice (some ⟨g, 0, none⟩) 2 2 ∧ Rd w' (some ⟨g, 0, none⟩) ([lo X, lo Y].map bv) := hD 13 128 (by decide) rfl
            have kw := kk.trans (g.mono kk.size)
            have HW : Hid (OwnB w' w.heap.size v1 P1) := Lib.hid (Own.below (Own.drewN H1.out 1) g)
            clear hD g H1
            simp only [List.drop_succ_cons, List.drop_zero, putAll, List.setIfInBounds_toArray, List.set_cons_zero, List.set_cons_succ, h0, h13]
            refine wpList_appB _ rfl (.tmp 115) (.tmp 128) rfl w.heap.size _ _ rfl HW.out _ 2 2 [lo X, lo Y] rfl rfl r13 (by omega) kw.size ?_
            intro vd wd hd hgd _
            have HD := Lib.hid hd; clear hd
            have kd := kw.grown hgd kw.size (fun q e => (Own.lt HW.out q e).1)
            clear hgd HW r13
            rw [List.append_nil] at HN2
            go_wp2_with (fail)
            have hfin : OwnB wd w.heap.size vd (preL f base n (es.take (k + 1))) := by
              rw [HN2.out]; exact HD.out
            have HFIN := Lib.hid hfin; clear hfin
            go_roundw
            case rel => exact ⟨k + 1, by omega, by go_num, HFIN, kd⟩
            case measure => simp [intOf]; omega
          · obtain rfl : n = k := by omega
            have hfin : OwnB wr w.heap.size u9 L := by
              have h := HO.out
              rw [EP.out, ← HN.out, List.take_length] at h
              rw [R1.out]
              exact h
            have HFIN := Lib.hid hfin; clear hfin HO EP hpl
            go_wp2_with (fail)
            go_ret2
            exact ⟨_, rfl, HFIN.out, kb⟩
end Go.Proofs.Ytgnciejbhaebeaa
