/- Parts one behind the other: What the reference's Encode answers: a batch's bytes in a version, or an error; Words of 32 bits as values that the walk does not look into, and what the program's operations do with them; What the small functions of sha and of its reference do with words; What sha.turn makes of eight words and a block of 64 bytes, in plain lists; Eight words built into an array; What sha.turn computes; The sum in plain lists: padding, blocks one behind the other, the bytes of the words; What sha.first and sha.Sum answer; What the reference's turned, root and block answer; What the reference's block answers; What the reference's Padded answers; A store of one cell, the world left open: what is known of the block goes on; What the reference's Sum answers: the same as sha.Sum; A sum as one value: held against another one; the two sums of the chapter's example, worked out; What the laws on sums call: the fixed example, the size, all held against all; What fixed of the law of layer 24 answers: true; What great answers of events; What the reference's Same answers of the same events; How a law's arguments are opened: integers, bools, strings, slices of bytes; How a law's argument is opened: a slice of slices of bytes; a slice of ints. Conditions: as told at each. -/
import Derived.Test.YtgnciejbhaebeaaPKeysBack4
import Derived.Test.YtgnciejbhaebeaaPKeysBack1
import Derived.Great.BuildSlice
import Derived.StillTailTactics
import Derived.Deep.RegionHeld3
import Derived.Deep.MidRow
import Derived.DeepKeys
import Derived.Lib.SlBytesConst
import Derived.Lib.SmallJoins
import Derived.Test.YtgnciejbhaebeaaPKeysBack3
import Derived.Test.YtgnciejbhaebeaaPKeysBack2
import Derived.SizedLaws
import Derived.Deep.Slices
import Derived.Deep.Matrix

/- What the reference's Encode answers: a batch's bytes in a version, or an error. Conditions: events that can be read; lengths that fit. -/
namespace Go.Proofs.Ytgnciejbhaebeaa
open Go Go.RowKit

theorem putL_small (f : Bool) (n : Nat) (h : n < 128) : putL f n 1 = [lo n] := by
  cases f
  · show varL n = _
    rw [varL, if_pos h]
  · show numLI n 1 = _
    unfold numLI
    rw [if_pos (by decide)]
    simp [numL]
theorem lo_bv {n : Nat} (h : n < 256) : Value.int .u8 (n : Int) = bv (lo n) := by unfold bv; rw [lo_nat, Nat.mod_eq_of_lt h]
theorem u8_wrap {n : Nat} (h : n < 256) : IntKind.u8.wrap (n : Int) = (n : Int) := by
  unfold IntKind.wrap
  simp [IntKind.bits, IntKind.signed]
  omega

set_option maxRecDepth 100000 in
set_option maxHeartbeats 4000000 in
theorem refEncode_c (ok : Nat → Prop) (ver : Int) (base : Nat) (A : Option Addr) (n c : Nat) (ds : List EvV) (es : List Ev) (w : World) (hu : U64 base) (hn : es.length = n) (hr : EvsR ok w A ds es) (hl : n ≤ 140737488355328) :
    Calls Try.prog 20 #[.int .i64 ver, .int .u64 base, .slice A n c] w fun r w' => ∃ v, r = .returned (.tuple #[v, .int .i64 ((encE ver base es).2 : Int)]) ∧ OwnB w' w.heap.size v (encE ver base es).1 ∧ Below w.heap.size w w' := by
  have HN := Lib.hid hn; clear hn
  obtain ⟨L, er, eR⟩ : ∃ L er, encE ver base es = (L, er) := ⟨_, _, rfl⟩
  rw [eR]
  have ER := Lib.hid eR; clear eR
  show Calls _ _ _ _ fun r w' => ∃ v, r = .returned (.tuple #[v, .int .i64 (er : Int)]) ∧ OwnB w' w.heap.size v L ∧ Below w.heap.size w w'
  rcases Int.lt_or_le ver 1 with v1 | v1
  · have hR : encE ver base es = ([], 1) := by rw [encE, if_pos (.inl v1)]
    rw [ER.out] at hR
    injection hR with r1 r2
    subst r1 r2
    go_enter Try.func20, Try.ntmps20
    go_wp2_with (fail)
    go_ret2
    exact ⟨_, rfl, Own.nil_ _ _ _, Below.refl _ _⟩
  rcases Int.lt_or_le 3 ver with v3 | v3
  · have hR : encE ver base es = ([], 1) := by rw [encE, if_pos (.inr (.inl v3))]
    rw [ER.out] at hR
    injection hR with r1 r2
    subst r1 r2
    go_enter Try.func20, Try.ntmps20
    go_wp2_with (fail)
    go_ret2
    exact ⟨_, rfl, Own.nil_ _ _ _, Below.refl _ _⟩
  rcases Nat.eq_zero_or_pos n with h0 | h0
  · have hR : encE ver base es = ([], 1) := by rw [encE, if_pos (.inr (.inr (.inl (List.eq_nil_of_length_eq_zero (HN.out.trans h0)))))]
    rw [ER.out] at hR
    injection hR with r1 r2
    subst r1 r2 h0
    go_enter Try.func20, Try.ntmps20
    go_wp2_with (fail)
    go_ret2
    exact ⟨_, rfl, Own.nil_ _ _ _, Below.refl _ _⟩
  have hne : es ≠ [] := by intro e; have := HN.out; rw [e] at this; simp at this; omega
  have HNE := Lib.hid hne; clear hne
  have d1 : decide (ver < 1) = false := decide_eq_false (by omega)
  have d2 : decide (3 < ver) = false := decide_eq_false (by omega)
  have d3 : ((n : Int) == 0) = false := by rw [beq_eq_false_iff_ne]; omega
  have V1 := Lib.hid v1; have V3 := Lib.hid v3
  clear v1 v3
  have HR := Lib.hid hr; clear hr
  go_enter Try.func20, Try.ntmps20
  go_wp2_with (fail)
  go_loopw [24] (fun i wr => ∃ (k : Nat), k ≤ n ∧ i = .int .i64 k ∧ Hid ((es.take k).all Ev.may = true) ∧ Below w.heap.size w wr) (fun i _ => n - (intOf i).toNat)
  case atStart => exact ⟨0, Nat.zero_le _, rfl, Lib.hid rfl, Below.refl _ _⟩
  case round =>
    obtain ⟨k, hk, rfl, HA, kb⟩ := hrel
    rcases Nat.lt_or_ge k n with hlt | hge
    · obtain ⟨e, b1, o1, At, m, cm, ee, rfl, hb1, -, tt, c0, ca, cb, cc, cd⟩ := HR.out.at_ k (by rw [HN.out]; exact hlt)
      have hmay : e.may = mayB e.k e.x e.y e.b m := by rw [Ev.may, tt.1]
      have hnx : (es.take (k + 1)).all Ev.may = ((es.take k).all Ev.may && mayB e.k e.x e.y e.b m) := by
        rw [List.take_succ_eq_append_getElem (by rw [HN.out]; exact hlt), List.all_append, ← ee, ← hmay]
        simp
      rw [HA.out, Bool.true_and] at hnx
      have HNX := Lib.hid hnx; clear hnx hmay ee tt HA
      obtain ⟨z0, t, z2, z3, z4⟩ := e
      simp only at c0 ca cb cc cd HNX
      rw [← kb.cell (p := ⟨b1, _, none⟩) hb1] at c0 ca cb cc cd
      have hlt' : (k : Int) < (n : Int) := by omega
      go_wp2_with (fail)
      refine (refMay_c z0 z2 z3 z4 At m cm wr).mono ?_
      rintro r w1 ⟨rfl, hb⟩
      have kb1 := kb.trans (hb.mono kb.size)
      clear c0 ca cb cc cd
      obtain ⟨M, eM⟩ : ∃ M, M = mayB z0 z2 z3 z4 m := ⟨_, rfl⟩
      rw [← eM]
      rw [← eM] at HNX
      clear eM
      cases M
      · have hall : es.all Ev.may = false := by
          cases h : es.all Ev.may
          · rfl
          · have := all_take h (k + 1)
            rw [HNX.out] at this; cases this
        have hR : encE ver base es = ([], 1) := by rw [encE, if_pos (.inr (.inr (.inr hall)))]
        rw [ER.out] at hR
        injection hR with r1 r2
        subst r1 r2
        clear hall
        go_wp2_with (fail)
        go_ret2
        exact ⟨_, rfl, Own.nil_ _ _ _, kb1⟩
      · go_wp2_with (fail)
        go_roundw
        case rel => exact ⟨k + 1, by omega, by go_num, HNX, kb1⟩
        case measure => simp [intOf]; omega
    · obtain rfl : n = k := by omega
      have hall : es.all Ev.may = true := by have := HA.out; rwa [← HN.out, List.take_length] at this
      have HALL := Lib.hid hall
      have hnb : ¬ (ver < 1 ∨ 3 < ver ∨ es = [] ∨ es.all Ev.may = false) := by
        have := V1.out; have := V3.out
        rintro (h | h | h | h)
        · omega
        · omega
        · exact HNE.out h
        · rw [hall] at h; cases h
      clear hall HA
      by_cases hbig : 16 < n
      · have hR : encE ver base es = ([], 4) := by rw [encE, if_neg hnb, if_pos (by rw [HN.out]; exact hbig)]
        rw [ER.out] at hR
        injection hR with r1 r2
        subst r1 r2
        have hbig' : (16 : Int) < (n : Int) := by omega
        clear hnb
        go_wp2_with (fail)
        go_ret2
        exact ⟨_, rfl, Own.nil_ _ _ _, kb⟩
      · have hR : encE ver base es = (encL (decide (ver = 1)) base es, 0) := by rw [encE, if_neg hnb, if_neg (by rw [HN.out]; exact hbig)]
        rw [ER.out] at hR
        injection hR with r1 r2
        subst r2
        have hsm : n ≤ 16 := by omega
        have hsm' : (n : Int) ≤ 16 := by omega
        obtain ⟨f, ef⟩ : ∃ f, f = decide (ver = 1) := ⟨_, rfl⟩
        rw [← ef] at r1
        have R1 := Lib.hid r1; clear r1
        have EF := Lib.hid ef; clear ef
        have hu1 : U64 n := u64_small (by omega)
        have wn := u64_wrap hu1
        clear hbig hnb
        go_wp2_with (fail)
        refine (lay24_c ver base 8 wr hu).mono ?_
        rintro r w3 ⟨v3, rfl, ho3, hb3⟩
        rw [← EF.out] at ho3
        have k3 := kb.trans (hb3.mono kb.size)
        have HO3 := Lib.hid (Own.low ho3 kb.size)
        clear ho3 hb3
        go_wp2_with (fail)
        refine (lay24_c ver n 1 w3 hu1).mono ?_
        rintro r w5 ⟨v5, rfl, ho5, hb5⟩
        rw [← EF.out] at ho5
        obtain ⟨A5, c5, rfl, _, _, r5, _⟩ := OwnB.form ho5
        have k5 := k3.trans (hb5.mono k3.size)
        have HO5 : Hid (OwnB w5 w.heap.size v3 _) := Lib.hid (Own.below HO3.out hb5)
        have R5 := Lib.hid r5
        have l0 := putL_le f base 8 hu
        have l1 := putL_le f n 1 hu1
        clear ho5 hb5 r5 HO3
        go_wp2_with (first | (at_builtin; refine wpList_appB _ rfl (.tmp 40) (.tmp 45) rfl w.heap.size _ _ rfl HO5.out A5 _ c5 (putL f n 1) rfl rfl R5.out (by omega) k5.size ?_; intro v7 w7 h7 hg7 _; have HO7 := Lib.hid h7; clear h7; have k7 := k5.grown hg7 k5.size (fun q e => (Own.lt HO5.out q e).1)))
        have HO : Hid (OwnB w7 w.heap.size v7 (preL f base n (es.take 0))) := by
          have : preL f base n (es.take 0) = putL f base 8 ++ putL f n 1 := by rw [List.take_zero, preL]; simp [evsL]
          rw [this]; exact HO7
        clear HO7 HO5 R5 hg7 kb k3 k5 l0 l1
        go_loopw [9, 49] (fun vb i wr => ∃ (k : Nat), k ≤ n ∧ i = .int .i64 k ∧ Hid (OwnB wr w.heap.size vb (preL f base n (es.take k))) ∧ Below w.heap.size w wr) (fun _ i _ => n - (intOf i).toNat)
        case atStart => exact ⟨0, Nat.zero_le _, rfl, HO, k7⟩
        case round =>
          clear HO k7
          obtain ⟨k, hk, rfl, HO, kb⟩ := hrel
          have hpl := preL_le f base n (es.take k) hu hsm (all_take HALL.out k) (by rw [List.length_take]; omega)
          obtain ⟨P, eP⟩ : ∃ P, P = preL f base n (es.take k) := ⟨_, rfl⟩
          rw [← eP] at HO hpl
          have EP := Lib.hid eP; clear eP
          rcases Nat.lt_or_ge k n with hlt | hge
          · obtain ⟨e, b1, o1, At, m, cm, ee, rfl, hb1, -, tt, c0, ca, cb, cc, cd⟩ := HR.out.at_ k (by rw [HN.out]; exact hlt)
            have hmay : e.may = true := by
              have := HALL.out
              rw [List.all_eq_true] at this
              rw [ee]
              exact this _ (List.getElem_mem _)
            obtain ⟨q0, q1, q2, q3, q4, q5, q6, q7⟩ := may_bounds hmay
            have hnext : preL f base n (es.take (k + 1)) = P ++ evL f e := by
              rw [EP.out, ee, preL, preL, evsL_take f es k (by rw [HN.out]; exact hlt)]; simp only [List.append_assoc]
            have HX := Lib.hid hnext; clear hnext ee hmay
            obtain ⟨t1, t2, t3, t4, -, t5⟩ := tt
            obtain ⟨z0, t, z2, z3, z4⟩ := e
            simp only at c0 ca cb cc cd t1 t2 q0 q1 q2 q3 q4 q5 q6 q7
            obtain ⟨K0, rfl⟩ : ∃ K0 : Nat, z0 = (K0 : Int) := ⟨z0.toNat, by omega⟩
            obtain ⟨X, rfl⟩ : ∃ X : Nat, z2 = (X : Int) := ⟨z2.toNat, by omega⟩
            obtain ⟨Y, rfl⟩ : ∃ Y : Nat, z3 = (Y : Int) := ⟨z3.toNat, by omega⟩
            obtain ⟨Z, rfl⟩ : ∃ Z : Nat, z4 = (Z : Int) := ⟨z4.toNat, by omega⟩
            rw [t1] at q1
            have T1 := Lib.hid t1; clear t1
            have T2 := Lib.hid t2; clear t2
            have CC := Lib.hid (And.intro c0 (And.intro ca (And.intro cb (And.intro cc cd))))
            have uZ : U64 Z := u64_small (by omega)
            have bK := u8_wrap (n := K0) (by omega)
            have bX := u8_wrap (n := X) (by omega)
            have bY := u8_wrap (n := Y) (by omega)
            have bM := u8_wrap (n := m) (by omega)
            have wZ := u64_wrap uZ
            have KV := Lib.hid (lo_bv (n := K0) (by omega))
            have XV := Lib.hid (lo_bv (n := X) (by omega))
            have YV := Lib.hid (lo_bv (n := Y) (by omega))
            have MV := Lib.hid (lo_bv (n := m) (by omega))
            have hlt' : (k : Int) < (n : Int) := by omega
            rw [← kb.cell (p := ⟨b1, _, none⟩) hb1] at c0 ca cb cc cd
            have EVL : Hid (evL f ⟨(K0 : Int), t, (X : Int), (Y : Int), (Z : Int)⟩ = [lo K0] ++ (if (K0 : Int) = 1 ∨ (K0 : Int) = 2 then [lo m] ++ t else [lo X, lo Y] ++ (if (K0 : Int) = 3 then putL f Z 1 else []))) := Lib.hid (by
              unfold evL
              simp only [Int.toNat_natCast, T1.out]
              rw [putL_small f K0 (by omega), putL_small f m (by omega), putL_small f X (by omega), putL_small f Y (by omega)]
              rfl)
            obtain ⟨P1, eP1⟩ : ∃ P1, P1 = P ++ [lo K0] := ⟨_, rfl⟩
            have hp1 : P1.length ≤ 2001 := by rw [eP1, List.length_append]; simp; omega
            have hnx : preL f base n (es.take (k + 1)) = P1 ++ (if (K0 : Int) = 1 ∨ (K0 : Int) = 2 then [lo m] ++ t else [lo X, lo Y] ++ (if (K0 : Int) = 3 then putL f Z 1 else [])) := by
              rw [HX.out, EVL.out, eP1]; simp only [List.append_assoc]
            have HNX := Lib.hid hnx
            have lZ := putL_le f Z 1 uZ
            clear hnx EVL HX
            have al := kb.alloc kb.size (.cells #[.int .u8 (K0 : Int)] 5)
            by_cases hK1 : K0 = 1
            · skip
              have e1 : ((K0 : Int) == 1) = true := by rw [beq_iff_eq]; omega
              have hnx := HNX.out
              rw [if_pos (by omega)] at hnx
              have HN2 := Lib.hid hnx; clear hnx HNX
              clear hK1
              go_wp2_with (first
                | (at_builtin; refine wpList_appB1 _ rfl (.tmp 52) (.tmp 59) rfl w.heap.size _ _ rfl HO.out _ rfl (lo K0) KV.out (by omega) kb.size ?_; intro v1 w1 h1 hg1 _; have H1 : Hid (OwnB w1 w.heap.size v1 P1) := Lib.hid (by rw [eP1]; exact h1); clear h1; have k1 := al.grown hg1 al.size (fun q e => (Own.lt HO.out q e).1); obtain ⟨c0, ca, cb, cc, cd⟩ := CC.out; rw [← k1.cell (p := ⟨b1, _, none⟩) hb1] at c0 ca cb cc cd; have al1 := k1.alloc k1.size (.cells #[.int .u8 (m : Int)] 5); clear hg1)
                | (at_builtin; refine wpList_appB1 _ rfl (.tmp 69) (.tmp 77) rfl w.heap.size _ _ rfl H1.out _ rfl (lo m) MV.out (by omega) k1.size ?_; intro v2 w2 h2 hg2 _; have H2 := Lib.hid h2; clear h2; have k2 := al1.grown hg2 al1.size (fun q e => (Own.lt H1.out q e).1); obtain ⟨c0, ca, cb, cc, cd⟩ := CC.out; rw [← k2.cell (p := ⟨b1, _, none⟩) hb1] at c0 ca cb cc cd; clear hg2)
                | (at_builtin; refine wpList_appB _ rfl (.tmp 79) (.tmp 84) rfl w.heap.size _ _ rfl H2.out At m cm t rfl T1.out (T2.out.below k2) (by rw [List.length_append, List.length_singleton]; omega) k2.size ?_; intro vd wd hd hgd _; have HD := Lib.hid (show OwnB wd w.heap.size vd (P1 ++ [lo m] ++ t) from hd); clear hd; have kd := k2.grown hgd k2.size (fun q e => (Own.lt H2.out q e).1); clear hgd))
              have HD2 : Hid (OwnB wd w.heap.size vd (P1 ++ ([lo m] ++ t))) := Lib.hid (by rw [← List.append_assoc]; exact HD.out)
              clear HD H1 H2 MV KV XV YV
              have hfin : OwnB wd w.heap.size vd (preL f base n (es.take (k + 1))) := by
                rw [HN2.out]; exact HD2.out
              have HFIN := Lib.hid hfin; clear hfin
              go_roundw
              case rel => exact ⟨k + 1, by omega, by go_num, HFIN, kd⟩
              case measure => simp [intOf]; omega
            have f1 : ((K0 : Int) == 1) = false := by rw [beq_eq_false_iff_ne]; omega
            by_cases hK2 : K0 = 2
            · skip
              have e2 : ((K0 : Int) == 2) = true := by rw [beq_iff_eq]; omega
              have hnx := HNX.out
              rw [if_pos (by omega)] at hnx
              have HN2 := Lib.hid hnx; clear hnx HNX
              clear hK1 hK2
              go_wp2_with (first
                | (at_builtin; refine wpList_appB1 _ rfl (.tmp 52) (.tmp 59) rfl w.heap.size _ _ rfl HO.out _ rfl (lo K0) KV.out (by omega) kb.size ?_; intro v1 w1 h1 hg1 _; have H1 : Hid (OwnB w1 w.heap.size v1 P1) := Lib.hid (by rw [eP1]; exact h1); clear h1; have k1 := al.grown hg1 al.size (fun q e => (Own.lt HO.out q e).1); obtain ⟨c0, ca, cb, cc, cd⟩ := CC.out; rw [← k1.cell (p := ⟨b1, _, none⟩) hb1] at c0 ca cb cc cd; have al1 := k1.alloc k1.size (.cells #[.int .u8 (m : Int)] 5); clear hg1)
                | (at_builtin; refine wpList_appB1 _ rfl (.tmp 69) (.tmp 77) rfl w.heap.size _ _ rfl H1.out _ rfl (lo m) MV.out (by omega) k1.size ?_; intro v2 w2 h2 hg2 _; have H2 := Lib.hid h2; clear h2; have k2 := al1.grown hg2 al1.size (fun q e => (Own.lt H1.out q e).1); obtain ⟨c0, ca, cb, cc, cd⟩ := CC.out; rw [← k2.cell (p := ⟨b1, _, none⟩) hb1] at c0 ca cb cc cd; clear hg2)
                | (at_builtin; refine wpList_appB _ rfl (.tmp 79) (.tmp 84) rfl w.heap.size _ _ rfl H2.out At m cm t rfl T1.out (T2.out.below k2) (by rw [List.length_append, List.length_singleton]; omega) k2.size ?_; intro vd wd hd hgd _; have HD := Lib.hid (show OwnB wd w.heap.size vd (P1 ++ [lo m] ++ t) from hd); clear hd; have kd := k2.grown hgd k2.size (fun q e => (Own.lt H2.out q e).1); clear hgd))
              have HD2 : Hid (OwnB wd w.heap.size vd (P1 ++ ([lo m] ++ t))) := Lib.hid (by rw [← List.append_assoc]; exact HD.out)
              clear HD H1 H2 MV KV XV YV
              have hfin : OwnB wd w.heap.size vd (preL f base n (es.take (k + 1))) := by
                rw [HN2.out]; exact HD2.out
              have HFIN := Lib.hid hfin; clear hfin
              go_roundw
              case rel => exact ⟨k + 1, by omega, by go_num, HFIN, kd⟩
              case measure => simp [intOf]; omega
            have f2 : ((K0 : Int) == 2) = false := by rw [beq_eq_false_iff_ne]; omega
            by_cases hK3 : K0 = 3
            · skip
              have e3 : ((K0 : Int) == 3) = true := by rw [beq_iff_eq]; omega
              have hnx := HNX.out
              rw [if_neg (by omega), if_pos (by omega)] at hnx
              have HN2 := Lib.hid hnx; clear hnx HNX
              clear hK1 hK2 hK3
              go_wp2_with ((at_builtin; refine wpList_appB1 _ rfl (.tmp 52) (.tmp 59) rfl w.heap.size _ _ rfl HO.out _ rfl (lo K0) KV.out (by omega) kb.size ?_; intro v1 w1 h1 hg1 _; have H1 : Hid (OwnB w1 w.heap.size v1 P1) := Lib.hid (by rw [eP1]; exact h1); clear h1; have k1 := al.grown hg1 al.size (fun q e => (Own.lt HO.out q e).1); obtain ⟨c0, ca, cb, cc, cd⟩ := CC.out; rw [← k1.cell (p := ⟨b1, _, none⟩) hb1] at c0 ca cb cc cd; have al1 := k1.alloc k1.size (.cells #[.int .u8 (m : Int)] 5); clear hg1))
              have kk := below_drewN k1 1
              refine wp_region_rt 132 14 [Rl.eq (v1), Rl.eq (.slice (some ⟨b1, o1, none⟩) n c), Rl.eq (.int .i64 (k : Int)), Rl.eq (.pointer (some ⟨b1, o1 + k * 5, none⟩)), Rl.eq (.pointer (some ⟨b1, o1 + k * 5 + 2, none⟩)), Rl.eq (.int .i64 (X : Int)), Rl.eq (.int .u8 (X : Int)), Rl.eq (.slice (some ⟨b1, o1, none⟩) n c), Rl.eq (.int .i64 (k : Int)), Rl.eq (.pointer (some ⟨b1, o1 + k * 5, none⟩)), Rl.eq (.pointer (some ⟨b1, o1 + k * 5 + 3, none⟩)), Rl.eq (.int .i64 (Y : Int)), Rl.eq (.int .u8 (Y : Int)), Rl.rdb 2 [lo X, lo Y]] [88, 89, 90, 91, 92, 93, 94, 95, 96, 97, 98, 99, 100, 101, 102, 9] (by kernel_rfl) rfl (by kernel_rfl) (by kernel_rfl) (by decide) (by kernel_rfl) (by kernel_rfl) ?_ ?_
              · simp only [List.take_succ_cons, List.take_zero]
                repeat (first | exact AllFrom.nil_ | (refine AllFrom.cons_ (by rfl) ?_ ?_; rotate_left))
                · intro f w' g hF hD
                  have h9 : f 9 = v1 := hF 9 (by kernel_rfl)
                  rw [if_pos (wanted_none rfl)]
                  clear hF hD
                  exact gives_val (by simp only [execOp, evF, h9]; first | rfl | go_simp) ⟨Gr.refl _, rfl⟩
                · intro f w' g hF hD
                  have h2 : f 2 = .slice (some ⟨b1, o1, none⟩) n c := hF 2 (by kernel_rfl)
                  rw [if_pos (wanted_none rfl)]
                  clear hF hD
                  exact gives_val (by simp only [execOp, evF, h2]; first | rfl | go_simp) ⟨Gr.refl _, rfl⟩
                · intro f w' g hF hD
                  have h10 : f 10 = .int .i64 (k : Int) := hF 10 (by kernel_rfl)
                  rw [if_pos (wanted_none rfl)]
                  clear hF hD
                  exact gives_val (by simp only [execOp, evF, h10]; first | rfl | go_simp) ⟨Gr.refl _, rfl⟩
                · intro f w' g hF hD
                  have h89 : f 89 = (.slice (some ⟨b1, o1, none⟩) n c) := hD 1 89 (by kernel_rfl) rfl
                  have h90 : f 90 = (.int .i64 (k : Int)) := hD 2 90 (by kernel_rfl) rfl
                  rw [if_pos (wanted_none rfl)]
                  clear hF hD
                  exact gives_val (by simp only [execOp, evF, h89, h90]; first | rfl | go_simp) ⟨Gr.refl _, rfl⟩
                · intro f w' g hF hD
                  have h91 : f 91 = (.pointer (some ⟨b1, o1 + k * 5, none⟩)) := hD 3 91 (by kernel_rfl) rfl
                  rw [if_pos (wanted_none rfl)]
                  clear hF hD
                  exact gives_val (by simp only [execOp, evF, h91]; first | rfl | go_simp) ⟨Gr.refl _, rfl⟩
                · intro f w' g hF hD
                  have h92 : f 92 = (.pointer (some ⟨b1, o1 + k * 5 + 2, none⟩)) := hD 4 92 (by kernel_rfl) rfl
                  rw [if_pos (wanted_none rfl)]
                  clear hF hD
                  have cl : w'.cell? ⟨b1, o1 + k * 5 + 2, none⟩ = some (.int .i64 (X : Int)) := ((kk.trans (g.mono kk.size)).cell (p := ⟨b1, _, none⟩) hb1).trans CC.out.2.2.1
                  exact gives_val (by simp only [execOp, evF, h92]; go_simp) ⟨Gr.refl _, rfl⟩
                · intro f w' g hF hD
                  have h93 : f 93 = (.int .i64 (X : Int)) := hD 5 93 (by kernel_rfl) rfl
                  rw [if_pos (wanted_none rfl)]
                  clear hF hD
                  exact gives_val (by simp only [execOp, evF, h93]; first | rfl | go_simp) ⟨Gr.refl _, rfl⟩
                · intro f w' g hF hD
                  have h2 : f 2 = .slice (some ⟨b1, o1, none⟩) n c := hF 2 (by kernel_rfl)
                  rw [if_pos (wanted_none rfl)]
                  clear hF hD
                  exact gives_val (by simp only [execOp, evF, h2]; first | rfl | go_simp) ⟨Gr.refl _, rfl⟩
                · intro f w' g hF hD
                  have h10 : f 10 = .int .i64 (k : Int) := hF 10 (by kernel_rfl)
                  rw [if_pos (wanted_none rfl)]
                  clear hF hD
                  exact gives_val (by simp only [execOp, evF, h10]; first | rfl | go_simp) ⟨Gr.refl _, rfl⟩
                · intro f w' g hF hD
                  have h95 : f 95 = (.slice (some ⟨b1, o1, none⟩) n c) := hD 7 95 (by kernel_rfl) rfl
                  have h96 : f 96 = (.int .i64 (k : Int)) := hD 8 96 (by kernel_rfl) rfl
                  rw [if_pos (wanted_none rfl)]
                  clear hF hD
                  exact gives_val (by simp only [execOp, evF, h95, h96]; first | rfl | go_simp) ⟨Gr.refl _, rfl⟩
                · intro f w' g hF hD
                  have h97 : f 97 = (.pointer (some ⟨b1, o1 + k * 5, none⟩)) := hD 9 97 (by kernel_rfl) rfl
                  rw [if_pos (wanted_none rfl)]
                  clear hF hD
                  exact gives_val (by simp only [execOp, evF, h97]; first | rfl | go_simp) ⟨Gr.refl _, rfl⟩
                · intro f w' g hF hD
                  have h98 : f 98 = (.pointer (some ⟨b1, o1 + k * 5 + 3, none⟩)) := hD 10 98 (by kernel_rfl) rfl
                  rw [if_pos (wanted_none rfl)]
                  clear hF hD
                  have cl : w'.cell? ⟨b1, o1 + k * 5 + 3, none⟩ = some (.int .i64 (Y : Int)) := ((kk.trans (g.mono kk.size)).cell (p := ⟨b1, _, none⟩) hb1).trans CC.out.2.2.2.1
                  exact gives_val (by simp only [execOp, evF, h98]; go_simp) ⟨Gr.refl _, rfl⟩
                · intro f w' g hF hD
                  have h99 : f 99 = (.int .i64 (Y : Int)) := hD 11 99 (by kernel_rfl) rfl
                  rw [if_pos (wanted_none rfl)]
                  clear hF hD
                  exact gives_val (by simp only [execOp, evF, h99]; first | rfl | go_simp) ⟨Gr.refl _, rfl⟩
                · intro f w' g hF hD
                  have h94 : f 94 = (.int .u8 (X : Int)) := hD 6 94 (by kernel_rfl) rfl
                  have h100 : f 100 = (.int .u8 (Y : Int)) := hD 12 100 (by kernel_rfl) rfl
                  rw [if_pos (wanted_none rfl)]
                  clear hF hD
                  have r1 := rdb_lit w' [lo X, lo Y] 2 5
                  simp only [List.map_cons, List.map_nil] at r1
                  rw [← XV.out, ← YV.out] at r1
                  exact gives_val (by simp only [execOp, evF, h94, h100]; first | rfl | go_simp) ⟨(Below.refl _ _).alloc (Nat.le_refl _) _, r1⟩
              intro f' w' g hD
              have h0 : f' 88 = v1 := hD 0 88 (by decide) rfl
              obtain ⟨g1, h13, r13⟩ : ∃ g, f' 101 = .slice (some ⟨g, 0, none⟩) 2 2 ∧ Rd w' (some ⟨g, 0, none⟩) ([lo X, lo Y].map bv) := hD 13 101 (by decide) rfl
              have kw := kk.trans (g.mono kk.size)
              have HW : Hid (OwnB w' w.heap.size v1 P1) := Lib.hid (Own.below (Own.drewN H1.out 1) g)
              clear hD g H1
              simp only [List.drop_succ_cons, List.drop_zero, putAll, List.setIfInBounds_toArray, List.set_cons_zero, List.set_cons_succ, h0, h13]
              refine wpList_appB _ rfl (.tmp 88) (.tmp 101) rfl w.heap.size _ _ rfl HW.out _ 2 2 [lo X, lo Y] rfl rfl r13 (by omega) kw.size ?_
              intro vd wd hd hgd _
              have HD := Lib.hid hd; clear hd
              have kd := kw.grown hgd kw.size (fun q e => (Own.lt HW.out q e).1)
              clear hgd HW r13
              have ld : (P1 ++ [lo X, lo Y]).length ≤ 2003 := by rw [List.length_append]; simp; omega
              obtain ⟨c0, ca, cb, cc, cd⟩ := CC.out
              rw [← kd.cell (p := ⟨b1, _, none⟩) hb1] at c0 ca cb cc cd
              go_wp2_with (fail)
              refine (lay24_c ver Z 1 wd uZ).mono ?_
              rintro r wb ⟨vb, rfl, hob, hbb⟩
              rw [← EF.out] at hob
              obtain ⟨Ab, cb', rfl, _, _, rb, _⟩ := OwnB.form hob
              have HB : Hid (OwnB wb w.heap.size vd (P1 ++ [lo X, lo Y])) := Lib.hid (Own.below HD.out hbb)
              have RB := Lib.hid rb
              have kb2 := kd.trans (hbb.mono kd.size)
              clear hob hbb rb HD c0 ca cb cc cd
              go_wp2_with (first
                | (at_builtin; refine wpList_appB _ rfl (.tmp 103) (.tmp 111) rfl w.heap.size _ _ rfl HB.out Ab _ cb' (putL f Z 1) rfl rfl RB.out (by omega) kb2.size ?_; intro ve we he hge' _; have HE := Lib.hid he; clear he; have ke := kb2.grown hge' kb2.size (fun q e => (Own.lt HB.out q e).1); clear hge'))
              have HE2 : Hid (OwnB we w.heap.size ve (P1 ++ ([lo X, lo Y] ++ putL f Z 1))) := Lib.hid (by rw [← List.append_assoc]; exact HE.out)
              have hfin : OwnB we w.heap.size ve (preL f base n (es.take (k + 1))) := by
                rw [HN2.out]; exact HE2.out
              have HFIN := Lib.hid hfin; clear hfin
              go_roundw
              case rel => exact ⟨k + 1, by omega, by go_num, HFIN, ke⟩
              case measure => simp [intOf]; omega
            have f3 : ((K0 : Int) == 3) = false := by rw [beq_eq_false_iff_ne]; omega
            have hK4 : K0 = 4 := by omega
            have e4 : ((K0 : Int) == 4) = true := by rw [beq_iff_eq]; omega
            have hnx := HNX.out
            rw [if_neg (by omega), if_neg (by omega)] at hnx
            have HN2 := Lib.hid hnx; clear hnx HNX
            clear hK1 hK2 hK3 hK4
            go_wp2_with ((at_builtin; refine wpList_appB1 _ rfl (.tmp 52) (.tmp 59) rfl w.heap.size _ _ rfl HO.out _ rfl (lo K0) KV.out (by omega) kb.size ?_; intro v1 w1 h1 hg1 _; have H1 : Hid (OwnB w1 w.heap.size v1 P1) := Lib.hid (by rw [eP1]; exact h1); clear h1; have k1 := al.grown hg1 al.size (fun q e => (Own.lt HO.out q e).1); obtain ⟨c0, ca, cb, cc, cd⟩ := CC.out; rw [← k1.cell (p := ⟨b1, _, none⟩) hb1] at c0 ca cb cc cd; have al1 := k1.alloc k1.size (.cells #[.int .u8 (m : Int)] 5); clear hg1))
            have kk := below_drewN k1 1
            refine wp_region_rt 132 14 [Rl.eq (v1), Rl.eq (.slice (some ⟨b1, o1, none⟩) n c), Rl.eq (.int .i64 (k : Int)), Rl.eq (.pointer (some ⟨b1, o1 + k * 5, none⟩)), Rl.eq (.pointer (some ⟨b1, o1 + k * 5 + 2, none⟩)), Rl.eq (.int .i64 (X : Int)), Rl.eq (.int .u8 (X : Int)), Rl.eq (.slice (some ⟨b1, o1, none⟩) n c), Rl.eq (.int .i64 (k : Int)), Rl.eq (.pointer (some ⟨b1, o1 + k * 5, none⟩)), Rl.eq (.pointer (some ⟨b1, o1 + k * 5 + 3, none⟩)), Rl.eq (.int .i64 (Y : Int)), Rl.eq (.int .u8 (Y : Int)), Rl.rdb 2 [lo X, lo Y]] [115, 116, 117, 118, 119, 120, 121, 122, 123, 124, 125, 126, 127, 128, 129, 9] (by kernel_rfl) rfl (by kernel_rfl) (by kernel_rfl) (by decide) (by kernel_rfl) (by kernel_rfl) ?_ ?_
            · simp only [List.take_succ_cons, List.take_zero]
              repeat (first | exact AllFrom.nil_ | (refine AllFrom.cons_ (by rfl) ?_ ?_; rotate_left))
              · intro f w' g hF hD
                have h9 : f 9 = v1 := hF 9 (by kernel_rfl)
                rw [if_pos (wanted_none rfl)]
                clear hF hD
                exact gives_val (by simp only [execOp, evF, h9]; first | rfl | go_simp) ⟨Gr.refl _, rfl⟩
              · intro f w' g hF hD
                have h2 : f 2 = .slice (some ⟨b1, o1, none⟩) n c := hF 2 (by kernel_rfl)
                rw [if_pos (wanted_none rfl)]
                clear hF hD
                exact gives_val (by simp only [execOp, evF, h2]; first | rfl | go_simp) ⟨Gr.refl _, rfl⟩
              · intro f w' g hF hD
                have h10 : f 10 = .int .i64 (k : Int) := hF 10 (by kernel_rfl)
                rw [if_pos (wanted_none rfl)]
                clear hF hD
                exact gives_val (by simp only [execOp, evF, h10]; first | rfl | go_simp) ⟨Gr.refl _, rfl⟩
              · intro f w' g hF hD
                have h116 : f 116 = (.slice (some ⟨b1, o1, none⟩) n c) := hD 1 116 (by kernel_rfl) rfl
                have h117 : f 117 = (.int .i64 (k : Int)) := hD 2 117 (by kernel_rfl) rfl
                rw [if_pos (wanted_none rfl)]
                clear hF hD
                exact gives_val (by simp only [execOp, evF, h116, h117]; first | rfl | go_simp) ⟨Gr.refl _, rfl⟩
              · intro f w' g hF hD
                have h118 : f 118 = (.pointer (some ⟨b1, o1 + k * 5, none⟩)) := hD 3 118 (by kernel_rfl) rfl
                rw [if_pos (wanted_none rfl)]
                clear hF hD
                exact gives_val (by simp only [execOp, evF, h118]; first | rfl | go_simp) ⟨Gr.refl _, rfl⟩
              · intro f w' g hF hD
                have h119 : f 119 = (.pointer (some ⟨b1, o1 + k * 5 + 2, none⟩)) := hD 4 119 (by kernel_rfl) rfl
                rw [if_pos (wanted_none rfl)]
                clear hF hD
                have cl : w'.cell? ⟨b1, o1 + k * 5 + 2, none⟩ = some (.int .i64 (X : Int)) := ((kk.trans (g.mono kk.size)).cell (p := ⟨b1, _, none⟩) hb1).trans CC.out.2.2.1
                exact gives_val (by simp only [execOp, evF, h119]; go_simp) ⟨Gr.refl _, rfl⟩
              · intro f w' g hF hD
                have h120 : f 120 = (.int .i64 (X : Int)) := hD 5 120 (by kernel_rfl) rfl
                rw [if_pos (wanted_none rfl)]
                clear hF hD
                exact gives_val (by simp only [execOp, evF, h120]; first | rfl | go_simp) ⟨Gr.refl _, rfl⟩
              · intro f w' g hF hD
                have h2 : f 2 = .slice (some ⟨b1, o1, none⟩) n c := hF 2 (by kernel_rfl)
                rw [if_pos (wanted_none rfl)]
                clear hF hD
                exact gives_val (by simp only [execOp, evF, h2]; first | rfl | go_simp) ⟨Gr.refl _, rfl⟩
              · intro f w' g hF hD
                have h10 : f 10 = .int .i64 (k : Int) := hF 10 (by kernel_rfl)
                rw [if_pos (wanted_none rfl)]
                clear hF hD
                exact gives_val (by simp only [execOp, evF, h10]; first | rfl | go_simp) ⟨Gr.refl _, rfl⟩
              · intro f w' g hF hD
                have h122 : f 122 = (.slice (some ⟨b1, o1, none⟩) n c) := hD 7 122 (by kernel_rfl) rfl
                have h123 : f 123 = (.int .i64 (k : Int)) := hD 8 123 (by kernel_rfl) rfl
                rw [if_pos (wanted_none rfl)]
                clear hF hD
                exact gives_val (by simp only [execOp, evF, h122, h123]; first | rfl | go_simp) ⟨Gr.refl _, rfl⟩
              · intro f w' g hF hD
                have h124 : f 124 = (.pointer (some ⟨b1, o1 + k * 5, none⟩)) := hD 9 124 (by kernel_rfl) rfl
                rw [if_pos (wanted_none rfl)]
                clear hF hD
                exact gives_val (by simp only [execOp, evF, h124]; first | rfl | go_simp) ⟨Gr.refl _, rfl⟩
              · intro f w' g hF hD
                have h125 : f 125 = (.pointer (some ⟨b1, o1 + k * 5 + 3, none⟩)) := hD 10 125 (by kernel_rfl) rfl
                rw [if_pos (wanted_none rfl)]
                clear hF hD
                have cl : w'.cell? ⟨b1, o1 + k * 5 + 3, none⟩ = some (.int .i64 (Y : Int)) := ((kk.trans (g.mono kk.size)).cell (p := ⟨b1, _, none⟩) hb1).trans CC.out.2.2.2.1
                exact gives_val (by simp only [execOp, evF, h125]; go_simp) ⟨Gr.refl _, rfl⟩
              · intro f w' g hF hD
                have h126 : f 126 = (.int .i64 (Y : Int)) := hD 11 126 (by kernel_rfl) rfl
                rw [if_pos (wanted_none rfl)]
                clear hF hD
                exact gives_val (by simp only [execOp, evF, h126]; first | rfl | go_simp) ⟨Gr.refl _, rfl⟩
              · intro f w' g hF hD
                have h121 : f 121 = (.int .u8 (X : Int)) := hD 6 121 (by kernel_rfl) rfl
                have h127 : f 127 = (.int .u8 (Y : Int)) := hD 12 127 (by kernel_rfl) rfl
                rw [if_pos (wanted_none rfl)]
                clear hF hD
                have r1 := rdb_lit w' [lo X, lo Y] 2 5
                simp only [List.map_cons, List.map_nil] at r1
                rw [← XV.out, ← YV.out] at r1
                exact gives_val (by simp only [execOp, evF, h121, h127]; first | rfl | go_simp) ⟨(Below.refl _ _).alloc (Nat.le_refl _) _, r1⟩
            intro f' w' g hD
            have h0 : f' 115 = v1 := hD 0 115 (by decide) rfl
            obtain ⟨g1, h13, r13⟩ : ∃ g, f' 128 = .slice (some ⟨g, 0, none⟩) 2 2 ∧ Rd w' (some ⟨g, 0, none⟩) ([lo X, lo Y].map bv) := hD 13 128 (by decide) rfl
            have kw := kk.trans (g.mono kk.size)
            have HW : Hid (OwnB w' w.heap.size v1 P1) := Lib.hid (Own.below (Own.drewN H1.out 1) g)
            clear hD g H1
            simp only [List.drop_succ_cons, List.drop_zero, putAll, List.setIfInBounds_toArray, List.set_cons_zero, List.set_cons_succ, h0, h13]
            refine wpList_appB _ rfl (.tmp 115) (.tmp 128) rfl w.heap.size _ _ rfl HW.out _ 2 2 [lo X, lo Y] rfl rfl r13 (by omega) kw.size ?_
            intro vd wd hd hgd _
            have HD := Lib.hid hd; clear hd
            have kd := kw.grown hgd kw.size (fun q e => (Own.lt HW.out q e).1)
            clear hgd HW r13
            rw [List.append_nil] at HN2
            go_wp2_with (fail)
            have hfin : OwnB wd w.heap.size vd (preL f base n (es.take (k + 1))) := by
              rw [HN2.out]; exact HD.out
            have HFIN := Lib.hid hfin; clear hfin
            go_roundw
            case rel => exact ⟨k + 1, by omega, by go_num, HFIN, kd⟩
            case measure => simp [intOf]; omega
          · obtain rfl : n = k := by omega
            have hfin : OwnB wr w.heap.size u9 L := by
              have h := HO.out
              rw [EP.out, ← HN.out, List.take_length] at h
              rw [R1.out]
              exact h
            have HFIN := Lib.hid hfin; clear hfin HO EP hpl
            go_wp2_with (fail)
            go_ret2
            exact ⟨_, rfl, HFIN.out, kb⟩
end Go.Proofs.Ytgnciejbhaebeaa

/- Words of 32 bits as values that the walk does not look into, and what the program's operations do with them. Conditions: none. -/
namespace Go.Proofs.Ytgnciejbhaebeaa
open Go Go.RowKit

/-- A word as a value; the walk does not look into it. -/
def wv (x : BitVec 32) : Value := .int .u32 (x.toNat : Int)

theorem wrap_bv (r : BitVec 32) : IntKind.u32.wrap ((r.toNat : Nat) : Int) = (r.toNat : Int) := by
  have := r.isLt
  simp only [IntKind.wrap_u32]; omega
theorem ofInt_bv (x : BitVec 32) : BitVec.ofInt 32 ((x.toNat : Nat) : Int) = x := by
  rw [BitVec.ofInt_natCast]; simp

theorem wv_add (t : TypeId) (x y : BitVec 32) : binOp .add t (wv x) (wv y) = pure (wv (x + y)) := by
  simp only [wv, binOp, Op.intArith, ne_eq, not_true_eq_false, if_false]
  congr 2
theorem wv_sub (t : TypeId) (x y : BitVec 32) : binOp .sub t (wv x) (wv y) = pure (wv (x - y)) := by
  have h1 := x.isLt
  have h2 := y.isLt
  simp only [wv, binOp, Op.intArith, ne_eq, not_true_eq_false, if_false]
  congr 2
  rw [IntKind.wrap_u32, BitVec.toNat_sub]; omega
theorem wv_mul (t : TypeId) (x y : BitVec 32) : binOp .mul t (wv x) (wv y) = pure (wv (x * y)) := by
  simp only [wv, binOp, Op.intArith, ne_eq, not_true_eq_false, if_false]
  congr 2
theorem wv_xor (t : TypeId) (x y : BitVec 32) : binOp .xor t (wv x) (wv y) = pure (wv (x ^^^ y)) := by
  simp only [wv, binOp, Op.intBits, ne_eq, not_true_eq_false, if_false]
  show pure (Value.int .u32 (IntKind.u32.wrap (((BitVec.ofInt 32 (x.toNat : Int) ^^^ BitVec.ofInt 32 (y.toNat : Int)).toNat : Nat) : Int))) = _
  rw [ofInt_bv, ofInt_bv, wrap_bv]
theorem wv_and (t : TypeId) (x y : BitVec 32) : binOp .and t (wv x) (wv y) = pure (wv (x &&& y)) := by
  simp only [wv, binOp, Op.intBits, ne_eq, not_true_eq_false, if_false]
  show pure (Value.int .u32 (IntKind.u32.wrap (((BitVec.ofInt 32 (x.toNat : Int) &&& BitVec.ofInt 32 (y.toNat : Int)).toNat : Nat) : Int))) = _
  rw [ofInt_bv, ofInt_bv, wrap_bv]
theorem wv_or (t : TypeId) (x y : BitVec 32) : binOp .or t (wv x) (wv y) = pure (wv (x ||| y)) := by
  simp only [wv, binOp, Op.intBits, ne_eq, not_true_eq_false, if_false]
  show pure (Value.int .u32 (IntKind.u32.wrap (((BitVec.ofInt 32 (x.toNat : Int) ||| BitVec.ofInt 32 (y.toNat : Int)).toNat : Nat) : Int))) = _
  rw [ofInt_bv, ofInt_bv, wrap_bv]
theorem wv_shr (t : TypeId) (x : BitVec 32) (k : IntKind) (n : Int) (h0 : 0 ≤ n) (h1 : n ≤ 32) : binOp .shr t (wv x) (.int k n) = pure (wv (x >>> n.toNat)) := by
  obtain ⟨m, rfl⟩ := Int.eq_ofNat_of_zero_le h0
  simp only [wv, binOp, Op.shift, Int.toNat_natCast]
  rw [if_neg (by omega)]
  congr 2
  rw [BitVec.toNat_ushiftRight, Nat.shiftRight_eq_div_pow, show min m IntKind.u32.bits = m from Nat.min_eq_left (by show m ≤ 32; omega)]
  rw [show ((2 : Int) ^ m) = ((2 ^ m : Nat) : Int) by rw [Int.natCast_pow]; rfl, Int.ofNat_fdiv]
theorem wv_shl (t : TypeId) (x : BitVec 32) (k : IntKind) (n : Int) (h0 : 0 ≤ n) (h1 : n ≤ 32) : binOp .shl t (wv x) (.int k n) = pure (wv (x <<< n.toNat)) := by
  obtain ⟨m, rfl⟩ := Int.eq_ofNat_of_zero_le h0
  simp only [wv, binOp, Op.shift, Int.toNat_natCast]
  rw [if_neg (by omega)]
  congr 2
  rw [BitVec.toNat_shiftLeft, Nat.shiftLeft_eq, show min m IntKind.u32.bits = m from Nat.min_eq_left (by show m ≤ 32; omega)]
  rw [show ((2 : Int) ^ m) = ((2 ^ m : Nat) : Int) by rw [Int.natCast_pow]; rfl, ← Int.natCast_mul, IntKind.wrap_u32]
  generalize x.toNat * 2 ^ m = q
  omega

theorem wv_not (x : BitVec 32) : Op.unary .xor (wv x) = pure (wv (~~~x)) := by
  simp only [wv, Op.unary, Op.intBits]
  show pure (Value.int .u32 (IntKind.u32.wrap (((BitVec.ofInt 32 4294967295 ^^^ BitVec.ofInt 32 (x.toNat : Int)).toNat : Nat) : Int))) = _
  rw [ofInt_bv, wrap_bv, show BitVec.ofInt 32 4294967295 = BitVec.allOnes 32 from rfl, BitVec.allOnes_xor]
theorem wv_store (P : Program) (w : World) (a : Addr) (m : Mode) (x : BitVec 32) : (store a (wv x) m).run P w = stored P w a (wv x) m := run_store P w a _ m rfl
theorem bv_store (P : Program) (w : World) (a : Addr) (m : Mode) (x : UInt8) : (store a (bv x) m).run P w = stored P w a (bv x) m := run_store P w a _ m rfl
theorem wv_cells (a : Addr) (i : Nat) (x : BitVec 32) (rest : List Value) : storeCells a (wv x :: rest) i = (do store (a.add i) (wv x); storeCells a rest (i + 1)) := rfl
theorem bv_cells (a : Addr) (i : Nat) (x : UInt8) (rest : List Value) : storeCells a (bv x :: rest) i = (do store (a.add i) (bv x); storeCells a rest (i + 1)) := rfl
theorem wv_cellsOf (x : BitVec 32) : (wv x).cells = #[wv x] := rfl
theorem bv_cellsOf (x : UInt8) : (bv x).cells = #[bv x] := rfl
theorem no_cells (a : Addr) (i : Nat) : storeCells a [] i = pure () := rfl
/-- A byte as a word, a word's lowest byte. -/
def bw (b : UInt8) : BitVec 32 := b.toBitVec.setWidth 32
def wb (x : BitVec 32) : UInt8 := ⟨x.setWidth 8⟩
theorem bv_conv (w : World) (b : UInt8) : (convert 5 166 (bv b)).run Try.prog w = .ok (wv (bw b)) w := by
  have h := b.toNat_lt
  have e := run_convert_int (P := Try.prog) w 5 166 .u8 (b.toNat : Int) (by rw [Try.underlying5]; rfl) (by kernel_rfl)
  rw [show Try.prog.intKind 166 = .u32 by kernel_rfl] at e
  unfold bv
  rw [e, IntWalk.u32_in _ ⟨by omega, by omega⟩]
  unfold wv bw
  rw [BitVec.toNat_setWidth, UInt8.toNat_toBitVec, Nat.mod_eq_of_lt (by omega)]
theorem wv_conv (w : World) (x : BitVec 32) : (convert 166 5 (wv x)).run Try.prog w = .ok (bv (wb x)) w := by
  have e := run_convert_int (P := Try.prog) w 166 5 .u32 (x.toNat : Int) (by rw [Try.underlying166]; rfl) (by kernel_rfl)
  rw [show Try.prog.intKind 5 = .u8 by kernel_rfl] at e
  unfold wv
  rw [e]
  unfold bv wb
  congr 2
end Go.Proofs.Ytgnciejbhaebeaa

/- What the small functions of sha and of its reference do with words. Conditions: counts below 32. -/
namespace Go.Proofs.Ytgnciejbhaebeaa
open Go Go.RowKit
attribute [local go_sem] wv_add wv_sub wv_mul wv_xor wv_and wv_or wv_shr wv_shl wv_not wv_store bv_store bv_conv wv_conv

/-- Turned right. -/
def ror (x : BitVec 32) (n : Nat) : BitVec 32 := x >>> n ||| x <<< (32 - n)

theorem and31 (n : Nat) (h0 : 0 < n) (h : n < 32) : bits BinOp.and .u64 (18446744073709551616 - (n : Int)) 31 = ((32 - n : Nat) : Int) := by
  have h1 := u64_and_nat (18446744073709551616 - n) 31 (by omega) (by omega)
  rw [show (31 : Nat) = 2 ^ 5 - 1 from rfl, Nat.and_two_pow_sub_one_eq_mod] at h1
  rw [show ((18446744073709551616 - n : Nat) : Int) = 18446744073709551616 - (n : Int) by omega] at h1
  rw [show (31 : Int) = ((2 ^ 5 - 1 : Nat) : Int) from rfl, h1]
  omega

end Go.Proofs.Ytgnciejbhaebeaa

/- What sha.turn makes of eight words and a block of 64 bytes, in plain lists. Rows of words in a block of their own. Conditions: the table of 64 words stands. -/
namespace Go.Proofs.Ytgnciejbhaebeaa
open Go Go.RowKit

def getW (l : List (BitVec 32)) (i : Nat) : BitVec 32 := l.getD i 0
def getB (l : List UInt8) (i : Nat) : UInt8 := l.getD i 0
def be4 (b : List UInt8) (t : Nat) : BitVec 32 := bw (getB b (4 * t)) <<< 24 ||| bw (getB b (4 * t + 1)) <<< 16 ||| bw (getB b (4 * t + 2)) <<< 8 ||| bw (getB b (4 * t + 3))
def sig0 (x : BitVec 32) : BitVec 32 := ror x 7 ^^^ ror x 18 ^^^ x >>> 3
def sig1 (y : BitVec 32) : BitVec 32 := ror y 17 ^^^ ror y 19 ^^^ y >>> 10
def nxt (l : List (BitVec 32)) (k : Nat) : BitVec 32 := getW l k + getW l (k + 9) + sig0 (getW l (k + 1)) + sig1 (getW l (k + 14))
def sch1 (b : List UInt8) : Nat → List (BitVec 32)
  | 0 => List.replicate 64 0
  | k + 1 => (sch1 b k).set k (be4 b k)
def sch2 (b : List UInt8) : Nat → List (BitVec 32)
  | 0 => sch1 b 16
  | k + 1 => (sch2 b k).set (k + 16) (nxt (sch2 b k) k)
def pW (k x : BitVec 32) (v : List (BitVec 32)) : BitVec 32 :=
  getW v 7 + (ror (getW v 4) 6 ^^^ ror (getW v 4) 11 ^^^ ror (getW v 4) 25) + (getW v 4 &&& getW v 5 ^^^ ~~~(getW v 4) &&& getW v 6) + k + x
def qW (v : List (BitVec 32)) : BitVec 32 :=
  (ror (getW v 0) 2 ^^^ ror (getW v 0) 13 ^^^ ror (getW v 0) 22) + (getW v 0 &&& getW v 1 ^^^ getW v 0 &&& getW v 2 ^^^ getW v 1 &&& getW v 2)
def rnd (k x : BitVec 32) (v : List (BitVec 32)) : List (BitVec 32) :=
  [pW k x v + qW v, getW v 0, getW v 1, getW v 2, getW v 3 + pW k x v, getW v 4, getW v 5, getW v 6]
def rounds (ks xs h : List (BitVec 32)) : Nat → List (BitVec 32)
  | 0 => h
  | t + 1 => rnd (getW ks t) (getW xs t) (rounds ks xs h t)
def addL (h v : List (BitVec 32)) : Nat → List (BitVec 32)
  | 0 => h
  | t + 1 => (addL h v t).set t (getW (addL h v t) t + getW v t)
def rootL : List (BitVec 32) := [
  0x428a2f98, 0x71374491, 0xb5c0fbcf, 0xe9b5dba5, 0x3956c25b, 0x59f111f1, 0x923f82a4, 0xab1c5ed5,
  0xd807aa98, 0x12835b01, 0x243185be, 0x550c7dc3, 0x72be5d74, 0x80deb1fe, 0x9bdc06a7, 0xc19bf174,
  0xe49b69c1, 0xefbe4786, 0x0fc19dc6, 0x240ca1cc, 0x2de92c6f, 0x4a7484aa, 0x5cb0a9dc, 0x76f988da,
  0x983e5152, 0xa831c66d, 0xb00327c8, 0xbf597fc7, 0xc6e00bf3, 0xd5a79147, 0x06ca6351, 0x14292967,
  0x27b70a85, 0x2e1b2138, 0x4d2c6dfc, 0x53380d13, 0x650a7354, 0x766a0abb, 0x81c2c92e, 0x92722c85,
  0xa2bfe8a1, 0xa81a664b, 0xc24b8b70, 0xc76c51a3, 0xd192e819, 0xd6990624, 0xf40e3585, 0x106aa070,
  0x19a4c116, 0x1e376c08, 0x2748774c, 0x34b0bcb5, 0x391c0cb3, 0x4ed8aa4a, 0x5b9cca4f, 0x682e6ff3,
  0x748f82ee, 0x78a5636f, 0x84c87814, 0x8cc70208, 0x90befffa, 0xa4506ceb, 0xbef9a3f7, 0xc67178f2]
def blk (h : List (BitVec 32)) (b : List UInt8) : List (BitVec 32) := addL h (rounds rootL (sch2 b 48) h 64) 8
def startL : List (BitVec 32) := [0x6a09e667, 0xbb67ae85, 0x3c6ef372, 0xa54ff53a, 0x510e527f, 0x9b05688c, 0x1f83d9ab, 0x5be0cd19]

theorem sch1_len (b : List UInt8) : ∀ k, (sch1 b k).length = 64
  | 0 => by simp [sch1]
  | k + 1 => by simp [sch1, sch1_len b k]
theorem sch2_len (b : List UInt8) : ∀ k, (sch2 b k).length = 64
  | 0 => sch1_len b 16
  | k + 1 => by simp [sch2, sch2_len b k]
theorem rounds_len (ks xs h : List (BitVec 32)) (hh : h.length = 8) : ∀ k, (rounds ks xs h k).length = 8
  | 0 => hh
  | k + 1 => by simp [rounds, rnd]
theorem addL_len (h v : List (BitVec 32)) (hh : h.length = 8) : ∀ k, (addL h v k).length = 8
  | 0 => hh
  | k + 1 => by simp [addL, addL_len h v hh k]
theorem blk_len (h : List (BitVec 32)) (b : List UInt8) (hh : h.length = 8) : (blk h b).length = 8 := addL_len _ _ hh 8

/-- Block g holds the words l and nothing else. -/
def Ws (w : World) (g : Nat) (t : TypeId) (l : List (BitVec 32)) : Prop := w.heap[g]? = some (.cells (l.map wv).toArray t (0, 0))
section
variable {w w' : World} {g : Nat} {t : TypeId} {l : List (BitVec 32)}
theorem Ws.cell (h : Ws w g t l) (i : Nat) (hi : i < l.length) : w.cell? ⟨g, i, none⟩ = some (wv (getW l i)) := by
  rw [heap_cell h]
  simp [getW, List.getD, hi]
theorem Ws.free (h : Ws w g t l) (i : Nat) : w.frozen? ⟨g, i, none⟩ = false := heap_free h i
theorem Ws.set (h : Ws w g t l) (i : Nat) (x : BitVec 32) : Ws (w.setCell ⟨g, i, none⟩ (wv x)) g t (l.set i x) := by
  unfold Ws
  rw [heap_set h, List.map_set]
  simp
theorem Ws.far (h : Ws w g t l) {p : Addr} (u : Value) (hp : g ≠ p.block) : Ws (w.setCell p u) g t l := (heap_far u hp).trans h
theorem Ws.lt (h : Ws w g t l) : g < w.heap.size := heap_lt h
theorem Ws.below (h : Ws w g t l) (hb : Below w.heap.size w w') : Ws w' g t l := (hb.block g h.lt).trans h
theorem Ws.drewN (h : Ws w g t l) (n : Nat) : Ws (w.drewN n) g t l := h
theorem Ws.alloc (h : Ws w g t l) (o : Obj) : Ws (w.alloc o) g t l := (Below.heap_alloc w o g h.lt).trans h
end

/-- The table of the 64 words. -/
def Tab (w : World) : Prop := 0 < w.heap.size ∧ ∀ i, i < 64 → w.cell? ⟨0, i, none⟩ = some (wv (getW rootL i))
theorem Tab.below {w w' : World} {B : Nat} (h : Tab w) (hb : Below B w w') (hB : 0 < B) : Tab w' :=
  ⟨Nat.lt_of_lt_of_le h.1 hb.size, fun i hi => (World.cell?_of_block (w := w) (a := ⟨0, i, none⟩) (hb.block 0 hB)).trans (h.2 i hi)⟩
theorem getB_rd {b : Nat} {off : Nat} {w : World} {l : List UInt8} (g : ∀ k (h : k < l.length), w.cell? ⟨b, off + k, none⟩ = some (bv l[k])) (k : Nat) (hk : k < l.length) : w.cell? ⟨b, off + k, none⟩ = some (bv (getB l k)) := by
  rw [g k hk]
  simp [getB, List.getD, hk]
end Go.Proofs.Ytgnciejbhaebeaa

/- Eight words built into an array. Conditions: none. -/
namespace Go.Proofs.Ytgnciejbhaebeaa
open Go Go.RowKit
theorem info_u32 : (Try.prog.info? 166).map (·.size) = some 1 := by kernel_rfl
end Go.Proofs.Ytgnciejbhaebeaa

/- What sha.turn computes. Conditions: eight words, 64 bytes, the table stands. -/
namespace Go.Proofs.Ytgnciejbhaebeaa
open Go Go.RowKit
attribute [local go_sem] wv_add wv_sub wv_mul wv_xor wv_and wv_or wv_shr wv_shl wv_not wv_store bv_store bv_conv wv_conv wv_cells bv_cells no_cells wv_cellsOf bv_cellsOf

end Go.Proofs.Ytgnciejbhaebeaa

/- The sum in plain lists: padding, blocks one behind the other, the bytes of the words. Conditions: none. -/
namespace Go.Proofs.Ytgnciejbhaebeaa
open Go Go.RowKit

def lo8 (n : Nat) : UInt8 := UInt8.ofNat n
theorem lo8_nat (n : Nat) : (lo8 n).toNat = n % 256 := by simp [lo8]
def padZ (n : Nat) : Nat := (119 - n % 64) % 64
theorem padZ_le (n : Nat) : padZ n ≤ 63 := by unfold padZ; omega
/-- The length's bytes, k of them. -/
def be8 (n k : Nat) : List UInt8 := (List.range k).map fun i => lo8 (n / 256 ^ (7 - i))
theorem be8_len (n k : Nat) : (be8 n k).length = k := by simp [be8]
theorem be8_succ (n k : Nat) : be8 n (k + 1) = be8 n k ++ [lo8 (n / 256 ^ (7 - k))] := by simp [be8, List.range_succ]
def padHead (b : List UInt8) (z : Nat) : List UInt8 := b ++ [128] ++ List.replicate z 0
def padL (b : List UInt8) : List UInt8 := padHead b (padZ b.length) ++ be8 (8 * b.length) 8
theorem padHead_len (b : List UInt8) (z : Nat) : (padHead b z).length = b.length + 1 + z := by simp [padHead]; omega
theorem padHead_succ (b : List UInt8) (z : Nat) : padHead b (z + 1) = padHead b z ++ [0] := by
  simp [padHead, List.replicate_succ']
theorem padL_len (b : List UInt8) : (padL b).length = b.length + 1 + padZ b.length + 8 := by simp [padL, padHead_len, be8_len]
theorem padL_mod (b : List UInt8) : (padL b).length % 64 = 0 := by rw [padL_len]; unfold padZ; omega
def blocksN (h : List (BitVec 32)) (l : List UInt8) : Nat → List (BitVec 32)
  | 0 => h
  | n + 1 => blocksN (blk h (l.take 64)) (l.drop 64) n
theorem blocksN_len (h : List (BitVec 32)) (l : List UInt8) (hh : h.length = 8) : ∀ n, (blocksN h l n).length = 8
  | 0 => hh
  | n + 1 => blocksN_len (blk h (l.take 64)) (l.drop 64) (blk_len _ _ hh) n
def outB (h : List (BitVec 32)) (i : Nat) : UInt8 := wb (getW h (i / 4) >>> (24 - 8 * (i % 4)))
def outP (h : List (BitVec 32)) : Nat → List UInt8
  | 0 => List.replicate 32 0
  | k + 1 => (outP h k).set k (outB h k)
theorem outP_len (h : List (BitVec 32)) : ∀ k, (outP h k).length = 32
  | 0 => by simp [outP]
  | k + 1 => by simp [outP, outP_len h k]
def hashL (l : List UInt8) : List (BitVec 32) := blocksN startL l (l.length / 64)
def sumL (b : List UInt8) : List UInt8 := outP (hashL (padL b)) 32
theorem sumL_len (b : List UInt8) : (sumL b).length = 32 := outP_len _ _
theorem startL_len : startL.length = 8 := rfl

/-- Block g holds the bytes l and nothing else. -/
def Bs (w : World) (g : Nat) (t : TypeId) (l : List UInt8) : Prop := w.heap[g]? = some (.cells (l.map bv).toArray t (0, 0))
section
variable {w w' : World} {g : Nat} {t : TypeId} {l : List UInt8}
theorem Bs.cell (h : Bs w g t l) (i : Nat) (hi : i < l.length) : w.cell? ⟨g, i, none⟩ = some (bv (getB l i)) := by
  rw [heap_cell h]
  simp [getB, List.getD, hi]
theorem Bs.free (h : Bs w g t l) (i : Nat) : w.frozen? ⟨g, i, none⟩ = false := heap_free h i
theorem Bs.set (h : Bs w g t l) (i : Nat) (x : UInt8) : Bs (w.setCell ⟨g, i, none⟩ (bv x)) g t (l.set i x) := by
  unfold Bs
  rw [heap_set h, List.map_set]
  simp
theorem Bs.far (h : Bs w g t l) {p : Addr} (u : Value) (hp : g ≠ p.block) : Bs (w.setCell p u) g t l := (heap_far u hp).trans h
theorem Bs.lt (h : Bs w g t l) : g < w.heap.size := heap_lt h
theorem Bs.below (h : Bs w g t l) (hb : Below w.heap.size w w') : Bs w' g t l := (hb.block g h.lt).trans h
theorem Bs.grown (h : Bs w g t l) {r : Option Nat} (hb : w.grownBy w' r) (hr : r ≠ some g) : Bs w' g t l := (hb.block g h.lt (fun e => hr e.symm)).trans h
theorem Bs.drewN (h : Bs w g t l) (n : Nat) : Bs (w.drewN n) g t l := h
theorem Bs.alloc (h : Bs w g t l) (o : Obj) : Bs (w.alloc o) g t l := (Below.heap_alloc w o g h.lt).trans h
end
theorem Ws.grown {w w' : World} {g : Nat} {t : TypeId} {l : List (BitVec 32)} (h : Ws w g t l) {r : Option Nat} (hb : w.grownBy w' r) (hr : r ≠ some g) : Ws w' g t l := (hb.block g h.lt (fun e => hr e.symm)).trans h

/-- The address reads as slices of bytes. -/
def RdS (w : World) (A : Option Addr) (bss : List (List UInt8)) : Prop :=
  bss = [] ∨ ∃ b off, A = some ⟨b, off, none⟩ ∧ b < w.heap.size ∧ ∀ k (h : k < bss.length), ∃ Ak ck, w.cell? ⟨b, off + k, none⟩ = some (.slice Ak bss[k].length ck) ∧ Rd w Ak (bss[k].map bv) ∧ bss[k].length ≤ ck ∧ ck ≤ maxLen
section
variable {w w' : World} {A : Option Addr} {bss : List (List UInt8)}
theorem RdS.nil_ : RdS w A [] := .inl rfl
theorem RdS.below (h : RdS w A bss) (hb : Below w.heap.size w w') : RdS w' A bss := by
  rcases h with h | ⟨b, off, hA, hlt, hc⟩
  · exact .inl h
  · refine .inr ⟨b, off, hA, Nat.lt_of_lt_of_le hlt hb.size, fun k hk => ?_⟩
    obtain ⟨Ak, ck, h1, h2, h3, h4⟩ := hc k hk
    exact ⟨Ak, ck, (hb.cell (p := ⟨b, _, none⟩) hlt).trans h1, h2.below hb, h3, h4⟩
theorem RdS.drewN (h : RdS w A bss) (n : Nat) : RdS (w.drewN n) A bss := h
theorem RdS.alloc (h : RdS w A bss) (o : Obj) : RdS (w.alloc o) A bss := h.below ((Below.refl _ _).alloc (Nat.le_refl _) o)
theorem RdS.addr (h : RdS w A bss) (h0 : 0 < bss.length) : ∃ b off, A = some ⟨b, off, none⟩ ∧ b < w.heap.size ∧ ∀ k (h : k < bss.length), ∃ Ak ck, w.cell? ⟨b, off + k, none⟩ = some (.slice Ak bss[k].length ck) ∧ Rd w Ak (bss[k].map bv) ∧ bss[k].length ≤ ck ∧ ck ≤ maxLen := by
  rcases h with rfl | h
  · simp at h0
  · exact h
end
theorem flatten_take_succ (bss : List (List UInt8)) (k : Nat) (h : k < bss.length) : (bss.take (k + 1)).flatten = (bss.take k).flatten ++ bss[k] := by
  rw [List.take_succ_eq_append_getElem h, List.flatten_append]; simp
theorem flatten_take_le (bss : List (List UInt8)) (k : Nat) : (bss.take k).flatten.length ≤ bss.flatten.length := by
  have h := congrArg (fun l => l.flatten.length) (List.take_append_drop k bss)
  simp only [List.flatten_append, List.length_append] at h
  omega

/-! ### Arrays of 32 bytes -/
end Go.Proofs.Ytgnciejbhaebeaa

/- What sha.first and sha.Sum answer. Conditions: the table stands; the parts' lengths fit. -/
namespace Go.Proofs.Ytgnciejbhaebeaa
open Go Go.RowKit
attribute [local go_sem] wv_add wv_sub wv_mul wv_xor wv_and wv_or wv_shr wv_shl wv_not wv_store bv_store bv_conv wv_conv wv_cells bv_cells no_cells wv_cellsOf bv_cellsOf

theorem zeros_8 : #[wv 0, wv 0, wv 0, wv 0, wv 0, wv 0, wv 0, wv 0] = ((List.replicate 8 (0 : BitVec 32)).map wv).toArray := rfl

theorem be8_val (n t : Nat) : Value.int .u8 ((n : Int) * 8 / 2 ^ (8 * t) % 256) = bv (lo8 (8 * n / 256 ^ t)) := by
  unfold bv
  rw [lo8_nat, show (256 : Nat) ^ t = 2 ^ (8 * t) by rw [Nat.pow_mul], Nat.mul_comm 8 n]
  congr 1
theorem zero8_len : (List.replicate 8 (0 : BitVec 32)).length = 8 := rfl
def sliceLen : Value → Nat
  | .slice _ n _ => n
  | _ => 0

end Go.Proofs.Ytgnciejbhaebeaa

/- What the reference's turned, root and block answer. Conditions: eight words, 64 bytes. -/
namespace Go.Proofs.Ytgnciejbhaebeaa
open Go Go.RowKit

theorem c24 : Value.int .u32 16777216 = wv (BitVec.twoPow 32 24) := by kernel_rfl
theorem c16 : Value.int .u32 65536 = wv (BitVec.twoPow 32 16) := by kernel_rfl
theorem c8 : Value.int .u32 256 = wv (BitVec.twoPow 32 8) := by kernel_rfl
theorem cFF : Value.int .u32 4294967295 = wv (BitVec.allOnes 32) := by kernel_rfl
theorem wv_mul24 (t : TypeId) (x : BitVec 32) : binOp .mul t (wv x) (.int .u32 16777216) = pure (wv (x <<< 24)) := by
  rw [c24, wv_mul, BitVec.mul_twoPow_eq_shiftLeft]
theorem wv_mul16 (t : TypeId) (x : BitVec 32) : binOp .mul t (wv x) (.int .u32 65536) = pure (wv (x <<< 16)) := by
  rw [c16, wv_mul, BitVec.mul_twoPow_eq_shiftLeft]
theorem wv_mul8 (t : TypeId) (x : BitVec 32) : binOp .mul t (wv x) (.int .u32 256) = pure (wv (x <<< 8)) := by
  rw [c8, wv_mul, BitVec.mul_twoPow_eq_shiftLeft]
theorem not_all (x : BitVec 32) : BitVec.allOnes 32 - x = ~~~x := by
  apply BitVec.eq_of_toNat_eq
  have := x.isLt
  rw [BitVec.toNat_sub, BitVec.toNat_not, BitVec.toNat_allOnes]
  omega
theorem wv_subc (t : TypeId) (x : BitVec 32) : binOp .sub t (.int .u32 4294967295) (wv x) = pure (wv (~~~x)) := by
  rw [cFF, wv_sub, not_all]
theorem wv_quo (t : TypeId) (x : BitVec 32) (k : Nat) (n : Int) (hn : n = ((2 ^ k : Nat) : Int)) : binOp .quo t (wv x) (.int .u32 n) = pure (wv (x >>> k)) := by
  subst hn
  have h2 : 0 < 2 ^ k := Nat.pow_pos (by decide)
  have hx := x.isLt
  simp only [wv, binOp, Op.intArith, ne_eq, not_true_eq_false, if_false]
  unfold Op.intDiv
  rw [if_neg (by omega)]
  simp only
  congr 2
  rw [← Int.ofNat_tdiv, BitVec.toNat_ushiftRight, Nat.shiftRight_eq_div_pow]
  have h3 : x.toNat / 2 ^ k ≤ x.toNat := Nat.div_le_self _ _
  generalize x.toNat / 2 ^ k = q at h3
  simp only [IntKind.wrap_u32]
  omega
theorem wv_quo24 (t : TypeId) (x : BitVec 32) : binOp .quo t (wv x) (.int .u32 16777216) = pure (wv (x >>> 24)) := wv_quo t x 24 _ (by decide)
theorem wv_quo16 (t : TypeId) (x : BitVec 32) : binOp .quo t (wv x) (.int .u32 65536) = pure (wv (x >>> 16)) := wv_quo t x 16 _ (by decide)
theorem wv_quo8 (t : TypeId) (x : BitVec 32) : binOp .quo t (wv x) (.int .u32 256) = pure (wv (x >>> 8)) := wv_quo t x 8 _ (by decide)

theorem bw_bit (b : UInt8) (i : Nat) (h : 8 ≤ i) : (bw b).getLsbD i = false := by
  unfold bw
  rw [BitVec.getLsbD_setWidth, BitVec.getLsbD_of_ge _ _ h]; simp
theorem shl_or (x : BitVec 32) (b : UInt8) (k : Nat) (h : ∀ i, i < k + 8 → x.getLsbD i = false) : x + bw b <<< k = x ||| bw b <<< k := by
  refine BitVec.add_eq_or_of_and_eq_zero _ _ ?_
  apply BitVec.eq_of_getLsbD_eq
  intro i hi
  rw [BitVec.getLsbD_and, BitVec.getLsbD_shiftLeft]
  by_cases h1 : i < k + 8
  · rw [h i h1]; simp
  · rw [bw_bit b (i - k) (by omega)]; simp
theorem shl_bit (b : UInt8) (k i : Nat) (h : i < k) : (bw b <<< k).getLsbD i = false := by
  rw [BitVec.getLsbD_shiftLeft]; simp [h]
theorem be4_sum (b0 b1 b2 b3 : UInt8) : bw b0 <<< 24 + bw b1 <<< 16 + bw b2 <<< 8 + bw b3 = bw b0 <<< 24 ||| bw b1 <<< 16 ||| bw b2 <<< 8 ||| bw b3 := by
  rw [shl_or (bw b0 <<< 24) b1 16 (fun i h => shl_bit _ _ _ h)]
  rw [shl_or _ b2 8 (fun i h => by rw [BitVec.getLsbD_or, shl_bit _ _ _ (by omega), shl_bit _ _ _ (by omega)]; rfl)]
  have := shl_or (bw b0 <<< 24 ||| bw b1 <<< 16 ||| bw b2 <<< 8) b3 0 (fun i h => by rw [BitVec.getLsbD_or, BitVec.getLsbD_or, shl_bit _ _ _ (by omega), shl_bit _ _ _ (by omega), shl_bit _ _ _ (by omega)]; rfl)
  rw [BitVec.shiftLeft_zero] at this
  exact this

attribute [local go_sem] wv_add wv_xor wv_and wv_or wv_shr wv_shl wv_store bv_store bv_conv wv_conv wv_cells bv_cells no_cells wv_cellsOf bv_cellsOf wv_mul24 wv_mul16 wv_mul8 wv_subc

def rootV : List (Nat × Value) := rootL.zipIdx.map fun (x, i) => (i, .int .u32 (x.toNat : Int))
theorem rootL_len : rootL.length = 64 := rfl
theorem zero64_len : (List.replicate 64 (0 : BitVec 32)).length = 64 := rfl

end Go.Proofs.Ytgnciejbhaebeaa

/- What the reference's block answers. Conditions: eight words, 64 bytes. -/
namespace Go.Proofs.Ytgnciejbhaebeaa
open Go Go.RowKit
attribute [local go_sem] wv_add wv_xor wv_and wv_or wv_shr wv_shl wv_store bv_store bv_conv wv_conv wv_cells bv_cells no_cells wv_cellsOf bv_cellsOf wv_mul24 wv_mul16 wv_mul8 wv_subc

end Go.Proofs.Ytgnciejbhaebeaa

/- What the reference's Padded answers. Conditions: the length fits. -/
namespace Go.Proofs.Ytgnciejbhaebeaa
open Go Go.RowKit

theorem be8_val2 (n t : Nat) (h : t ≤ 7) (s : Nat) (hs : s = 56 - 8 * t) : Value.int .u8 ((n : Int) * 8 / 2 ^ s % 256) = bv (lo8 (8 * n / 256 ^ (7 - t))) := by
  unfold bv
  rw [lo8_nat, show (256 : Nat) ^ (7 - t) = 2 ^ s by rw [hs, show 56 - 8 * t = 8 * (7 - t) by omega, Nat.pow_mul], Nat.mul_comm 8 n]
  congr 1
def sliceLen2 : Value → Nat
  | .slice _ n _ => n
  | _ => 0

end Go.Proofs.Ytgnciejbhaebeaa

/- A store of one cell, the world left open: what is known of the block goes on. Conditions: none. -/
namespace Go.Proofs.Ytgnciejbhaebeaa
open Go Go.RowKit

theorem run_put1 {P : Program} (w : World) (b o : Nat) (ty : TypeId) (v : Value) (ht : w.there b o 1) (hi : (P.info? ty).map (·.size) = some 1) (h1 : v.oneCell' = true) :
    (storeVar ty ⟨b, o, none⟩ v).run P w = .ok () (w.setCells b o [v]) := by
  have := run_storeCells_cells (P := P) b o [v] 0 w (fun j hj => by simpa using (ht j (by simpa using hj)).1) (fun j hj => by simpa using (ht j (by simpa using hj)).2) (fun x hx => by simp at hx; subst hx; exact h1)
  have hc : v.cells = #[v] := by cases v <;> first | rfl | cases h1
  cases hq : P.info? ty with
  | none => simp [hq] at hi
  | some i =>
    have hs : i.size = 1 := by simpa [hq] using hi
    simp only [Nat.add_zero] at this
    simp [storeVar, sizeOf, typeInfo, hq, hc, hs, this]
theorem there_one {w : World} {g i : Nat} {cs : Array Value} {t : TypeId} (h : w.heap[g]? = some (.cells cs t (0, 0))) (hi : i < cs.size) : w.there g i 1 := by
  intro j hj
  obtain rfl : j = 0 := by omega
  rw [Nat.add_zero]
  exact ⟨by rw [heap_cell h, Array.getElem?_eq_getElem hi]; rfl, heap_free h i⟩
/-- A store of one cell into a block that is known whole. -/
theorem wpList_put1 {P : Program} (w : World) {ops : Array Oper} {rest : List Oper} {o : Oper} {a : Act} {Q : Exit → Act → World → Prop} (hgd : o.guard = none) (ty : TypeId) (x y : Operand) (ho : o.op = .store ty x y)
    (g i : Nat) (v : Value) (hx : a.eval x = .pointer (some ⟨g, i, none⟩)) (hy : a.eval y = v) (t : TypeId) (cs : Array Value) (hB : w.heap[g]? = some (.cells cs t (0, 0))) (hi : i < cs.size)
    (hs : (P.info? ty).map (·.size) = some 1) (h1 : v.oneCell' = true)
    (h : ∀ w', w'.heap[g]? = some (.cells (cs.setIfInBounds i v) t (0, 0)) → w.grownBy w' (some g) → wpList P ops Q rest (a.put o.dst undef) w') : wpList P ops Q (o :: rest) a w := by
  refine wpList_plain hgd fun K hK => ?_
  unfold Oper.wp execOp
  simp only [ho, hx, hy, Instr.storeAt, Instr.sureAddr, Sem.run_bind, Sem.run_pure, Result.andThen_ok, run_put1 w g i ty v (there_one hB hi) hs h1]
  refine hK _ _ (h _ ?_ ?_)
  · exact heap_set hB i v
  · exact only_set g i v
theorem info_b : (Try.prog.info? 5).map (·.size) = some 1 := by kernel_rfl
theorem wpList_putB (w : World) {ops : Array Oper} {rest : List Oper} {o : Oper} {a : Act} {Q : Exit → Act → World → Prop} (hgd : o.guard = none) (x y : Operand) (ho : o.op = .store 5 x y)
    (g i : Nat) (b : UInt8) (hx : a.eval x = .pointer (some ⟨g, i, none⟩)) (hy : a.eval y = bv b) (t : TypeId) (l : List UInt8) (hB : Bs w g t l) (hi : i < l.length)
    (h : ∀ w', Bs w' g t (l.set i b) → w.grownBy w' (some g) → wpList Try.prog ops Q rest (a.put o.dst undef) w') : wpList Try.prog ops Q (o :: rest) a w := by
  refine wpList_put1 w hgd 5 x y ho g i (bv b) hx hy t _ hB (by simpa using hi) info_b rfl fun w' h1 h2 => h w' ?_ h2
  unfold Bs
  rw [h1, List.map_set]
  simp
theorem far_cell {w w' : World} {r g i : Nat} {v : Value} (hg : w.grownBy w' (some r)) (hc : w.cell? ⟨g, i, none⟩ = some v) (hne : r ≠ g) : w'.cell? ⟨g, i, none⟩ = some v :=
  (World.cell?_of_block (w := w) (a := ⟨g, i, none⟩) (hg.block g (World.block_lt_of_cell? w ⟨g, i, none⟩ hc) (fun e => hne (by injection e with e; exact e.symm)))).trans hc
end Go.Proofs.Ytgnciejbhaebeaa

/- What the reference's Sum answers: the same as sha.Sum. Conditions: the parts' lengths fit. -/
namespace Go.Proofs.Ytgnciejbhaebeaa
open Go Go.RowKit
attribute [local go_sem] wv_store bv_store bv_conv wv_conv wv_cells bv_cells no_cells wv_cellsOf bv_cellsOf wv_quo24 wv_quo16 wv_quo8

theorem outP_four (h : List (BitVec 32)) (t : Nat) :
    (((((outP h (4 * t)).set (4 * t) (wb (getW h t >>> 24))).set (4 * t + 1) (wb (getW h t >>> 16))).set (4 * t + 2) (wb (getW h t >>> 8))).set (4 * t + 3) (wb (getW h t))) = outP h (4 * (t + 1)) := by
  rw [show 4 * (t + 1) = 4 * t + 1 + 1 + 1 + 1 by omega]
  simp only [outP, outB]
  rw [show 4 * t / 4 = t by omega, show (4 * t + 1) / 4 = t by omega, show (4 * t + 1 + 1) / 4 = t by omega, show (4 * t + 1 + 1 + 1) / 4 = t by omega]
  rw [show 24 - 8 * (4 * t % 4) = 24 by omega, show 24 - 8 * ((4 * t + 1) % 4) = 16 by omega, show 24 - 8 * ((4 * t + 1 + 1) % 4) = 8 by omega, show 24 - 8 * ((4 * t + 1 + 1 + 1) % 4) = 0 by omega]
  rw [BitVec.ushiftRight_zero]
theorem ownsNew (w : World) (o : Obj) : OwnB ((w.alloc o).alloc (.cells #[] 5)) (w.heap.size + 1) (.slice (some ⟨w.heap.size + 1, 0, none⟩) 0 0) ([] : List UInt8) := by
  have h : OwnB ((w.alloc o).alloc (.cells #[] 5)) (w.heap.size + 1) (.slice (some ⟨(w.alloc o).heap.size, 0, none⟩) 0 0) ([] : List UInt8) := World.ownsRow_made (w.alloc o) #[] 0 (by simp) (Nat.zero_le _) rfl
  rw [World.size_alloc] at h
  exact h
end Go.Proofs.Ytgnciejbhaebeaa

/- A sum as one value: held against another one; the two sums of the chapter's example, worked out. Conditions: none. -/
namespace Go.Proofs.Ytgnciejbhaebeaa
open Go Go.RowKit

def bl (b : UInt8) : Lit := .int .u8 (b.toNat : Int)
theorem bl_inj {x y : UInt8} (h : bl x = bl y) : x = y := by
  simp only [bl, Lit.int.injEq, true_and] at h
  exact UInt8.toNat_inj.1 (by omega)
theorem bl_map {a b : List UInt8} (h : a.map bl = b.map bl) : a = b := by
  induction a generalizing b with
  | nil => cases b with
    | nil => rfl
    | cons y b => simp at h
  | cons x a ih => cases b with
    | nil => simp at h
    | cons y b =>
      simp only [List.map_cons, List.cons.injEq] at h
      rw [bl_inj h.1, ih h.2]
theorem mapM_range {α : Type} (n : Nat) (f : Nat → Option α) (g : Nat → α) (h : ∀ i, i < n → f i = some (g i)) : (List.range n).mapM f = some ((List.range n).map g) := by
  have go : ∀ (is : List Nat), (∀ i ∈ is, i < n) → is.mapM f = some (is.map g) := by
    intro is
    induction is with
    | nil => intro _; rfl
    | cons i is ih =>
      intro hi
      rw [List.mapM_cons, h i (hi i (by simp)), ih (fun j hj => hi j (by simp [hj]))]
      rfl
  exact go _ (fun i hi => List.mem_range.1 hi)
theorem flat1 {α : Type} (g : Nat → α) (is : List Nat) : (is.map fun i => [g i]).flatten = is.map g := by
  induction is with
  | nil => rfl
  | cons i is ih => rw [List.map_cons, List.flatten_cons, ih]; rfl
theorem cells_u8 : Try.prog.cellsOf 5 = 1 := by kernel_rfl
/-- The sum of bytes, as one value. -/
def sumV (b : List UInt8) : Value := .agg ((sumL b).map bv).toArray
set_option maxRecDepth 100000 in
theorem sum_none : (sumL [])[0]? = some 0xe3 ∧ (sumL [])[31]? = some 0x55 := by decide +kernel
set_option maxRecDepth 100000 in
theorem sum_abc : (sumL [97, 98, 99])[0]? = some 0xba ∧ (sumL [97, 98, 99])[1]? = some 0x78 ∧ (sumL [97, 98, 99])[31]? = some 0xad := by decide +kernel
end Go.Proofs.Ytgnciejbhaebeaa

/- What the laws on sums call: the fixed example, the size, all held against all. Conditions: the table stands. -/
namespace Go.Proofs.Ytgnciejbhaebeaa
open Go Go.RowKit
theorem sumV_agg (b : List UInt8) : sumV b = .agg ((sumL b).map bv).toArray := rfl
theorem get_of (l : List UInt8) (i : Nat) (x : UInt8) (h : l[i]? = some x) : getB l i = x := by simp [getB, List.getD, h]
theorem z32_len : (List.replicate 32 (0 : UInt8)).length = 32 := rfl

theorem conv_const (w : World) (C : Array Value) (n c : Nat) : (convert 27 27 (.slice (some ⟨w.heap.size, 0, none⟩) n c)).run Try.prog (w.alloc (.cells C 5)) = .ok (.slice (some ⟨w.heap.size, 0, none⟩) n c) (w.alloc (.cells C 5 (C.size, C.size + 1))) :=
  Lib.run_convert_bytes_const w 27 5 C n c Try.underlying27 Try.underlying5
theorem Rd.litM (w : World) (vs : List Value) (t : TypeId) (fr : Nat × Nat) : Rd (w.alloc (.cells vs.toArray t fr)) (some ⟨w.heap.size, 0, none⟩) vs := by
  refine .inr ⟨w.heap.size, 0, rfl, by simp, fun k hk => ?_⟩
  rw [Nat.zero_add, World.cell?_alloc_mark]
  simp

theorem RdS_one (w : World) (A : Option Addr) (n c : Nat) (b : List UInt8) (t : TypeId) (hn : b.length = n) (hr : Rd w A (b.map bv)) (h1 : n ≤ c) (h2 : c ≤ maxLen) :
    RdS (w.alloc (.cells #[.slice A n c] t)) (some ⟨w.heap.size, 0, none⟩) [b] := by
  refine .inr ⟨w.heap.size, 0, rfl, by simp, fun k hk => ?_⟩
  obtain rfl : k = 0 := by simp at hk; omega
  refine ⟨A, c, ?_, hr.alloc _, by simpa [hn] using h1, h2⟩
  rw [cell_of_row _ _ 0 _ _ (0, 0) (heap_alloc_new w _)]
  simp [hn]
attribute [local go_sem] conv_const

/-! ### The size -/
def SzOk (bss : List (List UInt8)) (e : Ending) : Prop := ∃ r : Int, e = .returned (.int .i64 r) ∧ 0 ≤ r ∧ r ≤ 9000000000000000000 ∧ (r ≤ 16384 → bss.flatten.length ≤ 16384)
/-! ### All held against all -/
theorem Same_q (A1 A2 : Option Addr) (n c1 c2 : Nat) (xs : List UInt8) (w : World) (l1 : xs.length = n) (h1 : Rd w A1 (xs.map bv)) (h2 : Rd w A2 (xs.map bv)) (m1 : n ≤ maxLen) (q m : Nat) :
    Calls Try.prog 21 #[.slice A1 n c1, .slice A2 n c2] (w.drewN (q + m)) fun e w' => e = .returned (.bool true) ∧ ∃ k, w' = w.drewN (q + k) :=
  (Same_t A1 A2 n n c1 c2 xs (w.drewN (q + m)) l1 l1 (h1.drewN _) (h2.drewN _) m1).mono fun _ _ ⟨he, q', hw⟩ => ⟨he, m + q', by rw [hw, World.drewN_drewN, Nat.add_assoc]⟩
/-- A literal slice of slices in a new block. -/
theorem RdS_lit (w : World) (ps : List (Option Addr × Nat × Nat)) (bss : List (List UInt8)) (t : TypeId) (hl : ps.length = bss.length)
    (h : ∀ x ∈ ps.zip bss, x.2.length = x.1.2.1 ∧ Rd w x.1.1 (x.2.map bv) ∧ x.1.2.1 ≤ x.1.2.2 ∧ x.1.2.2 ≤ maxLen) :
    RdS (w.alloc (.cells (ps.map fun p => Value.slice p.1 p.2.1 p.2.2).toArray t)) (some ⟨w.heap.size, 0, none⟩) bss := by
  refine .inr ⟨w.heap.size, 0, rfl, by simp, fun k hk => ?_⟩
  have hk' : k < ps.length := by omega
  have hz : k < (ps.zip bss).length := by simp; omega
  obtain ⟨h1, h2, h3, h4⟩ := h _ (List.getElem_mem hz)
  simp only [List.getElem_zip] at h1 h2 h3 h4
  refine ⟨ps[k].1, ps[k].2.2, ?_, h2.alloc _, by omega, h4⟩
  rw [Nat.zero_add, cell_of_row _ _ k _ _ (0, 0) (heap_alloc_new w _), h1]
  simp [hk']
end Go.Proofs.Ytgnciejbhaebeaa

/- What fixed of the law of layer 24 answers: true. Conditions: none. -/
namespace Go.Proofs.Ytgnciejbhaebeaa
open Go Go.RowKit
attribute [local go_sem] conv_const

def e97 : Ev := ⟨1, [97], 0, 0, 0⟩
def d97 (g : Nat) : EvV := ⟨1, some ⟨g, 0, none⟩, 1, 1, 0, 0, 0⟩
theorem num28 : putL true 2 8 = [0, 0, 0, 0, 0, 0, 0, 2] := by
  show numLI 2 8 = _
  unfold numLI
  rw [if_pos (by decide)]
  decide
theorem fix_enc1 : encE 1 2 [e97] = ([0, 0, 0, 0, 0, 0, 0, 2, 1, 1, 1, 97], 0) := by
  rw [encE, if_neg (by decide), if_neg (by decide), encL, show decide ((1 : Int) = 1) = true from rfl, num28]
  show ([0, 0, 0, 0, 0, 0, 0, 2] ++ putL true 1 1 ++ evsL true [e97], 0) = _
  rw [putL_small true 1 (by decide)]
  have : evsL true [e97] = putL true 1 1 ++ (putL true 1 1 ++ [97]) := rfl
  rw [this, putL_small true 1 (by decide)]
  rfl
theorem fix_enc3 : encE 3 2 [e97] = ([2, 1, 1, 1, 97], 0) := by
  rw [encE, if_neg (by decide), if_neg (by decide), encL, show decide ((3 : Int) = 1) = false from rfl]
  have h2 : putL false 2 8 = [2] := by
    show varL 2 = _
    rw [varL, if_pos (by decide)]
    rfl
  rw [h2]
  show ([2] ++ putL false 1 1 ++ evsL false [e97], 0) = _
  rw [putL_small false 1 (by decide)]
  have : evsL false [e97] = putL false 1 1 ++ (putL false 1 1 ++ [97]) := by
    simp [evsL, evL, e97]
  rw [this, putL_small false 1 (by decide)]
  rfl

set_option maxRecDepth 100000 in
set_option maxHeartbeats 4000000 in
theorem fixed24_c (w : World) : Calls Try.prog 17 #[] w fun e w' => e = .returned (.bool true) ∧ Below w.heap.size w w' := by
  obtain ⟨w1, ew1⟩ : ∃ w1, w1 = (w.alloc (.cells #[.int .u8 97] 5 (1, 2))).alloc (.cells #[.int .i64 1, .slice (some ⟨w.heap.size, 0, none⟩) 1 1, .int .i64 0, .int .i64 0, .int .i64 0] 36) := ⟨_, rfl⟩
  have k1 : Below w.heap.size w w1 := by rw [ew1]; exact ((Below.refl _ _).alloc (Nat.le_refl _) _).alloc (by simp) _
  have r1 : EvsR (· < w1.heap.size) w1 (some ⟨w.heap.size + 1, 0, none⟩) [d97 w.heap.size] [e97] := by
    have hsz : w1.heap.size = w.heap.size + 2 := by rw [ew1]; simp
    refine ⟨rfl, ?_, fun _ a e => (by injection e with e; rw [← e, hsz]; show w.heap.size + 1 < _; omega), fun i h1 h2 => ?_⟩
    · have := Rd.lit (w.alloc (.cells #[.int .u8 97] 5 (1, 2))) (cellsV [d97 w.heap.size]) 36
      rw [ew1]
      simpa [cellsV, EvV.cells, d97] using this
    · have hi : i = 0 := by simpa using h1
      subst hi
      have := (Rd.litM w (([97] : List UInt8).map bv) 5 (1, 2)).alloc (.cells #[.int .i64 1, .slice (some ⟨w.heap.size, 0, none⟩) 1 1, .int .i64 0, .int .i64 0, .int .i64 0] 36)
      refine ⟨rfl, rfl, rfl, rfl, rfl, ?_, Nat.le_refl _, (by decide : (1 : Nat) ≤ maxLen), fun _ a e => (by injection e with e; rw [← e, hsz]; show w.heap.size < _; omega), (by decide : (1 : Nat) ≤ 140737488355328)⟩
      rw [ew1]
      exact this
  have R1 := Lib.hid r1; clear r1
  have EW := Lib.hid ew1; clear ew1
  go_enter Try.func17, Try.ntmps17
  go_wp2_with (fail)
  rw [← EW.out]
  refine (Encode_c (· < w1.heap.size) 1 2 _ 1 1 _ _ w1 (by unfold U64; decide) rfl R1.out (by decide)).mono ?_
  rintro r w2 ⟨v2, rfl, ho2, hb2⟩
  rw [fix_enc1] at ho2 ⊢
  obtain ⟨A2, c2, rfl, p2, q2, rd2, bl2⟩ := OwnB.form ho2
  have z2 := hb2.size
  have k2 := k1.trans (hb2.mono k1.size)
  have HA2 := Lib.hid rd2
  have R2 := Lib.hid (R1.out.below hb2)
  clear ho2 hb2 rd2 R1
  go_wp2_with (fail)
  refine (Encode_c (· < w1.heap.size) 3 2 _ 1 1 _ _ w2 (by unfold U64; decide) rfl R2.out (by decide)).mono ?_
  rintro r w3 ⟨v3, rfl, ho3, hb3⟩
  rw [fix_enc3] at ho3 ⊢
  obtain ⟨A3, c3, rfl, p3, q3, rd3, bl3⟩ := OwnB.form ho3
  have z3 := hb3.size
  have k3 := k2.trans (hb3.mono k2.size)
  have HA3 := Lib.hid rd3
  have HA2' := Lib.hid (HA2.out.below hb3)
  have R3 := Lib.hid (R2.out.below hb3)
  clear ho3 hb3 rd3 R2 HA2
  go_wp2_with (fail)
  refine (NewInbox_c w3).mono ?_
  rintro r w4 ⟨rfl, hi4, hb4⟩
  have k4 := k3.trans (hb4.mono k3.size)
  have HA3' := Lib.hid (HA3.out.below hb4)
  have HA2 := Lib.hid (HA2'.out.below hb4)
  have R4 := Lib.hid (R3.out.below hb4)
  have I4 := Lib.hid hi4
  clear hb4 R3 HA3 HA2' hi4
  go_wp2_with (fail)
  refine (NewQueue_c w4).mono ?_
  rintro r w5 ⟨rfl, -, hb5, -⟩
  have k5 := k4.trans (hb5.mono k4.size)
  have HA3 := Lib.hid (HA3'.out.below hb5)
  have HA2' := Lib.hid (HA2.out.below hb5)
  have R5 := Lib.hid (R4.out.below hb5)
  have I5 := Lib.hid (I4.out.below hb5)
  clear hb5 R4 HA3' HA2 I4
  go_wp2_with (fail)
  refine (Take24_c (· < w1.heap.size) w3.heap.size 0 1 _ 1 1 _ _ w5 (by unfold U63; decide) (by unfold U64; decide) I5.out rfl R5.out (Nat.le_refl _) (by decide) (by decide)).mono ?_
  rintro r w6 ⟨v6, rfl, -, hi6, hg6⟩
  have t6 : tkR 0 1 [e97] = ([], 15, 0) := rfl
  rw [t6] at hi6 ⊢
  obtain ⟨g, eg⟩ : ∃ g, g = w3.heap.size := ⟨_, rfl⟩
  have n2 : ∀ b off, A2 = some ⟨b, off, none⟩ → (some g : Option Nat) ≠ some b := by
    intro b off e e2
    have := (bl2 _ e).2.1
    injection e2 with e2
    simp only at this; omega
  have n3 : ∀ b off, A3 = some ⟨b, off, none⟩ → (some g : Option Nat) ≠ some b := by
    intro b off e e2
    have := (bl3 _ e).2.1
    injection e2 with e2
    simp only at this; omega
  have hgw : w.heap.size ≤ g := by rw [eg]; exact k3.size
  have hg1 : w1.heap.size ≤ g := by omega
  rw [← eg] at hi6 hg6 I5
  rw [← eg]
  have k6 := k5.grown hg6 k5.size (fun k e => by injection e with e; rw [← e]; exact hgw)
  have H2 := Lib.hid (HA2'.out.grown hg6 n2)
  have H3 := Lib.hid (HA3.out.grown hg6 n3)
  have R6 := Lib.hid (R5.out.frame (fun k hk hkw => hg6.block k hkw (fun e => by injection e with e; have : k < w1.heap.size := hk; omega)) hg6.size)
  have I6 := Lib.hid hi6
  clear hi6 hg6 bl2 bl3 HA2' HA3 R5 I5 eg t6
  go_wp2_with (fail)
  refine (Take24_c (· < w1.heap.size) g 0 0 _ 1 1 _ _ w6 (by unfold U63; decide) (by unfold U64; decide) I6.out rfl R6.out (Nat.le_refl _) (by decide) (by decide)).mono ?_
  rintro r w7 ⟨v7, rfl, ⟨ds7, hv7⟩, hi7, hg7⟩
  have t7 : tkR 0 0 [e97] = ([e97], 0, 1) := rfl
  rw [t7] at hi7 hv7 ⊢
  obtain ⟨A7, c7, rfl, -, -, -⟩ := hv7.form
  have k7 := k6.grown hg7 k6.size (fun k e => by injection e with e; rw [← e]; exact hgw)
  have HH2 := Lib.hid (H2.out.grown hg7 n2)
  have HH3 := Lib.hid (H3.out.grown hg7 n3)
  have I7 := Lib.hid hi7
  clear hi7 hg7 hv7 n2 n3 H2 H3 R6 I6 t7
  have a7 : Below w7.heap.size w7 (w7.alloc (.cells #[.int .u8 0, .int .u8 0, .int .u8 0, .int .u8 0, .int .u8 0, .int .u8 0, .int .u8 0, .int .u8 2, .int .u8 1, .int .u8 1, .int .u8 1, .int .u8 97] 5)) := (Below.refl _ _).alloc (Nat.le_refl _) _
  have l7 := Rd.lit w7 (([0, 0, 0, 0, 0, 0, 0, 2, 1, 1, 1, 97] : List UInt8).map bv) 5
  go_wp2_with (fail)
  refine (Same_t A2 (some ⟨w7.heap.size, 0, none⟩) 12 12 c2 12 [0, 0, 0, 0, 0, 0, 0, 2, 1, 1, 1, 97] _ rfl rfl (HH2.out.below a7) l7 (by decide)).mono ?_
  rintro r w8 ⟨rfl, q8, rfl⟩
  obtain ⟨w8, ew8⟩ : ∃ w8, w8 = (w7.alloc (.cells #[.int .u8 0, .int .u8 0, .int .u8 0, .int .u8 0, .int .u8 0, .int .u8 0, .int .u8 0, .int .u8 2, .int .u8 1, .int .u8 1, .int .u8 1, .int .u8 97] 5)).drewN q8 := ⟨_, rfl⟩
  have b8 : Below w7.heap.size w7 w8 := by rw [ew8]; exact below_drewN a7 _
  rw [← ew8]
  have k8 := k7.trans (b8.mono k7.size)
  have h3 := HH3.out.below b8
  have i8 := I7.out.below b8
  have a8 : Below w8.heap.size w8 (w8.alloc (.cells #[.int .u8 2, .int .u8 1, .int .u8 1, .int .u8 1, .int .u8 97] 5)) := (Below.refl _ _).alloc (Nat.le_refl _) _
  have l8 := Rd.lit w8 (([2, 1, 1, 1, 97] : List UInt8).map bv) 5
  have H3 := Lib.hid h3
  have I8 := Lib.hid i8
  clear ew8 l7 a7 HH2 HH3 I7 b8 k7 h3 i8
  go_wp2_with (fail)
  refine (Same_t A3 (some ⟨w8.heap.size, 0, none⟩) 5 5 c3 5 [2, 1, 1, 1, 97] _ rfl rfl (H3.out.below a8) l8 (by decide)).mono ?_
  rintro r w9 ⟨rfl, q9, rfl⟩
  have b9 := below_drewN a8 q9
  have k9 := k8.trans (b9.mono k8.size)
  have i9 := I8.out.below b9
  have I9 := Lib.hid i9
  clear i9 b9 a8 l8 k8 I8 H3
  go_wp2_with (fail)
  refine (Got_c g 1 _ I9.out).mono ?_
  rintro r wz ⟨rfl, rfl⟩
  go_wp2_with (fail)
  go_ret
  exact ⟨rfl, k9⟩
end Go.Proofs.Ytgnciejbhaebeaa

/- What great answers of events. Conditions: events that can be read. -/
namespace Go.Proofs.Ytgnciejbhaebeaa
open Go Go.RowKit

def greatGo : Nat → List Ev → Bool
  | _, [] => false
  | s, e :: es => if s + (1 + e.t.length) > 16384 then true else greatGo (s + (1 + e.t.length)) es
def greatB (es : List Ev) : Bool := greatGo 0 es
theorem greatGo_sum : ∀ (es : List Ev) (s : Nat), s ≤ 16384 → greatGo s es = false → s + es.length + (es.map (fun e => e.t.length)).sum ≤ 16384
  | [], s, h, _ => by simpa using h
  | e :: es, s, h, hg => by
    rw [greatGo] at hg
    split at hg
    · cases hg
    · have := greatGo_sum es _ (by omega) hg
      simp only [List.length_cons, List.map_cons, List.sum_cons]
      omega

set_option maxRecDepth 100000 in
set_option maxHeartbeats 1000000 in
theorem great_c (ok : Nat → Prop) (A : Option Addr) (n c : Nat) (ds : List EvV) (es : List Ev) (w : World) (hn : es.length = n) (hr : EvsR ok w A ds es) (hc : n ≤ c) (hm : c ≤ maxLen) :
    Calls Try.prog 16 #[.slice A n c] w fun r w' => r = .returned (.bool (greatB es)) ∧ ∃ q, w' = w.drewN q := by
  have hlen := hr.len
  unfold maxLen at hm
  have HN := Lib.hid hn; clear hn
  have HL := Lib.hid hlen; clear hlen
  have HR := Lib.hid hr; clear hr
  obtain ⟨R, eR⟩ : ∃ R, R = greatB es := ⟨_, rfl⟩
  rw [← eR]
  have ER := Lib.hid eR; clear eR
  go_enter Try.func16, Try.ntmps16
  go_wp2
  go_loopw [3, 7] (fun s i wr => ∃ (S k : Nat), k ≤ n ∧ S ≤ 16384 ∧ s = .int .i64 S ∧ i = .int .i64 k ∧ Hid (greatB es = greatGo S (es.drop k)) ∧ ∃ q, wr = w.drewN q) (fun _ i _ => n - (intOf i).toNat)
  case atStart => exact ⟨0, 0, Nat.zero_le _, Nat.zero_le _, rfl, rfl, Lib.hid (by rw [List.drop_zero]; rfl), 0, rfl⟩
  case round =>
    obtain ⟨S, k, hk, hS, rfl, rfl, HG, q, rfl⟩ := hrel
    rcases Nat.lt_or_ge k n with hlt | hge
    · obtain ⟨b, off, rfl, hb, _, hcell⟩ := HR.out.five (by rw [HN.out]; omega)
      have hke : k < es.length := by rw [HN.out]; exact hlt
      have hkd : k < ds.length := by rw [HL.out]; exact hke
      obtain ⟨c0, c1, c2, c3, c4⟩ := hcell k hkd
      obtain ⟨-, -, -, -, t1, -, t3, t4, -, t5⟩ := HR.out.each k hkd hke
      obtain ⟨m, em⟩ : ∃ m, m = ds[k].n := ⟨_, rfl⟩
      rw [← em] at t1 t3 t5 c1
      unfold maxLen at t4
      obtain ⟨cm, ecm⟩ : ∃ cm, cm = ds[k].c := ⟨_, rfl⟩
      rw [← ecm] at t3 t4 c1
      obtain ⟨Am, eAm⟩ : ∃ Am, Am = ds[k].A := ⟨_, rfl⟩
      rw [← eAm] at c1
      have hd : es.drop k = es[k] :: es.drop (k + 1) := List.drop_eq_getElem_cons hke
      have hg := HG.out
      rw [hd, greatGo, t1] at hg
      have HG2 := Lib.hid hg; clear hg hd t1 em ecm eAm c0 c2 c3 c4 hcell HG
      have hlt' : (k : Int) < (n : Int) := by omega
      by_cases hgt : S + (1 + m) > 16384
      · have hgt' : (16384 : Int) < (S : Int) + (1 + (m : Int)) := by omega
        have hR : R = true := by rw [ER.out, HG2.out, if_pos hgt]
        have HRR := Lib.hid hR; clear hR hgt
        go_wp2
        go_ret
        exact ⟨by rw [HRR.out] <;> rfl, _, rfl⟩
      · have hgt' : (S : Int) + (1 + (m : Int)) ≤ 16384 := by omega
        have hG3 : greatB es = greatGo (S + (1 + m)) (es.drop (k + 1)) := by rw [HG2.out, if_neg hgt]
        have HG3 := Lib.hid hG3; clear hG3 HG2
        have hS2 : S + (1 + m) ≤ 16384 := by omega
        clear hgt
        go_wp2
        go_roundw
        case rel => exact ⟨S + (1 + m), k + 1, by omega, hS2, by go_num, by go_num, HG3, _, rfl⟩
        case measure => simp [intOf]; omega
    · obtain rfl : n = k := by omega
      have hR : R = false := by rw [ER.out, HG.out, ← HN.out, List.drop_length]; rfl
      have HRR := Lib.hid hR; clear hR
      go_wp2
      go_ret
      exact ⟨by rw [HRR.out] <;> rfl, _, rfl⟩
end Go.Proofs.Ytgnciejbhaebeaa

/- What the reference's Same answers of the same events. Conditions: events that can be read. -/
namespace Go.Proofs.Ytgnciejbhaebeaa
open Go Go.RowKit

set_option maxRecDepth 100000 in
set_option maxHeartbeats 4000000 in
theorem Same24_t (ok1 ok2 : Nat → Prop) (A1 A2 : Option Addr) (n c1 c2 : Nat) (ds1 ds2 : List EvV) (es : List Ev) (w : World) (hn : es.length = n) (h1 : EvsR ok1 w A1 ds1 es) (h2 : EvsR ok2 w A2 ds2 es) (hm : n ≤ 140737488355328) :
    Calls Try.prog 24 #[.slice A1 n c1, .slice A2 n c2] w fun r w' => r = .returned (.bool true) ∧ ∃ q, w' = w.drewN q := by
  have HN := Lib.hid hn; clear hn
  have hnn : ((n : Int) != (n : Int)) = false := by simp
  go_enter Try.func24, Try.ntmps24
  go_wp2
  go_loopw [13] (fun i wr => ∃ (k : Nat), k ≤ n ∧ i = .int .i64 k ∧ ∃ q, wr = w.drewN q) (fun i _ => n - (intOf i).toNat)
  case atStart => exact ⟨0, Nat.zero_le _, rfl, 0, rfl⟩
  case round =>
    obtain ⟨k, hk, rfl, q, rfl⟩ := hrel
    rcases Nat.lt_or_ge k n with hlt | hge
    · obtain ⟨e, b1, o1, At1, m1, cm1, ee, rfl, hb1, -, t1, c0, ca, cb, cc, cd⟩ := h1.at_ k (by rw [HN.out]; exact hlt)
      obtain ⟨e', b2, o2, At2, m2, cm2, ee', rfl, hb2, -, t2, d0, da, db, dc, dd⟩ := h2.at_ k (by rw [HN.out]; exact hlt)
      obtain rfl : e = e' := ee.trans ee'.symm
      clear ee ee'
      obtain ⟨z0, t, z2, z3, z4⟩ := e
      obtain ⟨l1, r1, l3, l4, -, l5⟩ := t1
      obtain ⟨g1, r2, g3, g4, -, g5⟩ := t2
      simp only at c0 ca cb cc cd d0 da db dc dd l1 g1 r1 r2
      obtain rfl : m1 = m2 := l1.symm.trans g1
      have L1 := Lib.hid l1; clear l1 g1
      have hlt' : (k : Int) < (n : Int) := by omega
      have n0 : (z0 != z0) = false := by simp
      have n2 : (z2 != z2) = false := by simp
      have n3 : (z3 != z3) = false := by simp
      have n4 : (z4 != z4) = false := by simp
      go_wp2
      go_quiet ((go_at_call 21; exact Same_q At1 At2 m1 cm1 cm2 t _ L1.out r1 r2 (by omega) _ _))
      go_wp2
      go_roundw
      case rel => exact ⟨k + 1, by omega, by go_num, _, rfl⟩
      case measure => simp [intOf]; omega
    · obtain rfl : k = n := by omega
      go_wp2
      go_ret
      exact ⟨rfl, _, rfl⟩
end Go.Proofs.Ytgnciejbhaebeaa

/- How a law's arguments are opened: integers, bools, strings, slices of bytes. Conditions: none. -/
namespace Go.Proofs.Ytgnciejbhaebeaa
open Go Go.RowKit Go.ChangeShapes Go.WideShapes

theorem opn_int {H : Type} {enc : TypeId × Value → H} {P : Program} {W : World} {base t : Nat} {k : IntKind} {v : Value} {d : DataW H} {p : List MemPlace} (ht : P.underlying t = some (.int k))
    (hv : Value.okWide P W .any base t v) (hj : DataW.Trod enc P W 0 (fun _ => true) true t v d p) : ∃ a, v = .int k a ∧ (Lit.int k a).wf = true := by
  obtain ⟨a, h1, _, _, h2⟩ := open_int ht hv hj
  exact ⟨a, h1, h2⟩
theorem opn_bool {H : Type} {enc : TypeId × Value → H} {P : Program} {W : World} {base t : Nat} {v : Value} {d : DataW H} {p : List MemPlace} (ht : P.underlying t = some .bool)
    (hv : Value.okWide P W .any base t v) (hj : DataW.Trod enc P W 0 (fun _ => true) true t v d p) : ∃ a, v = .bool a := by
  obtain ⟨a, h1, _, _⟩ := open_bool ht hv hj
  exact ⟨a, h1⟩
theorem opn_string {H : Type} {enc : TypeId × Value → H} {P : Program} {W : World} {base t j : Nat} {v : Value} {d : DataW H} {p : List MemPlace} {ts : List TypeId} {ds : List (DataW H)} (ht : P.underlying t = some .string)
    (hv : Value.okWide P W .any base t v) (hj : DataW.Trod enc P W 0 (fun _ => true) true t v d p) (hsz : (DataW.weightsEach P ts ds).all (· ≤ reachBytes) = true) (h1 : ts[j]? = some t) (h2 : ds[j]? = some d) :
    ∃ s : ByteArray, v = .string s ∧ s.size ≤ 140737488351232 := by
  obtain ⟨s, g1, g2, _, _⟩ := Go.ChangeMaps.open_string ht hv hj
  subst g2
  have := sized_string hsz h1 h2
  exact ⟨s, g1, by simpa [reachBytes] using this⟩

/-- The values of a slice of bytes. -/
theorem rd_of_ints {W : World} {a : Addr} {zs : List Int} {len : Nat} (hl : len ≤ zs.length) (hcell : ∀ i, i < zs.length → W.cell? (a.add i) = some (.int .u8 (zs.getD i 0))) (hwz : ∀ n ∈ zs, (Lit.int .u8 n).wf = true) :
    ∃ bs : List UInt8, bs.length = len ∧ Rd W (some a) (bs.map bv) := by
  refine ⟨(zs.take len).map (fun z => UInt8.ofNat z.toNat), by simp; omega, ?_⟩
  rcases Nat.eq_zero_or_pos len with h0 | h0
  · subst h0; exact .inl (by simp)
  · obtain ⟨b, off, spot⟩ := a
    have h1 := hcell 0 (by omega)
    have hs : spot = none := by simpa [Addr.add] using World.cell?_spot h1
    subst hs
    refine .inr ⟨b, off, rfl, ?_, fun k hk => ?_⟩
    · exact World.block_lt_of_cell? W ⟨b, off, none⟩ (by simpa [Addr.add] using h1)
    · have hk' : k < zs.length := by simp at hk; omega
      have h2 := hcell k hk'
      rw [Addr.add_lit] at h2
      rw [h2]
      have hb := bounds_u8 (hwz zs[k] (List.getElem_mem hk'))
      simp only [List.getElem_map, List.getElem_take, bv, List.getD_eq_getElem?_getD, List.getElem?_eq_getElem hk', Option.getD_some, UInt8.toNat_ofNat']
      congr 2
      omega

theorem opn_bytes {H : Type} {enc : TypeId × Value → H} {P : Program} {W : World} {base t e j : Nat} {v : Value} {d : DataW H} {p : List MemPlace} {ts : List TypeId} {ds : List (DataW H)} (ht : P.underlying t = some (.slice e)) (he : P.underlying e = some (.int .u8)) (hc : P.cellsOf e = 1) (hb : P.bytesOf e = 1)
    (hv : Value.okWide P W .any base t v) (hj : DataW.Trod enc P W 0 (fun _ => true) true t v d p) (hsz : (DataW.weightsEach P ts ds).all (· ≤ reachBytes) = true) (h1 : ts[j]? = some t) (h2 : ds[j]? = some d) :
    ∃ (A : Option Addr) (n c : Nat) (bs : List UInt8), v = .slice A n c ∧ bs.length = n ∧ Rd W A (bs.map bv) ∧ n ≤ c ∧ c ≤ maxLen ∧ n ≤ 140737488351232 := by
  obtain ⟨a0, len, cap, rfl⟩ := okWide_slice ht hv
  obtain ⟨fuel, hf⟩ := hj
  rcases open_ints ht he hc hf with ⟨hcs, _⟩ | ⟨x, l, c, zs, hcs, _, hl, hm, hz, hx, hcell, hwz⟩
  · simp [Value.cells] at hcs
    obtain ⟨rfl, rfl, rfl⟩ := hcs
    exact ⟨none, 0, 0, [], rfl, rfl, .inl rfl, Nat.le_refl _, Nat.zero_le _, by decide⟩
  · simp [Value.cells] at hcs
    obtain ⟨rfl, rfl, rfl⟩ := hcs
    simp only [Prod.mk.injEq] at hx
    obtain ⟨rfl, _⟩ := hx
    simp only [if_true] at hz
    have hs := sized_slice hsz h1 h2 ht
    rw [hb] at hs
    simp only [lits, List.length_map, List.length_take, List.length_drop, reachBytes] at hs
    obtain ⟨bs, g1, g2⟩ := rd_of_ints (len := len) (by omega) hcell hwz
    exact ⟨some x, len, cap, bs, rfl, g1, g2, hl, hm, by omega⟩

theorem list_of_all {α : Type} {Q : Nat → α → Prop} (n : Nat) (h : ∀ i, i < n → ∃ x, Q i x) : ∃ l : List α, l.length = n ∧ ∀ i (hi : i < l.length), Q i l[i] := by
  induction n with
  | zero => exact ⟨[], rfl, fun i hi => absurd hi (by simp)⟩
  | succ n ih =>
    obtain ⟨l, h1, h2⟩ := ih (fun i hi => h i (by omega))
    obtain ⟨x, hx⟩ := h n (by omega)
    refine ⟨l ++ [x], by simp [h1], fun i hi => ?_⟩
    rcases Nat.lt_or_ge i l.length with hlt | hge
    · rw [List.getElem_append_left hlt]; exact h2 i hlt
    · have : i = n := by simp at hi; omega
      subst this
      rw [List.getElem_append_right hge]
      simpa using hx

/-- A pair of ints by value. -/
theorem opn_pair {H : Type} {enc : TypeId × Value → H} {P : Program} {W : World} {base t : Nat} {f0 f1 : Field} {v : Value} {d : DataW H} {p : List MemPlace} (hs : P.underlying t = some (.struct #[f0, f1])) (hone : Deep.oneCellFields P #[f0, f1] = true) (hC : P.cellsOf t = 2)
    (h0 : P.underlying f0.type = some (.int .i64)) (h1 : P.underlying f1.type = some (.int .i64))
    (hv : Value.okWide P W .any base t v) (hj : DataW.Trod enc P W 0 (fun _ => true) true t v d p) : ∃ a b : Int, v = .agg #[.int .i64 a, .int .i64 b] ∧ ((Lit.int .i64 a).wf = true ∧ (Lit.int .i64 b).wf = true) := by
  obtain ⟨v0, v1, y0, y1, n, rfl, _, _, g0, g1⟩ := Joins.open_agg2 hs hone hC hv hj
  obtain ⟨a, e0, _, wa⟩ := DataW.trod_int h0 g0
  obtain ⟨b, e1, _, wb⟩ := DataW.trod_int h1 g1
  simp at e0 e1
  subst e0 e1
  exact ⟨a, b, rfl, wa, wb⟩

/-- The address reads as these pairs. -/
def RdP (w : World) (A : Option Addr) (zs : List (Int × Int)) : Prop :=
  zs = [] ∨ ∃ b off, A = some ⟨b, off, none⟩ ∧ b < w.heap.size ∧ ∀ k (h : k < zs.length), w.cell? ⟨b, off + k * 2, none⟩ = some (.int .i64 zs[k].1) ∧ w.cell? ⟨b, off + k * 2 + 1, none⟩ = some (.int .i64 zs[k].2)
theorem RdP.below {w w' : World} {A : Option Addr} {zs : List (Int × Int)} (h : RdP w A zs) (hb : Below w.heap.size w w') : RdP w' A zs := by
  rcases h with h | ⟨b, off, hA, hlt, hc⟩
  · exact .inl h
  · exact .inr ⟨b, off, hA, Nat.lt_of_lt_of_le hlt hb.size, fun k hk => ⟨(hb.cell (p := ⟨b, _, none⟩) hlt).trans (hc k hk).1, (hb.cell (p := ⟨b, _, none⟩) hlt).trans (hc k hk).2⟩⟩

theorem opn_pairs {H : Type} {enc : TypeId × Value → H} {P : Program} {W : World} {base t e j : Nat} {f0 f1 : Field} {v : Value} {d : DataW H} {p : List MemPlace} {ts : List TypeId} {ds : List (DataW H)} (ht : P.underlying t = some (.slice e)) (hs : P.underlying e = some (.struct #[f0, f1])) (hone : Deep.oneCellFields P #[f0, f1] = true) (hC : P.cellsOf e = 2) (hB : P.bytesOf e = 16)
    (h0 : P.underlying f0.type = some (.int .i64)) (h1 : P.underlying f1.type = some (.int .i64)) (_ : True)
    (hv : Value.okWide P W .any base t v) (hj : DataW.Trod enc P W 0 (fun _ => true) true t v d p) (hsz : (DataW.weightsEach P ts ds).all (· ≤ reachBytes) = true) (k1 : ts[j]? = some t) (k2 : ds[j]? = some d) :
    ∃ (A : Option Addr) (n c : Nat) (zs : List (Int × Int)), v = .slice A n c ∧ (zs.length = n ∧ RdP W A zs ∧ n ≤ c ∧ c ≤ maxLen ∧ n * 16 ≤ 140737488351232 ∧ ∀ z ∈ zs, (Lit.int .i64 z.1).wf = true ∧ (Lit.int .i64 z.2).wf = true) := by
  obtain ⟨a0, len, cap, rfl⟩ := okWide_slice ht hv
  obtain ⟨fuel, hf⟩ := hj
  rcases Deep.open_slice ht hf with ⟨hcs, _⟩ | ⟨a, l, c, m, n, D, Pl, hcs, _, hl, hm, hmm, hx, hcell⟩
  · simp [Value.cells] at hcs
    obtain ⟨rfl, rfl, rfl⟩ := hcs
    exact ⟨none, 0, 0, [], rfl, rfl, .inl rfl, Nat.le_refl _, Nat.zero_le _, by decide, by simp⟩
  · simp [Value.cells] at hcs
    obtain ⟨rfl, rfl, rfl⟩ := hcs
    simp only [if_true] at hmm
    subst hmm
    simp only [Prod.mk.injEq] at hx
    obtain ⟨rfl, _⟩ := hx
    have hb := sized_slice hsz k1 k2 ht
    rw [hB] at hb
    simp only [List.length_map, List.length_range, reachBytes] at hb
    obtain ⟨o0, o1⟩ := (⟨Deep.hone_of hone 0 f0 rfl, Deep.hone_of hone 1 f1 rfl⟩ : _ ∧ _)
    have each : ∀ i, i < len → ∃ z : Int × Int, (W.cell? (a.add (i * 2)) = some (.int .i64 z.1) ∧ W.cell? ((a.add (i * 2)).add 1) = some (.int .i64 z.2)) ∧ (Lit.int .i64 z.1).wf = true ∧ (Lit.int .i64 z.2).wf = true := by
      intro i hi
      obtain ⟨cs', g1, g2⟩ := hcell i (by omega)
      rw [hC] at g1
      obtain ⟨_, hlen, hg⟩ := World.cells?_some g1
      obtain ⟨y0, y1, m, _, _, t0, t1⟩ := trod_struct2 hs g2
      match cs', hlen with
      | [u0, u1], _ =>
        rw [o0.1, o0.2] at t0
        rw [o1.1, o1.2] at t1
        obtain ⟨x0, e0, _, wa⟩ := DataW.trod_int h0 t0
        obtain ⟨x1, e1, _, wb⟩ := DataW.trod_int h1 t1
        simp at e0 e1
        subst e0 e1
        have c0 := hg 0 (by decide)
        have c1 := hg 1 (by decide)
        exact ⟨(x0, x1), ⟨by simpa [Addr.add] using c0, by simpa using c1⟩, wa, wb⟩
    obtain ⟨zs, hz1, hz2⟩ := list_of_all len each
    refine ⟨some a, len, _, zs, rfl, hz1, ?_, hl, hm, by omega, fun z hz => ?_⟩
    · rcases Nat.eq_zero_or_pos len with h0 | h0
      · left; exact List.eq_nil_of_length_eq_zero (by omega)
      · obtain ⟨b, off, spot⟩ := a
        have hz0 := (hz2 0 (by omega)).1.1
        have hsp : spot = none := by simpa [Addr.add] using World.cell?_spot hz0
        subst hsp
        refine .inr ⟨b, off, rfl, World.block_lt_of_cell? W ⟨b, off, none⟩ (by simpa [Addr.add] using hz0), fun k hk => ?_⟩
        have := (hz2 k hk).1
        simpa [Addr.add_lit] using this
    · obtain ⟨i, hi, rfl⟩ := List.mem_iff_getElem.1 hz
      exact (hz2 i hi).2
end Go.Proofs.Ytgnciejbhaebeaa

/- How a law's argument is opened: a slice of slices of bytes; a slice of ints. Conditions: none. -/
namespace Go.Proofs.Ytgnciejbhaebeaa
open Go Go.RowKit Go.ChangeShapes Go.WideShapes

theorem weightsAll_mem {H : Type} {P : Program} {e : TypeId} : ∀ {l : List (DataW H)} {d : DataW H}, d ∈ l → ∀ n ∈ d.weights P e, n ∈ DataW.weightsAll P e l
  | d' :: r, d, hd, n, hn => by
    simp only [DataW.weightsAll, List.mem_append]
    rcases List.mem_cons.1 hd with rfl | h
    · exact Or.inl hn
    · exact Or.inr (weightsAll_mem h n hn)
theorem sized_inner {H : Type} {P : Program} {ts : List TypeId} {ds : List (DataW H)} (h : (DataW.weightsEach P ts ds).all (· ≤ reachBytes) = true) {j : Nat} {t e q : TypeId} {elems spare e' sp' : List (DataW H)}
    (ht : ts[j]? = some t) (hd : ds[j]? = some (.slice elems spare)) (hu : P.underlying t = some (.slice e)) (hu2 : P.underlying e = some (.slice q)) (hx : DataW.slice e' sp' ∈ elems) : (e'.length + sp'.length) * P.bytesOf q ≤ reachBytes := by
  refine of_decide_eq_true (List.all_eq_true.1 h _ (DataW.weights_mem_each ht hd _ ?_))
  simp only [DataW.weights, hu, List.mem_cons, List.mem_append]
  exact Or.inr (Or.inl (weightsAll_mem hx _ (by simp [DataW.weights, hu2])))

theorem opn_bytess {H : Type} {enc : TypeId × Value → H} {P : Program} {W : World} {base t e q j : Nat} {v : Value} {d : DataW H} {p : List MemPlace} {ts : List TypeId} {ds : List (DataW H)} (ht : P.underlying t = some (.slice e)) (he : P.underlying e = some (.slice q)) (hq : P.underlying q = some (.int .u8))
    (ce : P.cellsOf e = 1) (be : P.bytesOf e = 24) (cq : P.cellsOf q = 1) (bq : P.bytesOf q = 1)
    (hv : Value.okWide P W .any base t v) (hj : DataW.Trod enc P W 0 (fun _ => true) true t v d p) (hsz : (DataW.weightsEach P ts ds).all (· ≤ reachBytes) = true) (k1 : ts[j]? = some t) (k2 : ds[j]? = some d) :
    ∃ (A : Option Addr) (n c : Nat) (bss : List (List UInt8)), v = .slice A n c ∧ (bss.length = n ∧ RdS W A bss ∧ n ≤ c ∧ c ≤ maxLen ∧ n * 24 ≤ 140737488351232 ∧ ∀ b ∈ bss, b.length ≤ 140737488351232) := by
  obtain ⟨a0, len, cap, rfl⟩ := okWide_slice ht hv
  obtain ⟨fuel, hf⟩ := hj
  rcases Deep.open_int_rows ht he hq ce cq hf with ⟨hcs, _⟩ | ⟨a, l, c, A, L, C, Z, hcs, _, hl, hm, hx, hcell⟩
  · simp [Value.cells] at hcs
    obtain ⟨rfl, rfl, rfl⟩ := hcs
    exact ⟨none, 0, 0, [], rfl, rfl, .inl rfl, Nat.le_refl _, Nat.zero_le _, by decide, by simp⟩
  · simp [Value.cells] at hcs
    obtain ⟨rfl, rfl, rfl⟩ := hcs
    simp only [Prod.mk.injEq] at hx
    obtain ⟨rfl, _⟩ := hx
    have hb := sized_slice hsz k1 k2 ht
    rw [be] at hb
    simp only [List.length_map, List.length_range, reachBytes] at hb
    have each : ∀ i, i < len → ∃ b : List UInt8, b.length = L i ∧ Rd W (A i) (b.map bv) ∧ b.length ≤ 140737488351232 := by
      intro i hi
      obtain ⟨g1, g2, g3, g4, g5, g6, g7⟩ := hcell i (by omega)
      cases hA : A i with
      | none =>
        have h0 := g6 hA
        exact ⟨[], by simp; omega, .inl rfl, by simp⟩
      | some a' =>
        obtain ⟨_, h2⟩ := g7 a' hA
        obtain ⟨bs, h3, h4⟩ := rd_of_ints (W := W) (a := a') (zs := Z i) (len := L i) (by omega) (fun k hk => h2 k (by omega)) g5
        refine ⟨bs, h3, h4, ?_⟩
        have hmem : DataW.slice (lits (H := H) .u8 ((Z i).take (L i))) (lits .u8 ((Z i).drop (L i))) ∈ (List.range len).map (fun r => Deep.intRow (H := H) .u8 (A r) (L r) (Z r)) := by
          refine List.mem_map.2 ⟨i, List.mem_range.2 hi, ?_⟩
          simp [Deep.intRow, hA]
        have h5 := sized_inner hsz k1 k2 ht he hmem
        rw [bq] at h5
        simp only [lits, List.length_map, List.length_take, List.length_drop, reachBytes] at h5
        omega
    obtain ⟨bss, z1, z2⟩ := list_of_all len each
    refine ⟨some a, len, _, bss, rfl, z1, ?_, hl, hm, by omega, fun b hb' => ?_⟩
    · rcases Nat.eq_zero_or_pos len with h0 | h0
      · left; exact List.eq_nil_of_length_eq_zero (by omega)
      · obtain ⟨b, off, spot⟩ := a
        have hz0 := (hcell 0 (by omega)).1
        have hsp : spot = none := by simpa [Addr.add] using World.cell?_spot hz0
        subst hsp
        refine .inr ⟨b, off, rfl, World.block_lt_of_cell? W ⟨b, off, none⟩ (by simpa [Addr.add] using hz0), fun k hk => ?_⟩
        obtain ⟨g1, g2, g3, _⟩ := hcell k (by omega)
        obtain ⟨z3, z4, _⟩ := z2 k hk
        rw [Addr.add_lit] at g1
        exact ⟨A k, C k, by rw [z3]; exact g1, z4, by rw [z3]; exact g2, g3⟩
    · obtain ⟨i, hi, rfl⟩ := List.mem_iff_getElem.1 hb'
      exact (z2 i hi).2.2

/-- The address reads as these ints. -/
def RdI (w : World) (A : Option Addr) (zs : List Int) : Prop :=
  zs = [] ∨ ∃ b off, A = some ⟨b, off, none⟩ ∧ b < w.heap.size ∧ ∀ k (h : k < zs.length), w.cell? ⟨b, off + k, none⟩ = some (.int .i64 zs[k])
theorem RdI.below {w w' : World} {A : Option Addr} {zs : List Int} (h : RdI w A zs) (hb : Below w.heap.size w w') : RdI w' A zs := by
  rcases h with h | ⟨b, off, hA, hlt, hc⟩
  · exact .inl h
  · exact .inr ⟨b, off, hA, Nat.lt_of_lt_of_le hlt hb.size, fun k hk => (hb.cell (p := ⟨b, _, none⟩) hlt).trans (hc k hk)⟩
theorem RdI.addr {w : World} {A : Option Addr} {zs : List Int} (h : RdI w A zs) (h0 : 0 < zs.length) : ∃ b off, A = some ⟨b, off, none⟩ ∧ b < w.heap.size ∧ ∀ k (h : k < zs.length), w.cell? ⟨b, off + k, none⟩ = some (.int .i64 zs[k]) := by
  rcases h with rfl | h
  · simp at h0
  · exact h
theorem opn_ints {H : Type} {enc : TypeId × Value → H} {P : Program} {W : World} {base t e j : Nat} {v : Value} {d : DataW H} {p : List MemPlace} {ts : List TypeId} {ds : List (DataW H)} (ht : P.underlying t = some (.slice e)) (he : P.underlying e = some (.int .i64)) (hc : P.cellsOf e = 1) (hb : P.bytesOf e = 8)
    (hv : Value.okWide P W .any base t v) (hj : DataW.Trod enc P W 0 (fun _ => true) true t v d p) (hsz : (DataW.weightsEach P ts ds).all (· ≤ reachBytes) = true) (h1 : ts[j]? = some t) (h2 : ds[j]? = some d) :
    ∃ (A : Option Addr) (n c : Nat) (zs : List Int), v = .slice A n c ∧ (zs.length = n ∧ RdI W A zs ∧ n ≤ c ∧ c ≤ maxLen ∧ n * 8 ≤ 140737488351232 ∧ ∀ z ∈ zs, (Lit.int .i64 z).wf = true) := by
  obtain ⟨a0, len, cap, rfl⟩ := okWide_slice ht hv
  obtain ⟨fuel, hf⟩ := hj
  rcases open_ints ht he hc hf with ⟨hcs, _⟩ | ⟨x, l, c, zs, hcs, _, hl, hm, hz, hx, hcell, hwz⟩
  · simp [Value.cells] at hcs
    obtain ⟨rfl, rfl, rfl⟩ := hcs
    exact ⟨none, 0, 0, [], rfl, rfl, .inl rfl, Nat.le_refl _, Nat.zero_le _, by decide, by simp⟩
  · simp [Value.cells] at hcs
    obtain ⟨rfl, rfl, rfl⟩ := hcs
    simp only [Prod.mk.injEq] at hx
    obtain ⟨rfl, _⟩ := hx
    simp only [if_true] at hz
    have hs := sized_slice hsz h1 h2 ht
    rw [hb] at hs
    simp only [lits, List.length_map, List.length_take, List.length_drop, reachBytes] at hs
    refine ⟨some x, len, cap, zs.take len, rfl, by simp; omega, ?_, hl, hm, by omega, fun z hz' => hwz z (List.mem_of_mem_take hz')⟩
    rcases Nat.eq_zero_or_pos len with h0 | h0
    · subst h0; exact .inl (by simp)
    · obtain ⟨b, off, spot⟩ := x
      have h1 := hcell 0 (by omega)
      have hs : spot = none := by simpa [Addr.add] using World.cell?_spot h1
      subst hs
      refine .inr ⟨b, off, rfl, World.block_lt_of_cell? W ⟨b, off, none⟩ (by simpa [Addr.add] using h1), fun k hk => ?_⟩
      have hk' : k < zs.length := by simp at hk; omega
      have h2 := hcell k hk'
      rw [Addr.add_lit] at h2
      rw [h2]
      simp [hk']
end Go.Proofs.Ytgnciejbhaebeaa
