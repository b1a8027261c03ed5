/- The walk of the law SealTurned: it returns true. Conditions: the row's own; the table stands. -/
import Derived.Test.YtecmkdoodlpanaaDoorSe6
import Derived.Test.YtecmkdoodlpanaaDoorOp2
import Derived.Test.YtecmkdoodlpanaaDoorSe7
namespace Go.Proofs.YtecmkdoodlpanaaDoor
open Go Go.RowKit
attribute [local go_sem] bv_xor2 bv_eq0 bv_guard bv_store

set_option maxRecDepth 100000 in
set_option maxHeartbeats 4000000 in
theorem SealTurned_walk (w : World) (Ak : Option Addr) (nk ck : Nat) (key : List UInt8) (hnk : key.length = nk) (hrk : Rd w Ak (key.map bv)) (hck : nk ≤ ck) (hmk : ck ≤ maxLen) (hlk : nk ≤ 140737488351232)
    (k e q : Nat) (d : Bool) (hh : k < 256 ∧ U32 e ∧ U64 q)
    (A : Option Addr) (n c : Nat) (body : List UInt8) (hn : body.length = n) (hr : Rd w A (body.map bv)) (hc : n ≤ c) (hm : c ≤ maxLen) (hl : n ≤ 140737488351232)
    (ta : Int) (hta : (Lit.int .u8 ta).wf = true) (ty : Int) (hty : (Lit.int .u8 ty).wf = true) (hT : Tab w) :
    Calls Tryd.prog 7 #[.slice Ak nk ck, .agg #[.int .u8 (k : Int), .bool d, .int .u32 (e : Int), .int .u64 (q : Int)], .slice A n c, .int .u8 ta, .int .u8 ty] w fun r w' => r = .returned (.bool true) ∧ Below w.heap.size w w' := by
  obtain ⟨hk, he, hq⟩ := hh
  obtain ⟨tn, rfl, htn⟩ := u8_of hta
  obtain ⟨yn, rfl, hyn⟩ := u8_of hty
  obtain ⟨Y, eY⟩ : ∃ Y : UInt8, Y = lo yn := ⟨_, rfl⟩
  have hY : Value.int .u8 (yn : Int) = bv Y := by unfold bv; rw [eY, lo_to hyn]
  rw [hY]
  clear hY eY hyn hta hty
  have HNK := Lib.hid hnk; clear hnk
  have HN := Lib.hid hn; clear hn
  have HT := Lib.hid hT; clear hT
  have k0 : Below w.heap.size w (w.alloc (.cells #[.int .u8 (k : Int), .bool d, .int .u32 (e : Int), .int .u64 (q : Int)] 26)) := (Below.refl _ _).alloc (Nat.le_refl _) _
  have HB0 := Lib.hid (Bx.new w k e q d)
  have hho : (⟨k, d, e, q⟩ : Hd).ok := ⟨hk, he, hq⟩
  have HHO := Lib.hid hho; clear hho
  obtain ⟨L, er, eS⟩ : ∃ L er, sealR key ⟨k, d, e, q⟩ body = (L, er) := ⟨_, _, rfl⟩
  have hse := seal_err key ⟨k, d, e, q⟩ body
  have hso := seal_ok key ⟨k, d, e, q⟩ body
  rw [eS] at hse hso
  simp only at hse hso
  have HSE := Lib.hid hse; clear hse
  have HSO := Lib.hid hso; clear hso
  have ES := Lib.hid eS; clear eS
  obtain ⟨⟨c0, c1, c2, c3⟩, f0, f1, f2, f3⟩ := HB0.out.cells
  rcases Nat.lt_or_ge 1000 nk with hb1 | hb1
  · have b1 : (1000 : Int) < (nk : Int) := by omega
    clear hb1
    go_enter Tryd.func7, Tryd.ntmps7
    go_wp2_with (fail)
    refine (fixed6_c _ (Tab.below HT.out k0 HT.out.1)).mono ?_
    rintro r w1 ⟨rfl, hb1⟩
    go_wp2_with (fail)
    go_ret
    exact ⟨rfl, k0.trans (hb1.mono k0.size)⟩
  have b1 : (nk : Int) ≤ 1000 := by omega
  rcases Nat.lt_or_ge 16384 n with hb2 | hb2
  · have b2 : (16384 : Int) < (n : Int) := by omega
    clear hb1 hb2
    go_enter Tryd.func7, Tryd.ntmps7
    go_wp2_with (fail)
    refine (fixed6_c _ (Tab.below HT.out k0 HT.out.1)).mono ?_
    rintro r w1 ⟨rfl, hb1⟩
    go_wp2_with (fail)
    go_ret
    exact ⟨rfl, k0.trans (hb1.mono k0.size)⟩
  have b2 : (n : Int) ≤ 16384 := by omega
  clear hb1 hb2
  go_enter Tryd.func7, Tryd.ntmps7
  go_wp2_with (fail)
  refine (Seal_c Ak nk ck key k e q d A n c body _ HNK.out (hrk.below k0) hck hmk (by omega) hk he hq HN.out (hr.below k0) (Tab.below HT.out k0 HT.out.1)).mono ?_
  rintro r w1 ⟨v, rfl, HV, hb1⟩
  rw [ES.out] at HV ⊢
  simp only
  have HV1 : Hid (OwnB w1 _ v L) := HV
  have k1 := k0.trans (hb1.mono k0.size)
  have HB1 := Lib.hid (HB0.out.below hb1)
  obtain ⟨A3, c4, rfl, p1, p2, p3, _⟩ := OwnB.form HV1.out
  have P3 := Lib.hid p3; clear p3 HV hb1 c0 c1 c2 c3 f0 f1 f2 f3 HB0 k0
  obtain ⟨⟨c0, c1, c2, c3⟩, f0, f1, f2, f3⟩ := HB1.out.cells
  by_cases h0 : er = 0
  · subst h0
    have hbz : ((((0 : Nat) : Int)) != 0) = false := rfl
    obtain ⟨eL, hm0, hn0⟩ := HSO.out rfl
    have hlen : L.length = 14 + n + 16 := by rw [eL, List.length_append, List.length_append, headL_len, tagL_len, HN.out]
    obtain ⟨ln, eln⟩ : ∃ ln, ln = L.length := ⟨_, rfl⟩
    rw [← eln] at p1 hlen HV1 ⊢
    have HLN := Lib.hid eln; clear eln
    by_cases hy0 : Y = 0
    · have hyb : decide (Y = 0) = true := decide_eq_true hy0
      clear hy0 hlen eL hm0 hn0
      go_wp2_with (fail)
      refine (fixed6_c _ (Tab.below HT.out k1 HT.out.1)).mono ?_
      rintro r w2 ⟨rfl, hb2⟩
      go_wp2_with (fail)
      go_ret
      exact ⟨rfl, k1.trans (hb2.mono k1.size)⟩
    · have hyb : decide (Y = 0) = false := decide_eq_false hy0
      have hl30 : (30 : Int) ≤ (ln : Int) := by omega
      obtain ⟨j, hj⟩ : ∃ j, j = 15 - tn % 16 := ⟨_, rfl⟩
      obtain ⟨i, hi⟩ : ∃ i, i = 14 + n + j := ⟨_, rfl⟩
      have hj16 : j < 16 := by omega
      have hil : i < ln := by omega
      obtain ⟨t', e1, e2, e3⟩ := turned key ⟨k, d, e, q⟩ body L eL i j hj16 (by rw [HN.out]; exact hi) Y hy0
      have hop : openR key (L.set i (getB L i ^^^ Y)) = (hd0, [], 8) := by
        rw [e1, open_laid key _ _ _ HHO.out hm0 hn0 e2, if_neg e3]
      have hpk : peekR (L.set i (getB L i ^^^ Y)) = (⟨k, d, e, q⟩, 0) := by
        rw [e1, List.append_assoc]
        exact peek_laid _ _ HHO.out hm0 (by rw [List.length_append, e2]; omega) (by rw [List.length_append, e2]; omega)
      have HOP := Lib.hid hop; clear hop
      have HPK := Lib.hid hpk; clear hpk e1 e2 e3 eL hm0 hn0 hy0
      have hkx : (ln : Int) - 1 - ((tn : Int) % 16) = (i : Int) := by omega
      have hil' : (i : Int) < (ln : Int) := by omega
      have hln2 : ln ≤ 20000 := by omega
      obtain ⟨g, rfl, hg1, hg2, hgl⟩ := HV1.out.open2 (by omega)
      have o1 := HV1.out.cell i (by rw [hgl]; exact hil)
      have o2 := HV1.out.free i
      have og : L[i]'(by rw [hgl]; exact hil) = getB L i := by simp [getB, List.getD, hgl, hil]
      rw [og] at o1
      clear og hj hi hlen hj16 htn
      have hbx := HB1.out.lt
      simp only [World.size_alloc] at hg1
      have hg1' : w.heap.size ≤ g := by omega
      have hset := OwnB.set HV1.out i (getB L i ^^^ Y)
      have HL9 := Lib.hid (rd_of2 hset)
      have hL9 : (L.set i (getB L i ^^^ Y)).length = ln := by rw [List.length_set]; exact hgl
      have HLN9 := Lib.hid hL9; clear hL9
      obtain ⟨L9, eL9⟩ : ∃ L9, L9 = L.set i (getB L i ^^^ Y) := ⟨_, rfl⟩
      rw [← eL9] at HL9 HLN9 HOP HPK
      have ks := k1.setCell (p := ⟨g, i, none⟩) hg1' (bv (getB L i ^^^ Y))
      have HBs := Lib.hid (HB1.out.far (p := ⟨g, i, none⟩) (bv (getB L i ^^^ Y)) (by show w.heap.size ≠ g; omega))
      clear hset eL9
      go_wp2_with (fail)
      refine (Open_c Ak nk ck key (some ⟨g, 0, none⟩) ln c4 L9 _ HNK.out (hrk.below ks) hck hmk (by omega) HLN9.out HL9.out p1 p2 (Tab.below HT.out ks HT.out.1)).mono ?_
      rintro r w2 ⟨v2, rfl, HV2, hb2⟩
      rw [HOP.out] at HV2 ⊢
      simp only [Hd.V, hd0]
      have HV3 : Hid (OwnB w2 _ v2 []) := HV2
      obtain ⟨A5, c5, rfl, q1, q2, q3, _⟩ := OwnB.form HV3.out
      have k2 := ks.trans (hb2.mono ks.size)
      have P4 := Lib.hid (HL9.out.below hb2)
      have HB2 := Lib.hid (HBs.out.below hb2)
      simp only [List.length_nil] at q1 ⊢
      have al : Below w2.heap.size w2 (w2.alloc (.cells #[.int .u8 ((0 : Nat) : Int), .bool false, .int .u32 ((0 : Nat) : Int), .int .u64 ((0 : Nat) : Int)] 26)) := (Below.refl _ _).alloc (Nat.le_refl _) _
      have HX2 := Lib.hid (Bx.new w2 0 0 0 false)
      have HB3 := Lib.hid (HB2.out.below al)
      have P5 := Lib.hid (P4.out.below al)
      have Q5 := Lib.hid (q3.below al)
      have k3 := k2.trans (al.mono k2.size)
      clear HV2 HV3 q3 hb2 HB2 P4 k2 al c0 c1 c2 c3 f0 f1 f2 f3 o1 o2
      go_wp2_with (fail)
      refine (Peek_c (some ⟨g, 0, none⟩) ln c4 L9 _ HLN9.out P5.out p1 p2).mono ?_
      rintro r w4 ⟨rfl, hb4⟩
      rw [HPK.out]
      simp only [Hd.V]
      have k4 := k3.trans (hb4.mono k3.size)
      have HX4 := Lib.hid (HX2.out.below hb4)
      have HB4 := Lib.hid (HB3.out.below hb4)
      have Q6 := Lib.hid (Q5.out.below hb4)
      have al : Below w4.heap.size w4 (w4.alloc (.cells #[.int .u8 (k : Int), .bool d, .int .u32 (e : Int), .int .u64 (q : Int)] 26)) := (Below.refl _ _).alloc (Nat.le_refl _) _
      have HY4 := Lib.hid (Bx.new w4 k e q d)
      have HX5 := Lib.hid (HX4.out.below al)
      have HB5 := Lib.hid (HB4.out.below al)
      have Q7 := Lib.hid (Q6.out.below al)
      have k5 := k4.trans (al.mono k4.size)
      clear hb4 HX2 HX4 HB3 HB4 P5 Q5 Q6 k3 k4 al
      go_wp2_with (fail)
      refine (fixed6_c _ (Tab.below HT.out k5 HT.out.1)).mono ?_
      rintro r w6 ⟨rfl, hb6⟩
      have k6 := k5.trans (hb6.mono k5.size)
      have HX6 := Lib.hid (HX5.out.below hb6)
      have HY6 := Lib.hid (HY4.out.below hb6)
      have HB6 := Lib.hid (HB5.out.below hb6)
      have Q8 := Lib.hid (Q7.out.below hb6)
      obtain ⟨⟨c0, c1, c2, c3⟩, _⟩ := HB6.out.cells
      obtain ⟨⟨x0, x1, x2, x3⟩, _⟩ := HX6.out.cells
      obtain ⟨⟨y0, y1, y2, y3⟩, _⟩ := HY6.out.cells
      clear hb6 HX5 HY4 HB5 Q7 k5
      go_wp2_with (fail)
      go_ret
      exact ⟨rfl, k6⟩
  · obtain ⟨eL, hcase⟩ := HSE.out h0
    have hb : ((er : Int) != 0) = true := by rw [bne_iff_ne]; omega
    subst eL
    clear h0 P3 HV1 hcase
    simp only [List.length_nil] at p1 ⊢
    clear p1
    obtain ⟨yb, eyb⟩ : ∃ yb, yb = decide (Y = 0) := ⟨_, rfl⟩
    cases yb with
    | true =>
      have hyb : decide (Y = 0) = true := eyb.symm
      clear eyb
      go_wp2_with (fail)
      refine (fixed6_c _ (Tab.below HT.out k1 HT.out.1)).mono ?_
      rintro r w2 ⟨rfl, hb2⟩
      go_wp2_with (fail)
      go_ret
      exact ⟨rfl, k1.trans (hb2.mono k1.size)⟩
    | false =>
      have hyb : decide (Y = 0) = false := eyb.symm
      clear eyb
      go_wp2_with (fail)
      refine (fixed6_c _ (Tab.below HT.out k1 HT.out.1)).mono ?_
      rintro r w2 ⟨rfl, hb2⟩
      go_wp2_with (fail)
      go_ret
      exact ⟨rfl, k1.trans (hb2.mono k1.size)⟩
end Go.Proofs.YtecmkdoodlpanaaDoor
