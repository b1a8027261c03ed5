/- The walk of the law SealBack: it returns true. Conditions: the row's own; the table stands. -/
import Derived.Test.YtecmkdoodlpanaaDoorSe6
import Derived.Test.YtecmkdoodlpanaaDoorOp2
namespace Go.Proofs.YtecmkdoodlpanaaDoor
open Go Go.RowKit

set_option maxRecDepth 100000 in
set_option maxHeartbeats 4000000 in
theorem SealBack_walk (w : World) (Ak : Option Addr) (nk ck : Nat) (key : List UInt8) (hnk : key.length = nk) (hrk : Rd w Ak (key.map bv)) (hck : nk ≤ ck) (hmk : ck ≤ maxLen) (hlk : nk ≤ 140737488351232)
    (k e q : Nat) (d : Bool) (hh : k < 256 ∧ U32 e ∧ U64 q)
    (A : Option Addr) (n c : Nat) (body : List UInt8) (hn : body.length = n) (hr : Rd w A (body.map bv)) (hc : n ≤ c) (hm : c ≤ maxLen) (hl : n ≤ 140737488351232) (hT : Tab w) :
    Calls Tryd.prog 5 #[.slice Ak nk ck, .agg #[.int .u8 (k : Int), .bool d, .int .u32 (e : Int), .int .u64 (q : Int)], .slice A n c] w fun r w' => r = .returned (.bool true) ∧ Below w.heap.size w w' := by
  obtain ⟨hk, he, hq⟩ := hh
  have HNK := Lib.hid hnk; clear hnk
  have HN := Lib.hid hn; clear hn
  have HT := Lib.hid hT; clear hT
  have k0 : Below w.heap.size w (w.alloc (.cells #[.int .u8 (k : Int), .bool d, .int .u32 (e : Int), .int .u64 (q : Int)] 26)) := (Below.refl _ _).alloc (Nat.le_refl _) _
  have HB0 := Lib.hid (Bx.new w k e q d)
  have hho : (⟨k, d, e, q⟩ : Hd).ok := ⟨hk, he, hq⟩
  have HHO := Lib.hid hho; clear hho
  obtain ⟨L, er, eS⟩ : ∃ L er, sealR key ⟨k, d, e, q⟩ body = (L, er) := ⟨_, _, rfl⟩
  have hse := seal_err key ⟨k, d, e, q⟩ body
  have hso := seal_ok key ⟨k, d, e, q⟩ body
  rw [eS] at hse hso
  simp only at hse hso
  have HSE := Lib.hid hse; clear hse
  have HSO := Lib.hid hso; clear hso
  have ES := Lib.hid eS; clear eS
  obtain ⟨⟨c0, c1, c2, c3⟩, f0, f1, f2, f3⟩ := HB0.out.cells
  rcases Nat.lt_or_ge 1000 nk with hb1 | hb1
  · have b1 : (1000 : Int) < (nk : Int) := by omega
    clear hb1
    go_enter Tryd.func5, Tryd.ntmps5
    go_wp2_with (fail)
    refine (fixed6_c _ (Tab.below HT.out k0 HT.out.1)).mono ?_
    rintro r w1 ⟨rfl, hb1⟩
    go_wp2_with (fail)
    go_ret
    exact ⟨rfl, k0.trans (hb1.mono k0.size)⟩
  have b1 : (nk : Int) ≤ 1000 := by omega
  rcases Nat.lt_or_ge 16384 n with hb2 | hb2
  · have b2 : (16384 : Int) < (n : Int) := by omega
    clear hb1 hb2
    go_enter Tryd.func5, Tryd.ntmps5
    go_wp2_with (fail)
    refine (fixed6_c _ (Tab.below HT.out k0 HT.out.1)).mono ?_
    rintro r w1 ⟨rfl, hb1⟩
    go_wp2_with (fail)
    go_ret
    exact ⟨rfl, k0.trans (hb1.mono k0.size)⟩
  have b2 : (n : Int) ≤ 16384 := by omega
  clear hb1 hb2
  go_enter Tryd.func5, Tryd.ntmps5
  go_wp2_with (fail)
  refine (Seal_c Ak nk ck key k e q d A n c body _ HNK.out (hrk.below k0) hck hmk (by omega) hk he hq HN.out (hr.below k0) (Tab.below HT.out k0 HT.out.1)).mono ?_
  rintro r w1 ⟨v, rfl, HV, hb1⟩
  rw [ES.out] at HV ⊢
  simp only
  have HV1 : Hid (OwnB w1 _ v L) := HV
  have k1 := k0.trans (hb1.mono k0.size)
  have HB1 := Lib.hid (HB0.out.below hb1)
  obtain ⟨A3, c4, rfl, p1, p2, p3, _⟩ := OwnB.form HV1.out
  have P3 := Lib.hid p3; clear p3 HV HV1 hb1 c0 c1 c2 c3 f0 f1 f2 f3 HB0 k0
  obtain ⟨⟨c0, c1, c2, c3⟩, f0, f1, f2, f3⟩ := HB1.out.cells
  by_cases h0 : er = 0
  · subst h0
    obtain ⟨eL, hm0, hn0⟩ := HSO.out rfl
    have hlen : L.length = 14 + n + 16 := by rw [eL, List.length_append, List.length_append, headL_len, tagL_len, HN.out]
    have hop : openR key L = (⟨k, d, e, q⟩, body, 0) := by
      have := open_seal key ⟨k, d, e, q⟩ body HHO.out hm0 hn0
      rw [ES.out] at this
      exact this
    have hpk : peekR L = (⟨k, d, e, q⟩, 0) := by
      rw [eL, List.append_assoc]
      exact peek_laid _ _ HHO.out hm0 (by rw [List.length_append, tagL_len]; omega) (by rw [List.length_append, tagL_len]; omega)
    have HOP := Lib.hid hop; clear hop
    have HPK := Lib.hid hpk; clear hpk eL hm0 hn0
    obtain ⟨ln, eln⟩ : ∃ ln, ln = L.length := ⟨_, rfl⟩
    rw [← eln] at p1 hlen ⊢
    have HLN := Lib.hid eln; clear eln
    have hln2 : ln ≤ 20000 := by omega
    clear hlen
    go_wp2_with (fail)
    refine (Open_c Ak nk ck key A3 ln c4 L _ HNK.out (hrk.below k1) hck hmk (by omega) HLN.out.symm P3.out p1 p2 (Tab.below HT.out k1 HT.out.1)).mono ?_
    rintro r w2 ⟨v2, rfl, HV2, hb2⟩
    rw [HOP.out] at HV2 ⊢
    simp only [Hd.V]
    have HV3 : Hid (OwnB w2 _ v2 body) := HV2
    obtain ⟨A5, c5, rfl, q1, q2, q3, _⟩ := OwnB.form HV3.out
    have k2 := k1.trans (hb2.mono k1.size)
    have P4 := Lib.hid (P3.out.below hb2)
    have HB2 := Lib.hid (HB1.out.below hb2)
    rw [HN.out] at q1 ⊢
    have al : Below w2.heap.size w2 (w2.alloc (.cells #[.int .u8 (k : Int), .bool d, .int .u32 (e : Int), .int .u64 (q : Int)] 26)) := (Below.refl _ _).alloc (Nat.le_refl _) _
    have HX2 := Lib.hid (Bx.new w2 k e q d)
    have HB3 := Lib.hid (HB2.out.below al)
    have P5 := Lib.hid (P4.out.below al)
    have Q5 := Lib.hid (q3.below al)
    have k3 := k2.trans (al.mono k2.size)
    clear HV2 HV3 q3 hb2 HB1 HB2 P3 P4 k1 k2 al c0 c1 c2 c3 f0 f1 f2 f3
    go_wp2_with (fail)
    refine (Peek_c A3 ln c4 L _ HLN.out.symm P5.out p1 p2).mono ?_
    rintro r w4 ⟨rfl, hb4⟩
    rw [HPK.out]
    simp only [Hd.V]
    have k4 := k3.trans (hb4.mono k3.size)
    have HX4 := Lib.hid (HX2.out.below hb4)
    have HB4 := Lib.hid (HB3.out.below hb4)
    have Q6 := Lib.hid (Q5.out.below hb4)
    have al : Below w4.heap.size w4 (w4.alloc (.cells #[.int .u8 (k : Int), .bool d, .int .u32 (e : Int), .int .u64 (q : Int)] 26)) := (Below.refl _ _).alloc (Nat.le_refl _) _
    have HY4 := Lib.hid (Bx.new w4 k e q d)
    have HX5 := Lib.hid (HX4.out.below al)
    have HB5 := Lib.hid (HB4.out.below al)
    have Q7 := Lib.hid (Q6.out.below al)
    have k5 := k4.trans (al.mono k4.size)
    clear hb4 HX2 HX4 HB3 HB4 P5 Q5 Q6 k3 k4 al
    go_wp2_with (fail)
    refine (fixed6_c _ (Tab.below HT.out k5 HT.out.1)).mono ?_
    rintro r w6 ⟨rfl, hb6⟩
    have k6 := k5.trans (hb6.mono k5.size)
    have HX6 := Lib.hid (HX5.out.below hb6)
    have HY6 := Lib.hid (HY4.out.below hb6)
    have HB6 := Lib.hid (HB5.out.below hb6)
    have Q8 := Lib.hid (Q7.out.below hb6)
    obtain ⟨⟨c0, c1, c2, c3⟩, _⟩ := HB6.out.cells
    obtain ⟨⟨x0, x1, x2, x3⟩, _⟩ := HX6.out.cells
    obtain ⟨⟨y0, y1, y2, y3⟩, _⟩ := HY6.out.cells
    clear hb6 HX5 HY4 HB5 Q7 k5
    go_wp2_with (fail)
    refine (Same_t A5 A n n c5 c body _ HN.out HN.out Q8.out (hr.below k6) (by unfold maxLen; omega)).mono ?_
    rintro r w7 ⟨rfl, qq, rfl⟩
    go_wp2_with (fail)
    go_ret
    exact ⟨rfl, below_drewN k6 qq⟩
  · obtain ⟨eL, hcase⟩ := HSE.out h0
    have hb : ((er : Int) != 0) = true := by rw [bne_iff_ne]; omega
    subst eL
    have HCS := Lib.hid hcase; clear hcase h0 P3
    simp only [List.length_nil] at p1 ⊢
    clear p1
    go_wp2_with (fail)
    refine (fixed6_c _ (Tab.below HT.out k1 HT.out.1)).mono ?_
    rintro r w2 ⟨rfl, hb2⟩
    have k2 := k1.trans (hb2.mono k1.size)
    have HB2 := Lib.hid (HB1.out.below hb2)
    clear hb2 HB1 c0 c1 c2 c3 f0 f1 f2 f3
    obtain ⟨⟨c0, c1, c2, c3⟩, f0, f1, f2, f3⟩ := HB2.out.cells
    go_wp2_with (fail)
    refine (refMay_c k e q d _).mono ?_
    rintro r w3 ⟨rfl, hb3⟩
    have k3 := k2.trans (hb3.mono k2.size)
    obtain ⟨my, emy⟩ : ∃ my, my = mayB ⟨k, d, e, q⟩ := ⟨_, rfl⟩
    rw [← emy]
    cases my with
    | false =>
      clear emy
      go_wp2_with (fail)
      go_ret
      exact ⟨rfl, k3⟩
    | true =>
      have h5 : 512 < n := by
        rcases HCS.out with h | h
        · rw [← emy] at h; cases h
        · rw [HN.out] at h; exact h
      have h6 : (512 : Int) < (n : Int) := by omega
      clear emy h5
      go_wp2_with (fail)
      go_ret
      exact ⟨rfl, k3⟩
end Go.Proofs.YtecmkdoodlpanaaDoor
