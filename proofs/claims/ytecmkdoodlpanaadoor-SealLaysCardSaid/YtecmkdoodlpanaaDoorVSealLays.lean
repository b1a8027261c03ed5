/- The walk of the law SealLays: it returns true. Conditions: the row's own; the table stands. -/
import Derived.Test.YtecmkdoodlpanaaDoorSe8
import Derived.Test.YtecmkdoodlpanaaDoorOp2
namespace Go.Proofs.YtecmkdoodlpanaaDoor
open Go Go.RowKit

set_option maxRecDepth 100000 in
set_option maxHeartbeats 4000000 in
theorem SealLays_walk (w : World) (Ak : Option Addr) (nk ck : Nat) (key : List UInt8) (hnk : key.length = nk) (hrk : Rd w Ak (key.map bv)) (hck : nk ≤ ck) (hmk : ck ≤ maxLen) (hlk : nk ≤ 140737488351232)
    (k e q : Nat) (d : Bool) (hh : k < 256 ∧ U32 e ∧ U64 q)
    (A : Option Addr) (n c : Nat) (body : List UInt8) (hn : body.length = n) (hr : Rd w A (body.map bv)) (hc : n ≤ c) (hm : c ≤ maxLen) (hl : n ≤ 140737488351232) (hT : Tab w) :
    Calls Tryd.prog 3 #[.slice Ak nk ck, .agg #[.int .u8 (k : Int), .bool d, .int .u32 (e : Int), .int .u64 (q : Int)], .slice A n c] w fun r w' => r = .returned (.bool true) ∧ Below w.heap.size w w' := by
  obtain ⟨hk, he, hq⟩ := hh
  have HNK := Lib.hid hnk; clear hnk
  have HN := Lib.hid hn; clear hn
  have HT := Lib.hid hT; clear hT
  have k0 : Below w.heap.size w (w.alloc (.cells #[.int .u8 (k : Int), .bool d, .int .u32 (e : Int), .int .u64 (q : Int)] 26)) := (Below.refl _ _).alloc (Nat.le_refl _) _
  have HB0 := Lib.hid (Bx.new w k e q d)
  have hho : (⟨k, d, e, q⟩ : Hd).ok := ⟨hk, he, hq⟩
  have HHO := Lib.hid hho; clear hho
  obtain ⟨L, er, eS⟩ : ∃ L er, sealR key ⟨k, d, e, q⟩ body = (L, er) := ⟨_, _, rfl⟩
  have hse := seal_err key ⟨k, d, e, q⟩ body
  have hso := seal_ok key ⟨k, d, e, q⟩ body
  rw [eS] at hse hso
  simp only at hse hso
  have HSE := Lib.hid hse; clear hse
  have HSO := Lib.hid hso; clear hso
  have ES := Lib.hid eS; clear eS
  obtain ⟨⟨c0, c1, c2, c3⟩, f0, f1, f2, f3⟩ := HB0.out.cells
  rcases Nat.lt_or_ge 1000 nk with hb1 | hb1
  · have b1 : (1000 : Int) < (nk : Int) := by omega
    clear hb1
    go_enter Tryd.func3, Tryd.ntmps3
    go_wp2_with (fail)
    refine (fixed6_c _ (Tab.below HT.out k0 HT.out.1)).mono ?_
    rintro r w1 ⟨rfl, hb1⟩
    go_wp2_with (fail)
    go_ret
    exact ⟨rfl, k0.trans (hb1.mono k0.size)⟩
  have b1 : (nk : Int) ≤ 1000 := by omega
  rcases Nat.lt_or_ge 16384 n with hb2 | hb2
  · have b2 : (16384 : Int) < (n : Int) := by omega
    clear hb1 hb2
    go_enter Tryd.func3, Tryd.ntmps3
    go_wp2_with (fail)
    refine (fixed6_c _ (Tab.below HT.out k0 HT.out.1)).mono ?_
    rintro r w1 ⟨rfl, hb1⟩
    go_wp2_with (fail)
    go_ret
    exact ⟨rfl, k0.trans (hb1.mono k0.size)⟩
  have b2 : (n : Int) ≤ 16384 := by omega
  clear hb1 hb2
  go_enter Tryd.func3, Tryd.ntmps3
  clear c0 c1 c2 c3 f0 f1 f2 f3
  go_wp2_with (fail)
  refine (Copy_c Ak nk ck key _ HNK.out (hrk.below k0) (by omega)).mono ?_
  rintro r w1 ⟨v1, rfl, ho1, hb1⟩
  obtain ⟨A1, c1, rfl, p1, p2, p3, _⟩ := OwnB.form ho1
  rw [HNK.out] at p1 ⊢
  have k1 := k0.trans (hb1.mono k0.size)
  have HB1 := Lib.hid (HB0.out.below hb1)
  have P3 := Lib.hid p3; clear p3 ho1 hb1 HB0 k0
  go_wp2_with (fail)
  refine (Copy_c A n c body _ HN.out (hr.below k1) (by omega)).mono ?_
  rintro r w2 ⟨v2, rfl, ho2, hb2⟩
  obtain ⟨A2, c2, rfl, q1, q2, q3, _⟩ := OwnB.form ho2
  rw [HN.out] at q1 ⊢
  have k2 := k1.trans (hb2.mono k1.size)
  have HB2 := Lib.hid (HB1.out.below hb2)
  have P4 := Lib.hid (P3.out.below hb2)
  have Q3 := Lib.hid q3; clear q3 ho2 hb2 HB1 P3 k1
  obtain ⟨⟨d0, d1, d2, d3⟩, _⟩ := HB2.out.cells
  go_wp2_with (fail)
  refine (Seal_c A1 nk c1 key k e q d A2 n c2 body _ HNK.out P4.out p1 p2 (by omega) hk he hq HN.out Q3.out (Tab.below HT.out k2 HT.out.1)).mono ?_
  rintro r w3 ⟨v3, rfl, HV3, hb3⟩
  rw [ES.out] at HV3 ⊢
  simp only
  have HV3' : Hid (OwnB w3 _ v3 L) := HV3
  obtain ⟨A3, c3, rfl, r1, r2, r3, _⟩ := OwnB.form HV3'.out
  have R3 := Lib.hid r3
  have k3 := k2.trans (hb3.mono k2.size)
  have HB3 := Lib.hid (HB2.out.below hb3)
  have P5 := Lib.hid (P4.out.below hb3)
  have Q4 := Lib.hid (Q3.out.below hb3)
  clear HV3 HV3' r3 hb3 HB2 P4 Q3 k2 d0 d1 d2 d3
  obtain ⟨ln, eln⟩ : ∃ ln, ln = L.length := ⟨_, rfl⟩
  rw [← eln] at r1 ⊢
  have HLN := Lib.hid eln; clear eln
  obtain ⟨⟨d0, d1, d2, d3⟩, _⟩ := HB3.out.cells
  go_wp2_with (fail)
  refine (refSeal_c Ak nk ck key k e q d A n c body _ HNK.out (hrk.below k3) hck hmk (by omega) hk he hq HN.out (hr.below k3)).mono ?_
  rintro r w4 ⟨v4, rfl, HV4, hb4⟩
  rw [ES.out] at HV4 ⊢
  simp only
  have HV4' : Hid (OwnB w4 _ v4 L) := HV4
  obtain ⟨A4, c4, rfl, s1, s2, s3, _⟩ := OwnB.form HV4'.out
  rw [← HLN.out] at s1 ⊢
  have S3 := Lib.hid s3
  have k4 := k3.trans (hb4.mono k3.size)
  have R4 := Lib.hid (R3.out.below hb4)
  have P6 := Lib.hid (P5.out.below hb4)
  have Q5 := Lib.hid (Q4.out.below hb4)
  clear HV4 HV4' s3 hb4 HB3 R3 P5 Q4 k3 d0 d1 d2 d3
  go_wp2_with (fail)
  refine (fixed6_c _ (Tab.below HT.out k4 HT.out.1)).mono ?_
  rintro r w5 ⟨rfl, hb5⟩
  have k5 := k4.trans (hb5.mono k4.size)
  have S4 := Lib.hid (S3.out.below hb5)
  have R5 := Lib.hid (R4.out.below hb5)
  have P7 := Lib.hid (P6.out.below hb5)
  have Q6 := Lib.hid (Q5.out.below hb5)
  clear hb5 S3 R4 P6 Q5 k4
  have lnm : ln ≤ maxLen := Nat.le_trans s1 s2
  go_wp2_with (fail)
  refine (Same_t A3 A4 ln ln c3 c4 L _ HLN.out.symm HLN.out.symm R5.out S4.out lnm).mono ?_
  rintro r w6 ⟨rfl, a6, rfl⟩
  go_wp2_with (fail)
  refine (Same_t A1 Ak nk nk c1 ck key _ HNK.out HNK.out (P7.out.drewN a6) ((hrk.below k5).drewN a6) (by unfold maxLen; omega)).mono ?_
  rintro r w7 ⟨rfl, a7, rfl⟩
  go_wp2_with (fail)
  refine (Same_t A2 A n n c2 c body _ HN.out HN.out (Q6.out.drewN (a6 + a7)) ((hr.below k5).drewN (a6 + a7)) (by unfold maxLen; omega)).mono ?_
  rintro r w8 ⟨rfl, a8, rfl⟩
  go_wp2_with (fail)
  go_ret
  exact ⟨rfl, below_drewN k5 _⟩
end Go.Proofs.YtecmkdoodlpanaaDoor
