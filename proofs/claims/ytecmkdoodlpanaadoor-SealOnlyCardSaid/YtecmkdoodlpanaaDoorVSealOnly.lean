/- The walk of the law SealOnly: it returns true. Conditions: the row's own; the table stands. -/
import Derived.Test.YtecmkdoodlpanaaDoorSe6
import Derived.Test.YtecmkdoodlpanaaDoorOp2
namespace Go.Proofs.YtecmkdoodlpanaaDoor
open Go Go.RowKit

set_option maxRecDepth 100000 in
set_option maxHeartbeats 4000000 in
theorem SealOnly_walk (w : World) (Ak : Option Addr) (nk ck : Nat) (key : List UInt8) (hnk : key.length = nk) (hrk : Rd w Ak (key.map bv)) (hck : nk ≤ ck) (hmk : ck ≤ maxLen) (hlk : nk ≤ 140737488351232)
    (A : Option Addr) (n c : Nat) (bs : List UInt8) (hn : bs.length = n) (hr : Rd w A (bs.map bv)) (hc : n ≤ c) (hm : c ≤ maxLen) (hl : n ≤ 140737488351232) (hT : Tab w) :
    Calls Tryd.prog 6 #[.slice Ak nk ck, .slice A n c] w fun r w' => r = .returned (.bool true) ∧ Below w.heap.size w w' := by
  have HNK := Lib.hid hnk; clear hnk
  have HN := Lib.hid hn; clear hn
  have HT := Lib.hid hT; clear hT
  obtain ⟨h, L, er, eS⟩ : ∃ h L er, openR key bs = (h, L, er) := ⟨_, _, _, rfl⟩
  have hok : er = 0 → sealR key h L = (bs, 0) ∧ h.ok ∧ L.length ≤ 512 := by
    intro h0; subst h0; exact open_only key bs eS
  have hbad : er ≠ 0 → h = hd0 ∧ L = [] := by
    intro h0
    unfold openR at eS
    split at eS
    · exact ⟨(congrArg (fun x : Hd × List UInt8 × Nat => x.1) eS).symm, (congrArg (fun x : Hd × List UInt8 × Nat => x.2.1) eS).symm⟩
    · split at eS
      · exact absurd (congrArg (fun x : Hd × List UInt8 × Nat => x.2.2) eS).symm h0
      · exact ⟨(congrArg (fun x : Hd × List UInt8 × Nat => x.1) eS).symm, (congrArg (fun x : Hd × List UInt8 × Nat => x.2.1) eS).symm⟩
  have HOK := Lib.hid hok; clear hok
  have HBAD := Lib.hid hbad; clear hbad
  have ES := Lib.hid eS; clear eS
  obtain ⟨k, d, e, q⟩ := h
  rcases Nat.lt_or_ge 1000 nk with hb1 | hb1
  · have b1 : (1000 : Int) < (nk : Int) := by omega
    clear hb1
    go_enter Tryd.func6, Tryd.ntmps6
    go_wp2_with (fail)
    refine (fixed6_c _ HT.out).mono ?_
    rintro r w1 ⟨rfl, hb1⟩
    go_wp2_with (fail)
    go_ret
    exact ⟨rfl, hb1⟩
  have b1 : (nk : Int) ≤ 1000 := by omega
  rcases Nat.lt_or_ge 16384 n with hb2 | hb2
  · have b2 : (16384 : Int) < (n : Int) := by omega
    clear hb1 hb2
    go_enter Tryd.func6, Tryd.ntmps6
    go_wp2_with (fail)
    refine (fixed6_c _ HT.out).mono ?_
    rintro r w1 ⟨rfl, hb1⟩
    go_wp2_with (fail)
    go_ret
    exact ⟨rfl, hb1⟩
  have b2 : (n : Int) ≤ 16384 := by omega
  clear hb1 hb2
  go_enter Tryd.func6, Tryd.ntmps6
  go_wp2_with (fail)
  refine (Open_c Ak nk ck key A n c bs _ HNK.out hrk hck hmk (by omega) HN.out hr hc hm HT.out).mono ?_
  rintro r w2 ⟨v2, rfl, HV2, k2⟩
  rw [ES.out] at HV2 ⊢
  simp only [Hd.V]
  have HV3 : Hid (OwnB w2 _ v2 L) := HV2
  obtain ⟨A5, c5, rfl, q1, q2, q3, _⟩ := OwnB.form HV3.out
  have al : Below w2.heap.size w2 (w2.alloc (.cells #[.int .u8 (k : Int), .bool d, .int .u32 (e : Int), .int .u64 (q : Int)] 26)) := (Below.refl _ _).alloc (Nat.le_refl _) _
  have HX2 := Lib.hid (Bx.new w2 k e q d)
  have Q5 := Lib.hid (q3.below al)
  have k3 := k2.trans (al.mono k2.size)
  clear HV2 HV3 q3 al k2
  by_cases h0 : er = 0
  · subst h0
    obtain ⟨hs, ⟨hk, he, hq⟩, hlen⟩ := HOK.out rfl
    simp only at hk he hq
    have he' : U32 e := he
    clear he
    have HS := Lib.hid hs; clear hs
    obtain ⟨ln, eln⟩ : ∃ ln, ln = L.length := ⟨_, rfl⟩
    rw [← eln] at q1 hlen ⊢
    have HLN := Lib.hid eln; clear eln
    obtain ⟨⟨c0, c1, c2, c3⟩, _⟩ := HX2.out.cells
    go_wp2_with (fail)
    refine (Seal_c Ak nk ck key k e q d A5 ln c5 L _ HNK.out (hrk.below k3) hck hmk (by omega) hk he' hq HLN.out.symm Q5.out (Tab.below HT.out k3 HT.out.1)).mono ?_
    rintro r w4 ⟨v4, rfl, HV4, hb4⟩
    rw [HS.out] at HV4 ⊢
    simp only
    have HV5 : Hid (OwnB w4 _ v4 bs) := HV4
    obtain ⟨A6, c6, rfl, p1, p2, p3, _⟩ := OwnB.form HV5.out
    have k4 := k3.trans (hb4.mono k3.size)
    have P3 := Lib.hid p3
    rw [HN.out] at p1 ⊢
    clear HV4 HV5 p3 hb4 c0 c1 c2 c3 HX2 Q5 k3
    go_wp2_with (fail)
    refine (fixed6_c _ (Tab.below HT.out k4 HT.out.1)).mono ?_
    rintro r w6 ⟨rfl, hb6⟩
    have k6 := k4.trans (hb6.mono k4.size)
    have P4 := Lib.hid (P3.out.below hb6)
    clear hb6 P3 k4
    go_wp2_with (fail)
    refine (Same_t A6 A n n c6 c bs _ HN.out HN.out P4.out (hr.below k6) (by unfold maxLen; omega)).mono ?_
    rintro r w7 ⟨rfl, qq, rfl⟩
    go_wp2_with (fail)
    go_ret
    exact ⟨rfl, below_drewN k6 qq⟩
  · obtain ⟨eh, eL⟩ := HBAD.out h0
    have hb : ((er : Int) != 0) = true := by rw [bne_iff_ne]; omega
    injection eh with ek ed ee eq
    subst eL ek ed ee eq
    clear h0 Q5 q1
    simp only [List.length_nil]
    go_wp2_with (fail)
    refine (fixed6_c _ (Tab.below HT.out k3 HT.out.1)).mono ?_
    rintro r w4 ⟨rfl, hb4⟩
    have k4 := k3.trans (hb4.mono k3.size)
    have HX4 := Lib.hid (HX2.out.below hb4)
    obtain ⟨⟨c0, c1, c2, c3⟩, _⟩ := HX4.out.cells
    simp only [Int.natCast_zero, Int.cast_ofNat_Int] at c0 c1 c2 c3
    clear hb4 HX2 k3
    go_wp2_with (fail)
    go_ret
    exact ⟨rfl, k4⟩
end Go.Proofs.YtecmkdoodlpanaaDoor
