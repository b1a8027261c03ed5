/- The walk of the law MacDerives: it returns true. Conditions: the row's own; the table stands. -/
import Derived.Test.YtacindehajholaaDoorMcp
import Derived.Test.YtacindehajholaaDoorDv
import Derived.Test.YtacindehajholaaDoorCu
import Derived.Test.YtacindehajholaaDoorOp2
namespace Go.Proofs.YtacindehajholaaDoor
open Go Go.RowKit
attribute [local go_sem] run_eq_sumV run_guard_sumV

set_option maxRecDepth 100000 in
set_option maxHeartbeats 4000000 in
theorem MacDerives_walk (w : World) (A : Option Addr) (n c : Nat) (bs : List UInt8) (hn : bs.length = n) (hr : Rd w A (bs.map bv)) (hc : n ≤ c) (hm : c ≤ maxLen) (hl : n ≤ 140737488351232)
    (lab : ByteArray) (hlab : lab.size ≤ 140737488351232)
    (A2 : Option Addr) (n2 c2 : Nat) (bss : List (List UInt8)) (h2 : bss.length = n2 ∧ RdS w A2 bss ∧ n2 ≤ c2 ∧ c2 ≤ maxLen ∧ n2 * 24 ≤ 140737488351232 ∧ ∀ b ∈ bss, b.length ≤ 140737488351232) (hT : Tab w) :
    Calls Tryd.prog 10 #[.slice A n c, .string lab, .slice A2 n2 c2] w fun e w' => e = .returned (.bool true) ∧ Below w.heap.size w w' := by
  obtain ⟨hn2, hr2, hc2, hm2, hl2, hbs⟩ := h2
  have HN := Lib.hid hn; clear hn
  have HN2 := Lib.hid hn2; clear hn2
  have HBS := Lib.hid hbs; clear hbs
  have HT := Lib.hid hT; clear hT
  go_enter Tryd.func10, Tryd.ntmps10
  go_wp2_with (fail)
  refine (great_c A2 n2 c2 bss w HN2.out hr2 (by omega) HBS.out).mono ?_
  rintro e w' ⟨⟨g, rfl, hg⟩, rfl⟩
  have HG := Lib.hid hg; clear hg
  cases g with
  | true =>
    go_wp2_with (fail)
    refine (fixed4_c _ HT.out).mono ?_
    rintro e w1 ⟨rfl, hb1⟩
    go_wp2_with (fail)
    go_ret
    exact ⟨rfl, hb1⟩
  | false =>
    have hf := HG.out rfl
    have HF := Lib.hid hf; clear hf HG
    go_wp2_with (first | ((with_reducible refine wpList_open (o := ⟨some 14, _, _, _, _, _⟩) rfl ?_); refine wpList_convB _ rfl (.tmp 13) rfl lab rfl (by omega) ?_; intro A5 c5 wc q3 q1 q2 k0; have s0 := k0.size; have r0 := hr.below k0))
    obtain ⟨nl, enl⟩ : ∃ nl, nl = lab.size := ⟨_, rfl⟩
    rw [← enl] at q1 hlab ⊢
    have ENL := Lib.hid enl; clear enl
    have a3 : ∀ x ∈ [((A, n, c) : Option Addr × Nat × Nat), (A5, nl, c5)].zip [bs, strB lab], x.2.length = x.1.2.1 ∧ Rd wc x.1.1 (x.2.map bv) ∧ x.1.2.1 ≤ x.1.2.2 ∧ x.1.2.2 ≤ maxLen := by
      simp only [List.zip_cons_cons, List.zip_nil_right, List.forall_mem_cons]
      exact ⟨⟨HN.out, r0, hc, hm⟩, ⟨by rw [strB_len, ENL.out], q3, q1, q2⟩, fun x hx => by cases hx⟩
    have r1 := RdS_lit wc _ _ 25 (by simp only [List.length_cons, List.length_nil]) a3
    simp only [List.map_cons, List.map_nil] at r1
    clear a3
    have k1 := k0.alloc s0 (.cells #[.slice A n c, .slice A5 nl c5] 25)
    refine (great_c _ 2 2 [bs, strB lab] _ rfl r1 (by omega) (by
      simp only [List.forall_mem_cons]
      exact ⟨by rw [HN.out]; exact hl, by rw [strB_len, ← ENL.out]; exact hlab, fun x hx => by cases hx⟩)).mono ?_
    rintro e w' ⟨⟨g, rfl, hg⟩, rfl⟩
    have HG := Lib.hid hg; clear hg r1
    cases g with
    | true =>
      go_wp2_with (fail)
      refine (fixed4_c _ (Tab.below HT.out k1 HT.out.1)).mono ?_
      rintro e w1 ⟨rfl, hb1⟩
      go_wp2_with (fail)
      go_ret
      exact ⟨rfl, k1.trans (hb1.mono k1.size)⟩
    | false =>
      have hkl := HG.out rfl
      simp only [List.flatten_cons, List.flatten_nil, List.append_nil, List.length_append, List.length_cons, List.length_nil] at hkl
      rw [HN.out, strB_len, ← ENL.out] at hkl
      have hff : bss.flatten.length + bss.length ≤ 16384 := HF.out
      have htl : (toldL (strB lab) bss).length ≤ 900000000 := by
        have := toldL_len (strB lab) bss (by rw [strB_len, ← ENL.out]; omega) (fun b hb => Nat.lt_of_le_of_lt (HBS.out b hb) (by decide))
        rw [strB_len, ← ENL.out] at this
        omega
      have HTL := Lib.hid htl; clear htl
      have HFF := Lib.hid hff; clear hff
      clear HG
      have hls : lab.size ≤ 140737488351232 := by rw [← ENL.out]; exact hlab
      go_wp2_with (fail)
      refine (copies_c A2 n2 c2 bss _ HN2.out (hr2.below k1) hl2 HBS.out).mono ?_
      rintro e w1 ⟨A3, rfl, ho, hb1⟩
      have k2 := k1.trans (hb1.mono k1.size)
      have HO := Lib.hid ho; clear ho hb1
      go_wp2_with (fail)
      refine (Copy_c A n c bs _ HN.out (hr.below k2) (by omega)).mono ?_
      rintro e w2 ⟨v, rfl, ho, hb2⟩
      obtain ⟨A4, c4, rfl, q4, q5, q6, _⟩ := OwnB.form ho
      rw [HN.out] at q4 ⊢
      have k3 := k2.trans (hb2.mono k2.size)
      have HK := Lib.hid q6; clear q6 ho
      have HO2 := Lib.hid (HO.out.below hb2)
      clear HO hb2
      go_wp2_with (fail)
      refine (fixed4_c _ (Tab.below HT.out k3 HT.out.1)).mono ?_
      rintro e w3 ⟨rfl, hb3⟩
      have k4 := k3.trans (hb3.mono k3.size)
      have HK3 := Lib.hid (HK.out.below hb3)
      have HO3 := Lib.hid (HO2.out.below hb3)
      clear HK HO2 hb3
      go_wp2_with (fail)
      refine (Derive_c A4 n c4 bs lab A3 n2 n2 bss _ HN.out HK3.out q4 q5 (by omega) hls HN2.out HO3.out HBS.out HTL.out (Tab.below HT.out k4 HT.out.1)).mono ?_
      rintro e w4 ⟨rfl, hb4⟩
      have k5 := k4.trans (hb4.mono k4.size)
      have HK4 := Lib.hid (HK3.out.below hb4)
      have HO4 := Lib.hid (HO3.out.below hb4)
      clear HK3 HO3 hb4
      go_wp2_with (fail)
      refine (refDerive_c A n c bs lab A2 n2 c2 bss _ HN.out (hr.below k5) hc hm (by omega) hls HN2.out (hr2.below k5) HBS.out HTL.out).mono ?_
      rintro e w5 ⟨rfl, hb5⟩
      have k6 := k5.trans (hb5.mono k5.size)
      have HK5 := Lib.hid (HK4.out.below hb5)
      have HO5 := Lib.hid (HO4.out.below hb5)
      clear HK4 HO4 hb5
      go_wp2_with (fail)
      refine (SameAll_t A3 A2 n2 n2 c2 bss _ HN2.out HO5.out (hr2.below k6) (by omega)).mono ?_
      rintro e w6 ⟨rfl, p1, rfl⟩
      go_wp2_with (fail)
      refine (Same_t A4 A n n c4 c bs _ HN.out HN.out (HK5.out.drewN p1) ((hr.below k6).drewN p1) (by omega)).mono ?_
      rintro e w7 ⟨rfl, p2, rfl⟩
      go_wp2_with (fail)
      go_ret
      exact ⟨rfl, below_drewN k6 _⟩
end Go.Proofs.YtacindehajholaaDoor
