/- The walk of the law SealOpens: it returns true. Conditions: the row's own; the table stands. -/
import Derived.Test.YtecmkdoodlpanaaDoorSe10
import Derived.Test.YtecmkdoodlpanaaDoorSe7
import Derived.Test.YtecmkdoodlpanaaDoorOp2
namespace Go.Proofs.YtecmkdoodlpanaaDoor
open Go Go.RowKit

theorem u8_mod (z : Int) : ∃ b : UInt8, Value.int .u8 (z % 256) = bv b := by
  refine ⟨UInt8.ofNat (z % 256).toNat, ?_⟩
  unfold bv
  rw [UInt8.toNat_ofNat']
  congr 1
  omega
set_option maxRecDepth 100000 in
set_option maxHeartbeats 4000000 in
theorem SealOpens_walk (w : World) (Ak : Option Addr) (nk ck : Nat) (key : List UInt8) (hnk : key.length = nk) (hrk : Rd w Ak (key.map bv)) (hck : nk ≤ ck) (hmk : ck ≤ maxLen) (hlk : nk ≤ 140737488351232)
    (A : Option Addr) (n c : Nat) (bs : List UInt8) (hn : bs.length = n) (hr : Rd w A (bs.map bv)) (hc : n ≤ c) (hm : c ≤ maxLen) (hl : n ≤ 140737488351232) (hT : Tab w) :
    Calls Tryd.prog 4 #[.slice Ak nk ck, .slice A n c] w fun r w' => r = .returned (.bool true) ∧ Below w.heap.size w w' := by
  have HNK := Lib.hid hnk; clear hnk
  have HN := Lib.hid hn; clear hn
  have HT := Lib.hid hT; clear hT
  obtain ⟨⟨pk, pd, pe, pq⟩, pr, eP⟩ : ∃ P pr, peekR bs = (P, pr) := ⟨_, _, rfl⟩
  obtain ⟨⟨ok, od, oe, oq⟩, L, er, eO⟩ : ∃ h L er, openR key bs = (h, L, er) := ⟨_, _, _, rfl⟩
  have EP := Lib.hid eP; clear eP
  have EO := Lib.hid eO; clear eO
  rcases Nat.lt_or_ge 1000 nk with hb1 | hb1
  · have b1 : (1000 : Int) < (nk : Int) := by omega
    clear hb1
    go_enter Tryd.func4, Tryd.ntmps4
    go_wp2_with (fail)
    refine (fixed6_c _ HT.out).mono ?_
    rintro r w1 ⟨rfl, hb1⟩
    go_wp2_with (fail)
    go_ret
    exact ⟨rfl, hb1⟩
  have b1 : (nk : Int) ≤ 1000 := by omega
  rcases Nat.lt_or_ge 16384 n with hb2 | hb2
  · have b2 : (16384 : Int) < (n : Int) := by omega
    clear hb1 hb2
    go_enter Tryd.func4, Tryd.ntmps4
    go_wp2_with (fail)
    refine (fixed6_c _ HT.out).mono ?_
    rintro r w1 ⟨rfl, hb1⟩
    go_wp2_with (fail)
    go_ret
    exact ⟨rfl, hb1⟩
  have b2 : (n : Int) ≤ 16384 := by omega
  clear hb1 hb2
  go_enter Tryd.func4, Tryd.ntmps4
  go_wp2_with (fail)
  refine (Copy_c Ak nk ck key _ HNK.out hrk (by omega)).mono ?_
  rintro r w1 ⟨v1, rfl, ho1, hb1⟩
  obtain ⟨A1, c1, rfl, p1, p2, p3, pb⟩ := OwnB.form ho1
  rw [HNK.out] at p1 ⊢
  have P1 := Lib.hid p3; clear p3 ho1
  go_wp2_with (fail)
  refine (Copy_c A n c bs _ HN.out (hr.below hb1) (by omega)).mono ?_
  rintro r w2 ⟨v2, rfl, ho2, hb2⟩
  obtain ⟨A2, c2, rfl, q1, q2, q3, qb⟩ := OwnB.form ho2
  rw [HN.out] at q1 ⊢
  have k2 := hb1.trans (hb2.mono hb1.size)
  have hA1 : ∀ a, A1 = some a → a.block < w2.heap.size := fun a e => Nat.lt_of_lt_of_le (pb a e).2.1 hb2.size
  have hA2 : ∀ a, A2 = some a → a.block < w2.heap.size := fun a e => (qb a e).2.1
  have HA1 := Lib.hid hA1; clear hA1 pb
  have HA2 := Lib.hid hA2; clear hA2 qb
  have P2 := Lib.hid (P1.out.below hb2)
  have Q2 := Lib.hid q3; clear q3 ho2 hb1 hb2 P1
  obtain ⟨Bv, eBv⟩ : ∃ Bv, Bv = w2.heap.size := ⟨_, rfl⟩
  rw [← eBv] at HA1 HA2
  have z2 : Bv ≤ w2.heap.size := by omega
  have hwB : w.heap.size ≤ Bv := by have := k2.size; omega
  clear eBv
  go_wp2_with (fail)
  refine (Peek_c A2 n c2 bs _ HN.out Q2.out q1 q2).mono ?_
  rintro r w3 ⟨rfl, hb3⟩
  rw [EP.out]
  simp only [Hd.V]
  have k3 := k2.trans (hb3.mono k2.size)
  have P3 := Lib.hid (P2.out.below hb3)
  have Q3 := Lib.hid (Q2.out.below hb3)
  have z3 := Nat.le_trans z2 hb3.size
  clear hb3 P2 Q2 k2 z2
  have z3a : Bv ≤ (w3.alloc (.cells #[.int .u8 (pk : Int), .bool pd, .int .u32 (pe : Int), .int .u64 (pq : Int)] 26)).heap.size := by simp; omega
  have al : Below w3.heap.size w3 (w3.alloc (.cells #[.int .u8 (pk : Int), .bool pd, .int .u32 (pe : Int), .int .u64 (pq : Int)] 26)) := (Below.refl _ _).alloc (Nat.le_refl _) _
  have HX3 := Lib.hid (Bx.new w3 pk pe pq pd)
  have P3a := Lib.hid (P3.out.below al)
  have Q3a := Lib.hid (Q3.out.below al)
  have k3a := k3.trans (al.mono k3.size)
  clear al P3 Q3 k3
  go_wp2_with (fail)
  refine (Open_c A1 nk c1 key A2 n c2 bs _ HNK.out P3a.out p1 p2 (by omega) HN.out Q3a.out q1 q2 (Tab.below HT.out k3a HT.out.1)).mono ?_
  rintro r w5 ⟨v5, rfl, HV5, hb5⟩
  rw [EO.out] at HV5 ⊢
  simp only [Hd.V]
  have HV5' : Hid (OwnB w5 Bv v5 L) := Lib.hid (Own.low HV5.out z3a)
  obtain ⟨A5, c5, rfl, s1, s2, _, _⟩ := OwnB.form HV5'.out
  obtain ⟨ln, eln⟩ : ∃ ln, ln = L.length := ⟨_, rfl⟩
  rw [← eln] at s1 HV5' ⊢
  have HLN := Lib.hid eln; clear eln HV5
  have k5 := k3a.trans (hb5.mono k3a.size)
  have HX5 := Lib.hid (HX3.out.below hb5)
  have P5 := Lib.hid (P3a.out.below hb5)
  have Q5 := Lib.hid (Q3a.out.below hb5)
  clear hb5 HX3 P3a Q3a k3a
  have HV5a : Hid (OwnB (w5.alloc (.cells #[.int .u8 (ok : Int), .bool od, .int .u32 (oe : Int), .int .u64 (oq : Int)] 26)) Bv _ L) := Lib.hid (Own.alloc HV5'.out _)
  have al : Below w5.heap.size w5 (w5.alloc (.cells #[.int .u8 (ok : Int), .bool od, .int .u32 (oe : Int), .int .u64 (oq : Int)] 26)) := (Below.refl _ _).alloc (Nat.le_refl _) _
  have HY5 := Lib.hid (Bx.new w5 ok oe oq od)
  have HX5a := Lib.hid (HX5.out.below al)
  have P5a := Lib.hid (P5.out.below al)
  have Q5a := Lib.hid (Q5.out.below al)
  have k5a := k5.trans (al.mono k5.size)
  clear al HX5 P5 Q5 k5
  clear HV5'
  go_wp2_with (fail)
  refine (refPeek_c A n c bs _ HN.out (hr.below k5a) hc hm).mono ?_
  rintro r w7 ⟨rfl, hb7⟩
  rw [EP.out]
  simp only [Hd.V]
  have k7 := k5a.trans (hb7.mono k5a.size)
  have HX7 := Lib.hid (HX5a.out.below hb7)
  have HY7 := Lib.hid (HY5.out.below hb7)
  have P7 := Lib.hid (P5a.out.below hb7)
  have Q7 := Lib.hid (Q5a.out.below hb7)
  have HV7 : Hid (OwnB w7 Bv _ L) := Lib.hid (Own.below HV5a.out hb7)
  clear hb7 HX5a HY5 P5a Q5a HV5a k5a
  have HV7a : Hid (OwnB (w7.alloc (.cells #[.int .u8 (pk : Int), .bool pd, .int .u32 (pe : Int), .int .u64 (pq : Int)] 26)) Bv _ L) := Lib.hid (Own.alloc HV7.out _)
  have al : Below w7.heap.size w7 (w7.alloc (.cells #[.int .u8 (pk : Int), .bool pd, .int .u32 (pe : Int), .int .u64 (pq : Int)] 26)) := (Below.refl _ _).alloc (Nat.le_refl _) _
  have HZ7 := Lib.hid (Bx.new w7 pk pe pq pd)
  have HX7a := Lib.hid (HX7.out.below al)
  have HY7a := Lib.hid (HY7.out.below al)
  have P7a := Lib.hid (P7.out.below al)
  have Q7a := Lib.hid (Q7.out.below al)
  have k7a := k7.trans (al.mono k7.size)
  clear al HX7 HY7 P7 Q7 k7
  clear HV7
  go_wp2_with (fail)
  refine (refOpen_c Ak nk ck key A n c bs _ HNK.out (hrk.below k7a) hck hmk (by omega) HN.out (hr.below k7a) hc hm).mono ?_
  rintro r w9 ⟨v9, rfl, HV9, hb9⟩
  rw [EO.out] at HV9 ⊢
  simp only [Hd.V]
  have HV9' : Hid (OwnB w9 _ v9 L) := HV9
  obtain ⟨A9, c9, rfl, t1, t2, t3, _⟩ := OwnB.form HV9'.out
  rw [← HLN.out] at t1 ⊢
  have T9 := Lib.hid t3; clear t3 HV9 HV9'
  have k9 := k7a.trans (hb9.mono k7a.size)
  have HX9 := Lib.hid (HX7a.out.below hb9)
  have HY9 := Lib.hid (HY7a.out.below hb9)
  have HZ9 := Lib.hid (HZ7.out.below hb9)
  have P9 := Lib.hid (P7a.out.below hb9)
  have Q9 := Lib.hid (Q7a.out.below hb9)
  have HW9 : Hid (OwnB w9 Bv _ L) := Lib.hid (Own.below HV7a.out hb9)
  clear hb9 HX7a HY7a HZ7 P7a Q7a HV7a k7a
  have HW9a : Hid (OwnB (w9.alloc (.cells #[.int .u8 (ok : Int), .bool od, .int .u32 (oe : Int), .int .u64 (oq : Int)] 26)) Bv _ L) := Lib.hid (Own.alloc HW9.out _)
  have al : Below w9.heap.size w9 (w9.alloc (.cells #[.int .u8 (ok : Int), .bool od, .int .u32 (oe : Int), .int .u64 (oq : Int)] 26)) := (Below.refl _ _).alloc (Nat.le_refl _) _
  have HU9 := Lib.hid (Bx.new w9 ok oe oq od)
  have HX9a := Lib.hid (HX9.out.below al)
  have HY9a := Lib.hid (HY9.out.below al)
  have HZ9a := Lib.hid (HZ9.out.below al)
  have P9a := Lib.hid (P9.out.below al)
  have Q9a := Lib.hid (Q9.out.below al)
  have T9a := Lib.hid (T9.out.below al)
  have k9a := k9.trans (al.mono k9.size)
  clear al HX9 HY9 HZ9 P9 Q9 T9 k9
  clear HW9
  go_wp2_with (fail)
  refine (fixed6_c _ (Tab.below HT.out k9a HT.out.1)).mono ?_
  rintro r wb ⟨rfl, hbb⟩
  have kb := k9a.trans (hbb.mono k9a.size)
  have HXb := Lib.hid (HX9a.out.below hbb)
  have HYb := Lib.hid (HY9a.out.below hbb)
  have HZb := Lib.hid (HZ9a.out.below hbb)
  have HUb := Lib.hid (HU9.out.below hbb)
  have Pb := Lib.hid (P9a.out.below hbb)
  have Qb := Lib.hid (Q9a.out.below hbb)
  have Tb' := Lib.hid (T9a.out.below hbb)
  have HVb : Hid (OwnB wb Bv _ L) := Lib.hid (Own.below HW9a.out hbb)
  have rvb := rd_of2 HVb.out
  obtain ⟨⟨x0, x1, x2, x3⟩, _⟩ := HXb.out.cells
  obtain ⟨⟨y0, y1, y2, y3⟩, _⟩ := HYb.out.cells
  obtain ⟨⟨u0, u1, u2, u3⟩, _⟩ := HUb.out.cells
  obtain ⟨⟨o0, o1, o2, o3⟩, _⟩ := HZb.out.cells
  clear hbb HX9a HY9a HZ9a HU9 P9a Q9a T9a HW9a k9a
  have lnm : ln ≤ maxLen := Nat.le_trans s1 s2
  go_wp2_with (fail)
  refine (Same_t A5 A9 ln ln c5 c9 L _ HLN.out.symm HLN.out.symm rvb Tb'.out lnm).mono ?_
  rintro r w8 ⟨rfl, a8, rfl⟩
  have kd := below_drewN kb a8
  have HVd : Hid (OwnB (wb.drewN a8) Bv _ L) := Lib.hid (Own.drewN HVb.out a8)
  have Pd := Lib.hid (Pb.out.drewN a8)
  have Qd := Lib.hid (Qb.out.drewN a8)
  clear rvb
  go_wp2_with (fail)
  clear x0 x1 x2 x3 y0 y1 y2 y3 u0 u1 u2 u3 o0 o1 o2 o3 HXb HYb HZb HUb Tb' HVb Pb Qb kb
  have lnm2 := lnm
  unfold maxLen at lnm2
  go_loopw [85] (fun i wr => ∃ (j : Nat) (l : List UInt8), j ≤ ln ∧ i = .int .i64 j ∧ Hid (OwnB wr Bv (.slice A5 ln c5) l) ∧ Hid (Rd wr A1 (key.map bv)) ∧ Hid (Rd wr A2 (bs.map bv)) ∧ Below w.heap.size w wr) (fun i _ => ln - (intOf i).toNat)
  case atStart => exact ⟨0, L, Nat.zero_le _, rfl, HVd, Pd, Qd, kd⟩
  case round =>
    clear HVd Pd Qd kd
    obtain ⟨j, l, hj, rfl, HO, HP1, HQ1, kr⟩ := hrel
    by_cases hlt : j < ln
    · obtain ⟨g, rfl, g1, g2, hll⟩ := HO.out.open2 (by omega)
      have hlt' : (j : Int) < (ln : Int) := by omega
      have e0 := HO.out.cell j (by rw [hll]; exact hlt)
      have f0 := HO.out.free j
      obtain ⟨x, ex⟩ : ∃ x, x = (l[j]'(by rw [hll]; exact hlt)).toNat := ⟨_, rfl⟩
      unfold bv at e0
      rw [← ex] at e0
      clear ex
      have HLL := Lib.hid hll; clear hll
      go_wp2
      go_roundw
      case rel =>
        obtain ⟨b', eb⟩ := u8_mod ((x : Int) + 1)
        rw [eb]
        exact ⟨j + 1, l.set j b', by omega, by go_num, Lib.hid (OwnB.set HO.out j b'), Lib.hid (HP1.out.far _ (fun a e => by have := HA1.out a e; show a.block ≠ g; omega)), Lib.hid (HQ1.out.far _ (fun a e => by have := HA2.out a e; show a.block ≠ g; omega)), kr.setCell (by show w.heap.size ≤ g; omega) _⟩
      case measure => simp [intOf]; omega
    · obtain rfl : ln = j := by omega
      clear HO
      go_wp2_with (fail)
      refine (Same_t A1 Ak nk nk c1 ck key _ HNK.out HNK.out HP1.out (hrk.below kr) (by unfold maxLen; omega)).mono ?_
      rintro r w8 ⟨rfl, a9, rfl⟩
      go_wp2_with (fail)
      refine (Same_t A2 A n n c2 c bs _ HN.out HN.out (HQ1.out.drewN a9) ((hr.below kr).drewN a9) (by unfold maxLen; omega)).mono ?_
      rintro r w8 ⟨rfl, a10, rfl⟩
      go_wp2_with (fail)
      go_ret
      exact ⟨rfl, below_drewN kr _⟩
end Go.Proofs.YtecmkdoodlpanaaDoor
