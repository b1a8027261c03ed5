/- What seal.Peek answers: a datagram's header, or an error. Conditions: lengths that fit. -/
import Derived.Test.YtecmkdoodlpanaaDoorSe1
import Derived.Test.YtecmkdoodlpanaaDoorRd3
import Derived.Test.YtecmkdoodlpanaaDoorRg
namespace Go.Proofs.YtecmkdoodlpanaaDoor
open Go Go.RowKit

def U32 (n : Nat) : Prop := n < 4294967296
theorem numR_ok (s : RS) (z : Nat) (h0 : s.err = 0) (h1 : 1 ≤ z) (h8 : z ≤ 8) (hl : s.at_ + z ≤ s.b.length) : numR s (z : Int) = (beN ((s.b.drop s.at_).take z), { s with at_ := s.at_ + z }) := by
  unfold numR
  rw [if_neg (by simpa using h0), if_neg (by omega), if_neg (by omega)]
  rfl
theorem Rnum_k (r : Nat) (s : RS) (z : Int) (w : World) (h : Rdr w r s) (hz : (Lit.int .i64 z).wf = true) {N : Nat} {s' : RS} (e : numR s z = (N, s')) :
    Calls Tryd.prog 29 #[.pointer (some ⟨r, 0, none⟩), .int .i64 z] w fun e w' => e = .returned (.int .u64 (N : Int)) ∧ Hid (Rdr w' r s') ∧ w.grownBy w' (some r) := by
  have hc := Rnum_c r s z w h hz
  rw [e] at hc
  exact hc.mono fun _ _ ⟨a, b, c⟩ => ⟨a, Lib.hid b, c⟩
theorem beN_one (b : UInt8) : beN [b] = b.toNat := by simp [beN]
theorem take_one (l : List UInt8) (i : Nat) (h : i < l.length) : (l.drop i).take 1 = [getB l i] := by
  rw [List.drop_eq_getElem_cons h, List.take_succ_cons, List.take_zero]
  simp [getB, List.getD, h]
/-- The four reads of a head. -/
theorem reads4 (bs : List UInt8) (gA : Option Addr) (h : 14 ≤ bs.length) :
    numR ⟨bs.take 14, 0, 0, gA⟩ 1 = ((getB bs 0).toNat, ⟨bs.take 14, 1, 0, gA⟩) ∧ numR ⟨bs.take 14, 1, 0, gA⟩ 1 = ((getB bs 1).toNat, ⟨bs.take 14, 2, 0, gA⟩) ∧
    numR ⟨bs.take 14, 2, 0, gA⟩ 4 = (beN ((bs.drop 2).take 4), ⟨bs.take 14, 6, 0, gA⟩) ∧ numR ⟨bs.take 14, 6, 0, gA⟩ 8 = (beN ((bs.drop 6).take 8), ⟨bs.take 14, 14, 0, gA⟩) := by
  have hl : (bs.take 14).length = 14 := by rw [List.length_take]; omega
  have hg : ∀ i, i < 14 → getB (bs.take 14) i = getB bs i := by
    intro i hi
    simp [getB, List.getD, List.getElem?_take, hi]
  refine ⟨?_, ?_, ?_, ?_⟩
  · have := numR_ok ⟨bs.take 14, 0, 0, gA⟩ 1 rfl (by decide) (by decide) (by rw [hl]; simp)
    refine this.trans ?_
    rw [take_one _ _ (by rw [hl]; simp), beN_one, hg 0 (by decide)]
  · have := numR_ok ⟨bs.take 14, 1, 0, gA⟩ 1 rfl (by decide) (by decide) (by rw [hl]; simp)
    refine this.trans ?_
    rw [take_one _ _ (by rw [hl]; simp), beN_one, hg 1 (by decide)]
  · have := numR_ok ⟨bs.take 14, 2, 0, gA⟩ 4 rfl (by decide) (by decide) (by rw [hl]; simp)
    refine this.trans ?_
    simp only [List.drop_take, List.take_take]
    rfl
  · have := numR_ok ⟨bs.take 14, 6, 0, gA⟩ 8 rfl (by decide) (by decide) (by rw [hl]; simp)
    refine this.trans ?_
    simp only [List.drop_take, List.take_take]
    rfl

theorem Bx.set3 {w : World} {g k e q : Nat} {d : Bool} (h : Bx w g k e q d) (e' q' : Nat) (d' : Bool) : Bx (((w.setCell ⟨g, 1, none⟩ (.bool d')).setCell ⟨g, 2, none⟩ (.int .u32 (e' : Int))).setCell ⟨g, 3, none⟩ (.int .u64 (q' : Int))) g k e' q' d' :=
  heap_set (heap_set (heap_set h 1 _) 2 _) 3 _
theorem Bx.set4 {w : World} {g k e q : Nat} {d : Bool} (h : Bx w g k e q d) (k' e' q' : Nat) (d' : Bool) : Bx ((((w.setCell ⟨g, 0, none⟩ (.int .u8 (k' : Int))).setCell ⟨g, 1, none⟩ (.bool d')).setCell ⟨g, 2, none⟩ (.int .u32 (e' : Int))).setCell ⟨g, 3, none⟩ (.int .u64 (q' : Int))) g k' e' q' d' :=
  heap_set (heap_set (heap_set (heap_set h 0 _) 1 _) 2 _) 3 _
theorem Bx.far {w : World} {g k e q : Nat} {d : Bool} (h : Bx w g k e q d) {p : Addr} (u : Value) (hp : g ≠ p.block) : Bx (w.setCell p u) g k e q d := (heap_far u hp).trans h

set_option maxRecDepth 100000 in
set_option maxHeartbeats 2000000 in
theorem Peek_c (A : Option Addr) (n c : Nat) (bs : List UInt8) (w : World) (hn : bs.length = n) (hr : Rd w A (bs.map bv)) (hc : n ≤ c) (hm : c ≤ maxLen) :
    Calls Tryd.prog 14 #[.slice A n c] w fun e w' => e = .returned (.tuple #[(peekR bs).1.V, .int .i64 ((peekR bs).2 : Int)]) ∧ Below w.heap.size w w' := by
  have HN := Lib.hid hn; clear hn
  have k0 : Below w.heap.size w (w.alloc (.cells #[.int .u8 0, .bool false, .int .u32 0, .int .u64 0] 26)) := (Below.refl _ _).alloc (Nat.le_refl _) _
  have hb0 : Bx (w.alloc (.cells #[.int .u8 0, .bool false, .int .u32 0, .int .u64 0] 26)) w.heap.size 0 0 0 false := Bx.new w 0 0 0 false
  have HB0 := Lib.hid hb0; clear hb0
  by_cases h1 : n < 30
  · have hp : peekR bs = (hd0, 2) := by unfold peekR; rw [if_pos (by rw [HN.out]; exact h1)]
    rw [hp]; clear hp
    have h1' : (n : Int) < 30 := by omega
    obtain ⟨⟨c0, c1, c2, c3⟩, f0, f1, f2, f3⟩ := HB0.out.cells
    go_enter Tryd.func14, Tryd.ntmps14
    go_wp2
    exact bodyPost_ret (v := .tuple #[hd0.V, .int .i64 2]) (by simp [results, Tryd.results14, go_sem, c0, c1, c2, c3]; rfl) rfl ⟨rfl, k0⟩
  by_cases h2 : 542 < n
  · have hp : peekR bs = (hd0, 4) := by unfold peekR; rw [if_neg (by rw [HN.out]; exact h1), if_pos (by rw [HN.out]; exact h2)]
    rw [hp]; clear hp
    have h2' : (542 : Int) < (n : Int) := by omega
    clear h1
    obtain ⟨⟨c0, c1, c2, c3⟩, f0, f1, f2, f3⟩ := HB0.out.cells
    go_enter Tryd.func14, Tryd.ntmps14
    go_wp2
    exact bodyPost_ret (v := .tuple #[hd0.V, .int .i64 4]) (by simp [results, Tryd.results14, go_sem, c0, c1, c2, c3]; rfl) rfl ⟨rfl, k0⟩
  have h1' : (30 : Int) ≤ (n : Int) := by omega
  have h2' : (n : Int) ≤ 542 := by omega
  have h3' : (14 : Int) ≤ (c : Int) := by omega
  have hl : 14 ≤ bs.length := by rw [HN.out]; omega
  have ht : (bs.take 14).length = 14 := by rw [List.length_take]; omega
  have hrt := hr.take 14
  rw [← List.map_take] at hrt
  have hp : peekR bs = if 1 < (getB bs 1).toNat ∨ mayB (hdOf bs) = false then (hd0, 3) else (hdOf bs, 0) := by unfold peekR; rw [if_neg (by rw [HN.out]; exact h1), if_neg (by rw [HN.out]; exact h2)]
  have hdo := hdOf_ok bs
  have hh : hdOf bs = ⟨(getB bs 0).toNat, getB bs 1 == 1, beN ((bs.drop 2).take 4), beN ((bs.drop 6).take 8)⟩ := rfl
  have hbW : (getB bs 1 == 1) = ((getB bs 1).toNat == 1) := by
    rw [Bool.eq_iff_iff, beq_iff_eq, beq_iff_eq, ← UInt8.toNat_inj]; rfl
  have hRd := fun gA => reads4 bs gA hl
  obtain ⟨K, eK⟩ : ∃ K, K = (getB bs 0).toNat := ⟨_, rfl⟩
  obtain ⟨W, eW⟩ : ∃ W, W = (getB bs 1).toNat := ⟨_, rfl⟩
  obtain ⟨E, eE⟩ : ∃ E, E = beN ((bs.drop 2).take 4) := ⟨_, rfl⟩
  obtain ⟨Z, eZ⟩ : ∃ Z, Z = beN ((bs.drop 6).take 8) := ⟨_, rfl⟩
  rw [hbW] at hh
  rw [← eK, ← eW, ← eE, ← eZ] at hh
  simp only [← eK, ← eW, ← eE, ← eZ] at hRd
  rw [← eW] at hp
  rw [hh] at hp hdo
  obtain ⟨hk8, he32, hq64⟩ := hdo
  simp only at hk8 he32 hq64
  have hw8 : W < 256 := by rw [eW]; exact UInt8.toNat_lt _
  obtain ⟨R, eR⟩ : ∃ R, R = peekR bs := ⟨_, rfl⟩
  rw [← eR] at hp ⊢
  have HT := Lib.hid ht; clear ht eR
  have HRD := Lib.hid hRd; clear hRd
  have HP := Lib.hid hp; clear hp hh hbW eK eW eE eZ
  have HE : U32 E := he32
  clear he32
  have hk8' : (K : Int) < 256 := by omega
  clear h1 h2 hk8 hl
  go_enter Tryd.func14, Tryd.ntmps14
  go_wp2_with (first | (with_reducible refine wpList_sliceTo _ rfl (.tmp 17) (.const (.int .i64 14)) rfl A n c rfl 14 rfl 14 rfl (by omega) ?_))
  refine (Rnew_c A 14 c (bs.take 14) _ HT.out (hrt.below k0) (by decide)).mono ?_
  rintro e w2 ⟨r, gA, rfl, hr1, hR, hb2, _⟩
  simp only [World.size_alloc] at hr1
  have HR := Lib.hid hR; clear hR
  have k2 := k0.trans (hb2.mono k0.size)
  have HB2 := Lib.hid (HB0.out.below hb2)
  obtain ⟨e1, e2, e3, e4⟩ := HRD.out gA
  have E1 := Lib.hid e1; clear e1
  have E2 := Lib.hid e2; clear e2
  have E3 := Lib.hid e3; clear e3
  have E4 := Lib.hid e4; clear e4
  clear HRD hb2 HB0 hrt
  go_wp2_with (fail)
  refine (Rnum_k r _ 1 w2 HR.out (by decide) E1.out).mono ?_
  rintro e w3 ⟨rfl, HR3, hg3⟩
  have HB3 := Lib.hid (HB2.out.grown hg3 (by intro e; injection e with e; omega))
  have k3 := k2.grown hg3 k2.size (fun k e => by injection e with e; omega)
  clear HR HB2 hg3
  go_wp2_with (fail)
  have k3a := k3.alloc k3.size (.cells #[.int .u8 (K : Int), .bool false, .int .u32 0, .int .u64 0] 26)
  have al : Below w3.heap.size w3 (w3.alloc (.cells #[.int .u8 (K : Int), .bool false, .int .u32 0, .int .u64 0] 26)) := (Below.refl _ _).alloc (Nat.le_refl _) _
  have HX3 : Hid (Bx (w3.alloc (.cells #[.int .u8 (K : Int), .bool false, .int .u32 0, .int .u64 0] 26)) w3.heap.size K 0 0 false) := Lib.hid (Bx.new w3 K 0 0 false)
  have HR3a := Lib.hid (HR3.out.below al)
  have HB3a := Lib.hid (HB3.out.below al)
  have hrx := HR3.out.lt
  have hwx := k3.size
  obtain ⟨x, ex⟩ : ∃ x, x = w3.heap.size := ⟨_, rfl⟩
  rw [← ex] at HX3 hrx hwx ⊢
  have hwx1 : w.heap.size < x := by rw [ex]; exact HB3.out.lt
  clear al HR3 HB3 ex
  refine (Rnum_k r _ 1 _ HR3a.out (by decide) E2.out).mono ?_
  rintro e w4 ⟨rfl, HR4, hg4⟩
  have HB4 := Lib.hid (HB3a.out.grown hg4 (by intro e; injection e with e; omega))
  have HX4 := Lib.hid (HX3.out.grown hg4 (by intro e; injection e with e; omega))
  have k4 := k3a.grown hg4 k3a.size (fun k e => by injection e with e; omega)
  clear HR3a HB3a HX3 hg4 k3a k3
  go_wp2_with (fail)
  refine (Rnum_k r _ 4 _ HR4.out (by decide) E3.out).mono ?_
  rintro e w5 ⟨rfl, HR5, hg5⟩
  have HB5 := Lib.hid (HB4.out.grown hg5 (by intro e; injection e with e; omega))
  have HX5 := Lib.hid (HX4.out.grown hg5 (by intro e; injection e with e; omega))
  have k5 := k4.grown hg5 k4.size (fun k e => by injection e with e; omega)
  clear HR4 HB4 HX4 hg5 k4
  have wc : ((W : Int) == 1) = (W == 1) := by
    rw [Bool.eq_iff_iff, beq_iff_eq, beq_iff_eq]; omega
  go_wp2_with (fail)
  have em : (E : Int) % 4294967296 = E := by have := HE; unfold U32 at this; omega
  rw [em]
  clear em wc
  refine (Rnum_k r _ 8 _ HR5.out (by decide) E4.out).mono ?_
  rintro e w6 ⟨rfl, HR6, hg6⟩
  have HB6 := Lib.hid (HB5.out.grown hg6 (by intro e; injection e with e; omega))
  have HX6 := Lib.hid (HX5.out.grown hg6 (by intro e; injection e with e; omega))
  have k6 := k5.grown hg6 k5.size (fun k e => by injection e with e; omega)
  clear HR5 HR6 HB5 HX5 hg6 k5 E1 E2 E3 E4
  have hX7 := HX6.out.set3 E Z (W == 1)
  have HX7 := Lib.hid hX7; clear hX7
  have hB7 := ((HB6.out.far (p := ⟨x, 1, none⟩) (.bool (W == 1)) (by show w.heap.size ≠ x; omega)).far (p := ⟨x, 2, none⟩) (.int .u32 (E : Int)) (by show w.heap.size ≠ x; omega)).far (p := ⟨x, 3, none⟩) (.int .u64 (Z : Int)) (by show w.heap.size ≠ x; omega)
  have HB7 := Lib.hid hB7; clear hB7
  have k7 := ((k6.setCell (p := ⟨x, 1, none⟩) (by show w.heap.size ≤ x; omega) (.bool (W == 1))).setCell (p := ⟨x, 2, none⟩) (by show w.heap.size ≤ x; omega) (.int .u32 (E : Int))).setCell (p := ⟨x, 3, none⟩) (by show w.heap.size ≤ x; omega) (.int .u64 (Z : Int))
  obtain ⟨⟨c0, c1, c2, c3⟩, f0, f1, f2, f3⟩ := HX6.out.cells
  by_cases hW : 1 < W
  · have hR : R = (hd0, 3) := by rw [HP.out, if_pos (Or.inl hW)]
    have HRr := Lib.hid hR; clear hR
    have hW' : (1 : Int) < (W : Int) := by omega
    clear hW
    obtain ⟨⟨d0, d1, d2, d3⟩, g0, g1, g2, g3⟩ := HB7.out.cells
    go_wp2_with (fail)
    have h8 := HB7.out.set4 0 0 0 false
    have k8 := (((k7.setCell (p := ⟨w.heap.size, 0, none⟩) (Nat.le_refl _) (.int .u8 0)).setCell (p := ⟨w.heap.size, 1, none⟩) (Nat.le_refl _) (.bool false)).setCell (p := ⟨w.heap.size, 2, none⟩) (Nat.le_refl _) (.int .u32 0)).setCell (p := ⟨w.heap.size, 3, none⟩) (Nat.le_refl _) (.int .u64 0)
    obtain ⟨⟨e0, e1, e2, e3⟩, _⟩ := Bx.cells h8
    exact bodyPost_ret (v := .tuple #[hd0.V, .int .i64 3]) (by simp only [Int.natCast_zero, Int.cast_ofNat_Int] at e0 e1 e2 e3; simp [results, Tryd.results14, go_sem, e0, e1, e2, e3]; rfl) rfl ⟨by rw [HRr.out]; rfl, k8⟩
  · have hW' : (W : Int) ≤ 1 := by omega
    have HNW := Lib.hid hW; clear hW
    go_wp2_with (fail)
    refine (may_c K E Z (W == 1) _).mono ?_
    rintro e w8 ⟨rfl, hb8⟩
    have HX8 := Lib.hid (HX7.out.below hb8)
    have HB8 := Lib.hid (HB7.out.below hb8)
    have k8 := k7.trans (hb8.mono k7.size)
    obtain ⟨⟨d0, d1, d2, d3⟩, g0, g1, g2, g3⟩ := HB8.out.cells
    obtain ⟨⟨x0, x1, x2, x3⟩, _⟩ := HX8.out.cells
    clear hb8 HX6 HB6 c0 c1 c2 c3 f0 f1 f2 f3 k6
    obtain ⟨my, emy⟩ : ∃ my, my = mayB ⟨K, W == 1, E, Z⟩ := ⟨_, rfl⟩
    rw [← emy]
    cases my with
    | false =>
      have hR : R = (hd0, 3) := by rw [HP.out, if_pos (Or.inr emy.symm)]
      have HRr := Lib.hid hR; clear hR emy
      go_wp2_with (fail)
      have h9 := HB8.out.set4 0 0 0 false
      have k9 := (((k8.setCell (p := ⟨w.heap.size, 0, none⟩) (Nat.le_refl _) (.int .u8 0)).setCell (p := ⟨w.heap.size, 1, none⟩) (Nat.le_refl _) (.bool false)).setCell (p := ⟨w.heap.size, 2, none⟩) (Nat.le_refl _) (.int .u32 0)).setCell (p := ⟨w.heap.size, 3, none⟩) (Nat.le_refl _) (.int .u64 0)
      obtain ⟨⟨e0, e1, e2, e3⟩, _⟩ := Bx.cells h9
      exact bodyPost_ret (v := .tuple #[hd0.V, .int .i64 3]) (by simp only [Int.natCast_zero, Int.cast_ofNat_Int] at e0 e1 e2 e3; simp [results, Tryd.results14, go_sem, e0, e1, e2, e3]; rfl) rfl ⟨by rw [HRr.out]; rfl, k9⟩
    | true =>
      have hR : R = (⟨K, W == 1, E, Z⟩, 0) := by
        rw [HP.out, if_neg]
        rintro (h | h)
        · exact HNW.out h
        · rw [← emy] at h; cases h
      have HRr := Lib.hid hR; clear hR emy
      go_wp2_with (fail)
      have h9 := HB8.out.set4 K E Z (W == 1)
      have k9 := (((k8.setCell (p := ⟨w.heap.size, 0, none⟩) (Nat.le_refl _) (.int .u8 (K : Int))).setCell (p := ⟨w.heap.size, 1, none⟩) (Nat.le_refl _) (.bool (W == 1))).setCell (p := ⟨w.heap.size, 2, none⟩) (Nat.le_refl _) (.int .u32 (E : Int))).setCell (p := ⟨w.heap.size, 3, none⟩) (Nat.le_refl _) (.int .u64 (Z : Int))
      obtain ⟨⟨e0, e1, e2, e3⟩, _⟩ := Bx.cells h9
      exact bodyPost_ret (v := .tuple #[(⟨K, W == 1, E, Z⟩ : Hd).V, .int .i64 0]) (by simp [results, Tryd.results14, go_sem, e0, e1, e2, e3]; rfl) rfl ⟨by rw [HRr.out]; rfl, k9⟩
end Go.Proofs.YtecmkdoodlpanaaDoor
