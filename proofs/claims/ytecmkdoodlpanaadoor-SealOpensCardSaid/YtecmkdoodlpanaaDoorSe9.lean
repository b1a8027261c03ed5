/- What the reference's Peek answers: a datagram's header, or an error. Conditions: lengths that fit. -/
import Derived.Test.YtecmkdoodlpanaaDoorSe8
import Derived.IntWalk
namespace Go.Proofs.YtecmkdoodlpanaaDoor
open Go Go.RowKit

theorem beN_take_succ (l : List UInt8) (a j : Nat) (h : a + j < l.length) : beN ((l.drop a).take (j + 1)) = beN ((l.drop a).take j) * 256 + (getB l (a + j)).toNat := by
  have hd : j < (l.drop a).length := by rw [List.length_drop]; omega
  rw [List.take_succ_eq_append_getElem hd, beN_snoc]
  congr 2
  simp [getB, List.getD, h]
theorem beN_take_bd (l : List UInt8) (a j : Nat) (h : j ≤ 8) : beN ((l.drop a).take j) < 256 ^ j := by
  refine Nat.lt_of_lt_of_le (beN_lt _) (Nat.pow_le_pow_right (by decide) ?_)
  rw [List.length_take]; omega

set_option maxRecDepth 100000 in
set_option maxHeartbeats 4000000 in
theorem refPeek_c (A : Option Addr) (n c : Nat) (bs : List UInt8) (w : World) (hn : bs.length = n) (hr : Rd w A (bs.map bv)) (hc : n ≤ c) (hm : c ≤ maxLen) :
    Calls Tryd.prog 16 #[.slice A n c] w fun e w' => e = .returned (.tuple #[(peekR bs).1.V, .int .i64 ((peekR bs).2 : Int)]) ∧ Below w.heap.size w w' := by
  have HN := Lib.hid hn; clear hn
  have k0 : Below w.heap.size w (w.alloc (.cells #[.int .u8 0, .bool false, .int .u32 0, .int .u64 0] 26)) := (Below.refl _ _).alloc (Nat.le_refl _) _
  have hb0 : Bx (w.alloc (.cells #[.int .u8 0, .bool false, .int .u32 0, .int .u64 0] 26)) w.heap.size 0 0 0 false := Bx.new w 0 0 0 false
  have HB0 := Lib.hid hb0; clear hb0
  by_cases h1 : n < 30
  · have hp : peekR bs = (hd0, 2) := by unfold peekR; rw [if_pos (by rw [HN.out]; exact h1)]
    rw [hp]; clear hp
    have h1' : (n : Int) < 30 := by omega
    obtain ⟨⟨c0, c1, c2, c3⟩, f0, f1, f2, f3⟩ := HB0.out.cells
    go_enter Tryd.func16, Tryd.ntmps16
    go_wp2
    exact bodyPost_ret (v := .tuple #[hd0.V, .int .i64 2]) (by simp [results, Tryd.results16, go_sem, c0, c1, c2, c3]; rfl) rfl ⟨rfl, k0⟩
  by_cases h2 : 542 < n
  · have hp : peekR bs = (hd0, 4) := by unfold peekR; rw [if_neg (by rw [HN.out]; exact h1), if_pos (by rw [HN.out]; exact h2)]
    rw [hp]; clear hp
    have h2' : (542 : Int) < (n : Int) := by omega
    clear h1
    obtain ⟨⟨c0, c1, c2, c3⟩, f0, f1, f2, f3⟩ := HB0.out.cells
    go_enter Tryd.func16, Tryd.ntmps16
    go_wp2
    exact bodyPost_ret (v := .tuple #[hd0.V, .int .i64 4]) (by simp [results, Tryd.results16, go_sem, c0, c1, c2, c3]; rfl) rfl ⟨rfl, k0⟩
  have h1' : (30 : Int) ≤ (n : Int) := by omega
  have h2' : (n : Int) ≤ 542 := by omega
  have hl : 30 ≤ bs.length := by rw [HN.out]; omega
  have hp : peekR bs = if 1 < (getB bs 1).toNat ∨ mayB (hdOf bs) = false then (hd0, 3) else (hdOf bs, 0) := by unfold peekR; rw [if_neg (by rw [HN.out]; exact h1), if_neg (by rw [HN.out]; exact h2)]
  have hdo := hdOf_ok bs
  have hh : hdOf bs = ⟨(getB bs 0).toNat, getB bs 1 == 1, beN ((bs.drop 2).take 4), beN ((bs.drop 6).take 8)⟩ := rfl
  have hbW : (getB bs 1 == 1) = ((getB bs 1).toNat == 1) := by
    rw [Bool.eq_iff_iff, beq_iff_eq, beq_iff_eq, ← UInt8.toNat_inj]; rfl
  obtain ⟨b, off, rfl, hblt, hcell⟩ := hr.addrB (by omega)
  have g0 := hcell 0 (by omega)
  have g1 := hcell 1 (by omega)
  have ex0 : bs[0]'(by omega) = getB bs 0 := by simp [getB, List.getD, show 0 < bs.length by omega]
  have ex1 : bs[1]'(by omega) = getB bs 1 := by simp [getB, List.getD, show 1 < bs.length by omega]
  rw [ex0] at g0
  rw [ex1] at g1
  unfold bv at g0 g1
  obtain ⟨K, eK⟩ : ∃ K, K = (getB bs 0).toNat := ⟨_, rfl⟩
  obtain ⟨W, eW⟩ : ∃ W, W = (getB bs 1).toNat := ⟨_, rfl⟩
  obtain ⟨E, eE⟩ : ∃ E, E = beN ((bs.drop 2).take 4) := ⟨_, rfl⟩
  obtain ⟨Z, eZ⟩ : ∃ Z, Z = beN ((bs.drop 6).take 8) := ⟨_, rfl⟩
  rw [hbW] at hh
  rw [← eK, ← eW, ← eE, ← eZ] at hh
  rw [← eW] at hp
  rw [hh] at hp hdo
  rw [← eK] at g0
  rw [← eW] at g1
  obtain ⟨hk8, he32, hq64⟩ := hdo
  simp only at hk8 he32 hq64
  obtain ⟨R, eR⟩ : ∃ R, R = peekR bs := ⟨_, rfl⟩
  rw [← eR] at hp ⊢
  have HP := Lib.hid hp; clear hp eR hh hbW ex0 ex1
  have EK := Lib.hid eK; clear eK
  have EE := Lib.hid eE; clear eE
  have EZ := Lib.hid eZ; clear eZ
  have HE : U32 E := he32
  clear he32 eW
  have hk8' : (K : Int) < 256 := by omega
  have HCELL := Lib.hid hcell; clear hcell
  have HL := Lib.hid hl; clear hl h1 h2 hk8
  have k0c : (w.alloc (.cells #[.int .u8 0, .bool false, .int .u32 0, .int .u64 0] 26)).cell? ⟨b, off, none⟩ = some (.int .u8 (K : Int)) := (k0.cell (p := ⟨b, off, none⟩) hblt).trans g0
  have k1c : (w.alloc (.cells #[.int .u8 0, .bool false, .int .u32 0, .int .u64 0] 26)).cell? ⟨b, off + 1, none⟩ = some (.int .u8 (W : Int)) := (k0.cell (p := ⟨b, off + 1, none⟩) hblt).trans g1
  have wc : ((W : Int) == 1) = (W == 1) := by
    rw [Bool.eq_iff_iff, beq_iff_eq, beq_iff_eq]; omega
  have i0 : (0 : Int) < (n : Int) := by omega
  have i0' : 0 < n := by omega
  have i1' : 1 < n := by omega
  have i1 : (1 : Int) < (n : Int) := by omega
  go_enter Tryd.func16, Tryd.ntmps16
  go_wp2_with (fail)
  go_region_held3 (fun w' => w'.cell? ⟨b, off, none⟩ = some (.int .u8 (K : Int)) ∧ w'.cell? ⟨b, off + 1, none⟩ = some (.int .u8 (W : Int))) (first | exact ⟨k0c, k1c⟩ | (simp [*, World.cell?_alloc_some, World.cell?_setCell_far]; done)) (fail)
  all_goals
    have al : Below (w.alloc (.cells #[.int .u8 0, .bool false, .int .u32 0, .int .u64 0] 26)).heap.size (w.alloc (.cells #[.int .u8 0, .bool false, .int .u32 0, .int .u64 0] 26)) ((w.alloc (.cells #[.int .u8 0, .bool false, .int .u32 0, .int .u64 0] 26)).alloc (.cells #[.int .u8 (K : Int), .bool (W == 1), .int .u32 0, .int .u64 0] 26)) := (Below.refl _ _).alloc (Nat.le_refl _) _
    have k4 := below_drewN (k0.trans (al.mono k0.size)) 1
    have hX4 : Bx ((w.alloc (.cells #[.int .u8 0, .bool false, .int .u32 0, .int .u64 0] 26)).alloc (.cells #[.int .u8 (K : Int), .bool (W == 1), .int .u32 0, .int .u64 0] 26)) (w.alloc (.cells #[.int .u8 0, .bool false, .int .u32 0, .int .u64 0] 26)).heap.size K 0 0 (W == 1) := Bx.new _ K 0 0 (W == 1)
    simp only [World.size_alloc] at hX4
    have HX4 := Lib.hid (hX4.drewN 1); clear hX4
    have HB4 := Lib.hid ((HB0.out.below al).drewN 1)
    change Below _ _ (World.drew _) at k4
    change Hid (Bx (World.drew _) _ _ _ _ _) at HX4
    change Hid (Bx (World.drew _) _ _ _ _ _) at HB4
    clear al k0c k1c
    generalize (World.drew ((w.alloc (.cells #[.int .u8 0, .bool false, .int .u32 0, .int .u64 0] 26)).alloc (.cells #[.int .u8 (K : Int), .bool (W == 1), .int .u32 0, .int .u64 0] 26))) = w4 at k4 HX4 HB4 ⊢
    obtain ⟨x, ex⟩ : ∃ x, x = w.heap.size + 1 := ⟨_, rfl⟩
    rw [← ex] at HX4 ⊢
    have hwx : w.heap.size < x := by omega
    clear ex
    go_wp2_with (fail)
    go_loop [5, 6] (fun v i => ∃ j : Nat, j ≤ 4 ∧ i = .int .i64 ((2 + j : Nat) : Int) ∧ v = .int .u64 ((beN ((bs.drop 2).take j) : Nat) : Int)) (fun _ i => 14 - (intOf i).toNat)
    case atStart => exact ⟨0, by omega, rfl, rfl⟩
    case round =>
      obtain ⟨j, hj, rfl, rfl⟩ := hrel
      by_cases hlt : j < 4
      · have hjl : 2 + j < bs.length := by have := HL.out; omega
        have hc := HCELL.out (2 + j) hjl
        have egj : bs[2 + j] = getB bs (2 + j) := by simp [getB, List.getD, hjl]
        rw [egj] at hc
        unfold bv at hc
        rw [← k4.cell (p := ⟨b, _, none⟩) hblt] at hc
        obtain ⟨y, ey⟩ : ∃ y, y = (getB bs (2 + j)).toNat := ⟨_, rfl⟩
        have hy8 : y < 256 := by rw [ey]; exact UInt8.toNat_lt _
        obtain ⟨x, hx⟩ : ∃ x, x = beN ((bs.drop 2).take j) := ⟨_, rfl⟩
        have hx1 := beN_take_succ bs 2 j hjl
        have hx2 := beN_take_bd bs 2 j (by omega)
        have hx3 : x < 256 ^ 7 := by rw [hx]; exact Nat.lt_of_lt_of_le hx2 (Nat.pow_le_pow_right (by decide) (by omega))
        rw [← ey] at hc hx1
        rw [← hx] at hx1 ⊢
        have hw1 : IntKind.u64.wrap ((x : Int) * 256) = (x : Int) * 256 := IntWalk.u64_in _ ⟨by omega, by omega⟩
        have hw2 : IntKind.u64.wrap ((x : Int) * 256 + (y : Int)) = (x : Int) * 256 + (y : Int) := IntWalk.u64_in _ ⟨by omega, by omega⟩
        have HX1 := Lib.hid hx1; clear hx1 hx2
        have HX3 := Lib.hid hx3; clear hx3
        have HXX := Lib.hid hx; clear hx egj
        have EY := Lib.hid ey; clear ey
        have hidx : (2 : Int) + (j : Int) < (n : Int) := by have := HL.out; rw [HN.out] at this; omega
        have hidx2 : ((2 + j : Nat) : Int) < (n : Int) := by omega
        have hlt6 : ((2 + j : Nat) : Int) < 6 := by omega
        have hlt7 : (2 : Int) + (j : Int) < 6 := by omega
        go_wp2
        go_round
        case rel => exact ⟨j + 1, by omega, by go_num, by rw [HX1.out]; rfl⟩
        case measure => simp [intOf]; omega
      · obtain rfl : 4 = j := by omega
        have hem : (E : Int) % 4294967296 = (E : Int) := by have := HE; unfold U32 at this; omega
        rw [← EE.out]
        obtain ⟨⟨c0, c1, c2, c3⟩, f0, f1, f2, f3⟩ := HX4.out.cells
        have k5 := k4.setCell (p := ⟨x, 2, none⟩) (by show w.heap.size ≤ x; omega) (.int .u32 (E : Int))
        have hx5 := heap_set (w := w4) HX4.out 2 (.int .u32 (E : Int))
        have HX5 : Hid (Bx (w4.setCell ⟨x, 2, none⟩ (.int .u32 (E : Int))) x K E 0 (W == 1)) := Lib.hid hx5
        have HB5 := Lib.hid (HB4.out.far (p := ⟨x, 2, none⟩) (.int .u32 (E : Int)) (by show w.heap.size ≠ x; omega))
        clear hx5
        go_wp2_with (fail)
        clear hem c0 c1 c2 c3 f0 f1 f2 f3
        generalize w4.setCell ⟨x, 2, none⟩ (.int .u32 (E : Int)) = w5 at k5 HX5 HB5 ⊢
        clear HX4 HB4 k4
        go_loop [5, 7] (fun v i => ∃ j : Nat, j ≤ 8 ∧ i = .int .i64 ((6 + j : Nat) : Int) ∧ v = .int .u64 ((beN ((bs.drop 6).take j) : Nat) : Int)) (fun _ i => 14 - (intOf i).toNat)
        case atStart => exact ⟨0, by omega, rfl, rfl⟩
        case round =>
          obtain ⟨j, hj, rfl, rfl⟩ := hrel
          by_cases hlt : j < 8
          · have hjl : 6 + j < bs.length := by have := HL.out; omega
            have hc := HCELL.out (6 + j) hjl
            have egj : bs[6 + j] = getB bs (6 + j) := by simp [getB, List.getD, hjl]
            rw [egj] at hc
            unfold bv at hc
            rw [← k5.cell (p := ⟨b, _, none⟩) hblt] at hc
            obtain ⟨y, ey⟩ : ∃ y, y = (getB bs (6 + j)).toNat := ⟨_, rfl⟩
            have hy8 : y < 256 := by rw [ey]; exact UInt8.toNat_lt _
            obtain ⟨x, hx⟩ : ∃ x, x = beN ((bs.drop 6).take j) := ⟨_, rfl⟩
            have hx1 := beN_take_succ bs 6 j hjl
            have hx2 := beN_take_bd bs 6 j (by omega)
            have hx3 : x < 256 ^ 7 := by rw [hx]; exact Nat.lt_of_lt_of_le hx2 (Nat.pow_le_pow_right (by decide) (by omega))
            rw [← ey] at hc hx1
            rw [← hx] at hx1 ⊢
            have hw1 : IntKind.u64.wrap ((x : Int) * 256) = (x : Int) * 256 := IntWalk.u64_in _ ⟨by omega, by omega⟩
            have hw2 : IntKind.u64.wrap ((x : Int) * 256 + (y : Int)) = (x : Int) * 256 + (y : Int) := IntWalk.u64_in _ ⟨by omega, by omega⟩
            have HX1 := Lib.hid hx1; clear hx1 hx2
            have HX3 := Lib.hid hx3; clear hx3
            have HXX := Lib.hid hx; clear hx egj
            have EY := Lib.hid ey; clear ey
            have hidx : (6 : Int) + (j : Int) < (n : Int) := by have := HL.out; rw [HN.out] at this; omega
            have hidx2 : ((6 + j : Nat) : Int) < (n : Int) := by omega
            have hlt6 : ((6 + j : Nat) : Int) < 14 := by omega
            have hlt7 : (6 : Int) + (j : Int) < 14 := by omega
            go_wp2
            go_round
            case rel => exact ⟨j + 1, by omega, by go_num, by rw [HX1.out]; rfl⟩
            case measure => simp [intOf]; omega
          · obtain rfl : 8 = j := by omega
            rw [← EZ.out]
            obtain ⟨⟨c0, c1, c2, c3⟩, f0, f1, f2, f3⟩ := HX5.out.cells
            have k7 := k5.setCell (p := ⟨x, 3, none⟩) (by show w.heap.size ≤ x; omega) (.int .u64 (Z : Int))
            have hx7 := heap_set (w := w5) HX5.out 3 (.int .u64 (Z : Int))
            have HX7 : Hid (Bx (w5.setCell ⟨x, 3, none⟩ (.int .u64 (Z : Int))) x K E Z (W == 1)) := Lib.hid hx7
            have HB7 := Lib.hid (HB5.out.far (p := ⟨x, 3, none⟩) (.int .u64 (Z : Int)) (by show w.heap.size ≠ x; omega))
            have g1' := (k7.cell (p := ⟨b, off + 1, none⟩) hblt).trans g1
            have g1'' := (k5.cell (p := ⟨b, off + 1, none⟩) hblt).trans g1
            clear hx7
            by_cases hW : 1 < W
            · have hR : R = (hd0, 3) := by rw [HP.out, if_pos (Or.inl hW)]
              have HRr := Lib.hid hR; clear hR
              have hW' : (1 : Int) < (W : Int) := by omega
              clear hW
              obtain ⟨⟨d0, d1, d2, d3⟩, g0, g1, g2, g3⟩ := HB7.out.cells
              go_wp2_with (fail)
              have h8 := HB7.out.set4 0 0 0 false
              have k8 := (((k7.setCell (p := ⟨w.heap.size, 0, none⟩) (Nat.le_refl _) (.int .u8 0)).setCell (p := ⟨w.heap.size, 1, none⟩) (Nat.le_refl _) (.bool false)).setCell (p := ⟨w.heap.size, 2, none⟩) (Nat.le_refl _) (.int .u32 0)).setCell (p := ⟨w.heap.size, 3, none⟩) (Nat.le_refl _) (.int .u64 0)
              obtain ⟨⟨e0, e1, e2, e3⟩, _⟩ := Bx.cells h8
              exact bodyPost_ret (v := .tuple #[hd0.V, .int .i64 3]) (by simp only [Int.natCast_zero, Int.cast_ofNat_Int] at e0 e1 e2 e3; simp [results, Tryd.results16, go_sem, e0, e1, e2, e3]; rfl) rfl ⟨by rw [HRr.out]; rfl, k8⟩
            · have hW' : (W : Int) ≤ 1 := by omega
              have HNW := Lib.hid hW; clear hW
              go_wp2_with (fail)
              refine (refMay_c K E Z (W == 1) _).mono ?_
              rintro e w8 ⟨rfl, hb8⟩
              have HX8 := Lib.hid (HX7.out.below hb8)
              have HB8 := Lib.hid (HB7.out.below hb8)
              have k8 := k7.trans (hb8.mono k7.size)
              obtain ⟨⟨d0, d1, d2, d3⟩, g0, g1, g2, g3⟩ := HB8.out.cells
              obtain ⟨⟨x0, x1, x2, x3⟩, _⟩ := HX8.out.cells
              clear hb8 c0 c1 c2 c3 f0 f1 f2 f3
              obtain ⟨my, emy⟩ : ∃ my, my = mayB ⟨K, W == 1, E, Z⟩ := ⟨_, rfl⟩
              rw [← emy]
              cases my with
              | false =>
                have hR : R = (hd0, 3) := by rw [HP.out, if_pos (Or.inr emy.symm)]
                have HRr := Lib.hid hR; clear hR emy
                go_wp2_with (fail)
                have h9 := HB8.out.set4 0 0 0 false
                have k9 := (((k8.setCell (p := ⟨w.heap.size, 0, none⟩) (Nat.le_refl _) (.int .u8 0)).setCell (p := ⟨w.heap.size, 1, none⟩) (Nat.le_refl _) (.bool false)).setCell (p := ⟨w.heap.size, 2, none⟩) (Nat.le_refl _) (.int .u32 0)).setCell (p := ⟨w.heap.size, 3, none⟩) (Nat.le_refl _) (.int .u64 0)
                obtain ⟨⟨e0, e1, e2, e3⟩, _⟩ := Bx.cells h9
                exact bodyPost_ret (v := .tuple #[hd0.V, .int .i64 3]) (by simp only [Int.natCast_zero, Int.cast_ofNat_Int] at e0 e1 e2 e3; simp [results, Tryd.results16, go_sem, e0, e1, e2, e3]; rfl) rfl ⟨by rw [HRr.out]; rfl, k9⟩
              | true =>
                have hR : R = (⟨K, W == 1, E, Z⟩, 0) := by
                  rw [HP.out, if_neg]
                  rintro (h | h)
                  · exact HNW.out h
                  · rw [← emy] at h; cases h
                have HRr := Lib.hid hR; clear hR emy
                go_wp2_with (fail)
                have h9 := HB8.out.set4 K E Z (W == 1)
                have k9 := (((k8.setCell (p := ⟨w.heap.size, 0, none⟩) (Nat.le_refl _) (.int .u8 (K : Int))).setCell (p := ⟨w.heap.size, 1, none⟩) (Nat.le_refl _) (.bool (W == 1))).setCell (p := ⟨w.heap.size, 2, none⟩) (Nat.le_refl _) (.int .u32 (E : Int))).setCell (p := ⟨w.heap.size, 3, none⟩) (Nat.le_refl _) (.int .u64 (Z : Int))
                obtain ⟨⟨e0, e1, e2, e3⟩, _⟩ := Bx.cells h9
                exact bodyPost_ret (v := .tuple #[(⟨K, W == 1, E, Z⟩ : Hd).V, .int .i64 0]) (by simp [results, Tryd.results16, go_sem, e0, e1, e2, e3]; rfl) rfl ⟨by rw [HRr.out]; rfl, k9⟩
end Go.Proofs.YtecmkdoodlpanaaDoor
