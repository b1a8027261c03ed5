/- What sha.turn computes. Conditions: eight words, 64 bytes, the table stands. -/
import Derived.Test.YtecmkdoodlpanaaDoorBw
import Derived.StillTailTactics
import Derived.Great.BuildSlice
namespace Go.Proofs.YtecmkdoodlpanaaDoor
open Go Go.RowKit
attribute [local go_sem] wv_add wv_sub wv_mul wv_xor wv_and wv_or wv_shr wv_shl wv_not wv_store bv_store bv_conv wv_conv wv_cells bv_cells no_cells wv_cellsOf bv_cellsOf

/-- The memory of a call of turn: its words, its answer's place, its schedule. -/
structure Mem (w wr : World) (h z ws : List (BitVec 32)) : Prop where
  h : Ws wr w.heap.size 73 h
  z : Ws wr (w.heap.size + 1) 73 z
  ws : Ws wr (w.heap.size + 1 + 1) 77 ws
  below : Below w.heap.size w wr
theorem Mem.start (w : World) (h z ws : List (BitVec 32)) (c0 c1 c2 : Array Value) (e0 : c0 = (h.map wv).toArray) (e1 : c1 = (z.map wv).toArray) (e2 : c2 = (ws.map wv).toArray) :
    Mem w (((w.alloc (.cells c0 73)).alloc (.cells c1 73)).alloc (.cells c2 77)) h z ws := by
  subst e0 e1 e2
  refine ⟨?_, ?_, ?_, (((Below.refl _ _).alloc (Nat.le_refl _) _).alloc (by simp) _).alloc (by simp; omega) _⟩
  · exact Ws.alloc (Ws.alloc (heap_alloc_new w _) _) _
  · exact Ws.alloc (heap_alloc2_new w _ _) _
  · have := heap_alloc_new ((w.alloc (.cells (h.map wv).toArray 73)).alloc (.cells (z.map wv).toArray 73)) (.cells (ws.map wv).toArray 77)
    simp only [World.size_alloc] at this
    exact this
theorem Mem.setW {w wr : World} {h z ws : List (BitVec 32)} (m : Mem w wr h z ws) (q i : Nat) (x : BitVec 32) : Mem w ((wr.drewN q).setCell ⟨w.heap.size + 1 + 1, i, none⟩ (wv x)) h z (ws.set i x) :=
  ⟨(m.h.drewN q).far _ (by simp; omega), (m.z.drewN q).far _ (by simp), (m.ws.drewN q).set i x, (below_drewN m.below q).setCell (by simp; omega) _⟩

structure Mem3 (w wr : World) (g : Nat) (h z ws v : List (BitVec 32)) : Prop where
  h : Ws wr w.heap.size 73 h
  z : Ws wr (w.heap.size + 1) 73 z
  ws : Ws wr (w.heap.size + 1 + 1) 77 ws
  v : Ws wr g 73 v
  far : w.heap.size + 1 + 1 < g
  below : Below w.heap.size w wr
theorem Mem3.setV {w wr : World} {g : Nat} {h z ws v : List (BitVec 32)} (m : Mem3 w wr g h z ws v) (i : Nat) (x : BitVec 32) : Mem3 w (wr.setCell ⟨g, i, none⟩ (wv x)) g h z ws (v.set i x) :=
  have hf := m.far
  ⟨m.h.far _ (by simp; omega), m.z.far _ (by simp; omega), m.ws.far _ (by simp; omega), m.v.set i x, m.far, m.below.setCell (by simp; omega) _⟩
theorem Mem3.setH {w wr : World} {g : Nat} {h z ws v : List (BitVec 32)} (m : Mem3 w wr g h z ws v) (i : Nat) (x : BitVec 32) : Mem3 w (wr.setCell ⟨w.heap.size, i, none⟩ (wv x)) g (h.set i x) z ws v :=
  have hf := m.far
  ⟨m.h.set i x, m.z.far _ (by simp), m.ws.far _ (by simp; omega), m.v.far _ (by simp; omega), m.far, m.below.setCell (by simp) _⟩
theorem Mem3.setZ {w wr : World} {g : Nat} {h z ws v : List (BitVec 32)} (m : Mem3 w wr g h z ws v) (i : Nat) (x : BitVec 32) : Mem3 w (wr.setCell ⟨w.heap.size + 1, i, none⟩ (wv x)) g h (z.set i x) ws v :=
  have hf := m.far
  ⟨m.h.far _ (by simp), m.z.set i x, m.ws.far _ (by simp), m.v.far _ (by simp; omega), m.far, m.below.setCell (by simp) _⟩
theorem Mem3.drewN {w wr : World} {g : Nat} {h z ws v : List (BitVec 32)} (m : Mem3 w wr g h z ws v) (q : Nat) : Mem3 w (wr.drewN q) g h z ws v :=
  ⟨m.h, m.z, m.ws, m.v, m.far, below_drewN m.below q⟩

theorem Mem3.grown {w wr wr2 : World} {g : Nat} {h z ws v v2 : List (BitVec 32)} (m : Mem3 w wr g h z ws v) (hg : wr.grownBy wr2 (some g)) (hv : Ws wr2 g 73 v2) : Mem3 w wr2 g h z ws v2 :=
  have hf := m.far
  have ne : ∀ k, k < g → some k ≠ some g := fun k hk e => by injection e with e; omega
  ⟨(hg.block _ m.h.lt (fun e => by injection e with e; omega)).trans m.h, (hg.block _ m.z.lt (fun e => by injection e with e; omega)).trans m.z, (hg.block _ m.ws.lt (fun e => by injection e with e; omega)).trans m.ws, hv, hf,
    m.below.grown hg (Nat.le_trans (Nat.le_refl _) m.below.size) (fun k e => by injection e with e; omega)⟩
set_option maxRecDepth 100000 in
set_option maxHeartbeats 8000000 in
theorem turn_c (h : List (BitVec 32)) (A : Option Addr) (c : Nat) (b : List UInt8) (w : World) (hh : h.length = 8) (hb : b.length = 64) (hr : Rd w A (b.map bv)) (hT : Tab w) :
    Calls Tryd.prog 43 #[.agg (h.map wv).toArray, .slice A 64 c] w fun e w' => e = .returned (.agg ((blk h b).map wv).toArray) ∧ Below w.heap.size w w' := by
  obtain ⟨bb, off, rfl, hlt, hcell⟩ := hr.addrB (by omega)
  have hcell2 := getB_rd hcell
  clear hcell
  have HC := Lib.hid hcell2; clear hcell2
  have HT := Lib.hid hT; clear hT
  have HB := Lib.hid hb; clear hb
  obtain ⟨h0, h1, h2, h3, h4, h5, h6, h7, rfl⟩ : ∃ a b c d e f g i, h = [a, b, c, d, e, f, g, i] := by
    match h, hh with
    | [a, b, c, d, e, f, g, i], _ => exact ⟨_, _, _, _, _, _, _, _, rfl⟩
  clear hh hr
  simp only [List.map_cons, List.map_nil]
  go_enter Tryd.func43, Tryd.ntmps43
  go_wp2
  obtain ⟨hv, ehv⟩ : ∃ h, h = [h0, h1, h2, h3, h4, h5, h6, h7] := ⟨_, rfl⟩
  go_loopw [17] (fun i wr => ∃ k : Nat, k ≤ 16 ∧ i = .int .i64 k ∧ Mem w wr hv (List.replicate 8 0) (sch1 b k)) (fun i _ => 16 - (intOf i).toNat)
  case atStart =>
    exact ⟨0, Nat.zero_le _, rfl, Mem.start w _ _ _ _ _ _ (by rw [ehv]; rfl) rfl rfl⟩
  case round =>
    obtain ⟨k, hk, rfl, m⟩ := hrel
    rcases Int.lt_or_le (k : Int) 16 with hlt2 | hle
    · have hk4 : k < 16 := by omega
      have c0 : w.cell? ⟨bb, off + 4 * k, none⟩ = some (bv (getB b (4 * k))) := HC.out _ (by rw [HB.out]; omega)
      have c1 : w.cell? ⟨bb, off + (4 * k + 1), none⟩ = some (bv (getB b (4 * k + 1))) := HC.out _ (by rw [HB.out]; omega)
      have c2 : w.cell? ⟨bb, off + (4 * k + 2), none⟩ = some (bv (getB b (4 * k + 2))) := HC.out _ (by rw [HB.out]; omega)
      have c3 : w.cell? ⟨bb, off + (4 * k + 3), none⟩ = some (bv (getB b (4 * k + 3))) := HC.out _ (by rw [HB.out]; omega)
      rw [← m.below.cell (p := ⟨bb, _, none⟩) hlt] at c0 c1 c2 c3
      have f1 := m.ws.free
      have f2 := m.ws.cell k (by rw [sch1_len]; omega)
      have e1 : (sch1 b k).set k (be4 b k) = sch1 b (k + 1) := rfl
      have E1 := Lib.hid e1; clear e1
      have e2 : be4 b k = bw (getB b (4 * k)) <<< 24 ||| bw (getB b (4 * k + 1)) <<< 16 ||| bw (getB b (4 * k + 2)) <<< 8 ||| bw (getB b (4 * k + 3)) := rfl
      have E2 := Lib.hid e2; clear e2
      generalize getB b (4 * k) = b0 at c0 E2
      generalize getB b (4 * k + 1) = b1 at c1 E2
      generalize getB b (4 * k + 2) = b2 at c2 E2
      generalize getB b (4 * k + 3) = b3 at c3 E2
      have M := Lib.hid m; clear m
      have w1 : IntKind.i64.wrap ((4 : Int) * (k : Int)) = (4 : Int) * (k : Int) := IntWalk.i64_in _ ⟨by omega, by omega⟩
      have w2 : IntKind.i64.wrap ((4 : Int) * (k : Int) + 1) = (4 : Int) * (k : Int) + 1 := IntWalk.i64_in _ ⟨by omega, by omega⟩
      have w3 : IntKind.i64.wrap ((4 : Int) * (k : Int) + 2) = (4 : Int) * (k : Int) + 2 := IntWalk.i64_in _ ⟨by omega, by omega⟩
      have w4 : IntKind.i64.wrap ((4 : Int) * (k : Int) + 3) = (4 : Int) * (k : Int) + 3 := IntWalk.i64_in _ ⟨by omega, by omega⟩
      have k64 : (k : Int) < 64 := by omega
      have k64' : k < 64 := by omega
      have g0 : (0 : Int) ≤ (4 : Int) * (k : Int) := by omega
      have g1 : (0 : Int) ≤ (4 : Int) * (k : Int) + 1 := by omega
      have g2 : (0 : Int) ≤ (4 : Int) * (k : Int) + 2 := by omega
      have g3 : (0 : Int) ≤ (4 : Int) * (k : Int) + 3 := by omega
      have l0 : (4 : Int) * (k : Int) < 64 := by omega
      have l1 : (4 : Int) * (k : Int) + 1 < 64 := by omega
      have l2 : (4 : Int) * (k : Int) + 2 < 64 := by omega
      have l3 : (4 : Int) * (k : Int) + 3 < 64 := by omega
      have n1 : (((4 : Int) * (k : Int))).toNat = 4 * k := by omega
      have n2 : (((4 : Int) * (k : Int) + 1)).toNat = 4 * k + 1 := by omega
      have n3 : (((4 : Int) * (k : Int) + 2)).toNat = 4 * k + 2 := by omega
      have n4 : (((4 : Int) * (k : Int) + 3)).toNat = 4 * k + 3 := by omega
      go_wp2_with (fail)
      refine wp_region_still_tail 35 (by kernel_rfl) (by kernel_rfl) ?_
      simp only [List.take_succ_cons, List.take_zero, List.drop_succ_cons, List.drop_zero]
      change wpStill _ _ (wr.drewN 1) _ _ _
      repeat still_step
      refine wpStill_nil ?_
      rw [← E2.out]
      clear E2
      generalize be4 b k = x at E1 ⊢
      change wpList _ _ _ _ _ (wr.drewN 1)
      go_wp2
      go_simp
      go_wp2
      go_roundw
      case rel =>
        refine ⟨k + 1, by omega, by go_num, ?_⟩
        rw [← E1.out]
        exact M.out.setW 1 k x
      case measure => simp [intOf]; omega
    · obtain rfl : k = 16 := by omega
      have M := Lib.hid m; clear m
      go_wp2
      go_loopw [7] (fun i wr => ∃ j : Nat, 16 ≤ j ∧ j ≤ 64 ∧ i = .int .i64 j ∧ Mem w wr hv (List.replicate 8 0) (sch2 b (j - 16))) (fun i _ => 64 - (intOf i).toNat)
      case atStart => exact ⟨16, by omega, by omega, rfl, M.out⟩
      case round =>
        obtain ⟨j, hj, hj2, rfl, m⟩ := hrel
        clear M
        rcases Int.lt_or_le (j : Int) 64 with hlt2 | hle
        · have hl := sch2_len b (j - 16)
          have f1 := m.ws.free
          have c0 := m.ws.cell (j - 16) (by omega)
          have c1 := m.ws.cell (j - 15) (by omega)
          have c2 := m.ws.cell (j - 2) (by omega)
          have c3 := m.ws.cell (j - 7) (by omega)
          have c4 := m.ws.cell j (by omega)
          have e1 : (sch2 b (j - 16)).set j (nxt (sch2 b (j - 16)) (j - 16)) = sch2 b (j + 1 - 16) := by
            rw [show j + 1 - 16 = (j - 16) + 1 by omega, sch2, show j - 16 + 16 = j by omega]
          have e2 : nxt (sch2 b (j - 16)) (j - 16) = getW (sch2 b (j - 16)) (j - 16) + getW (sch2 b (j - 16)) (j - 7) + (ror (getW (sch2 b (j - 16)) (j - 15)) 7 ^^^ ror (getW (sch2 b (j - 16)) (j - 15)) 18 ^^^ getW (sch2 b (j - 16)) (j - 15) >>> 3) + (ror (getW (sch2 b (j - 16)) (j - 2)) 17 ^^^ ror (getW (sch2 b (j - 16)) (j - 2)) 19 ^^^ getW (sch2 b (j - 16)) (j - 2) >>> 10) := by
            rw [nxt, show j - 16 + 9 = j - 7 by omega, show j - 16 + 1 = j - 15 by omega, show j - 16 + 14 = j - 2 by omega, sig0, sig1]
          have M := Lib.hid m; clear m
          have E1 := Lib.hid e1; clear e1
          have E2 := Lib.hid e2; clear e2
          generalize getW (sch2 b (j - 16)) (j - 16) = a0 at c0 E2
          generalize getW (sch2 b (j - 16)) (j - 15) = a1 at c1 E2
          generalize getW (sch2 b (j - 16)) (j - 2) = a2 at c2 E2
          generalize getW (sch2 b (j - 16)) (j - 7) = a3 at c3 E2
          clear hl
          have w1 : IntKind.i64.wrap ((j : Int) - 15) = (j : Int) - 15 := IntWalk.i64_in _ ⟨by omega, by omega⟩
          have w2 : IntKind.i64.wrap ((j : Int) - 2) = (j : Int) - 2 := IntWalk.i64_in _ ⟨by omega, by omega⟩
          have w3 : IntKind.i64.wrap ((j : Int) - 16) = (j : Int) - 16 := IntWalk.i64_in _ ⟨by omega, by omega⟩
          have w4 : IntKind.i64.wrap ((j : Int) - 7) = (j : Int) - 7 := IntWalk.i64_in _ ⟨by omega, by omega⟩
          have g1 : (0 : Int) ≤ (j : Int) - 15 := by omega
          have g2 : (0 : Int) ≤ (j : Int) - 2 := by omega
          have g3 : (0 : Int) ≤ (j : Int) - 16 := by omega
          have g4 : (0 : Int) ≤ (j : Int) - 7 := by omega
          have l1 : (j : Int) - 15 < 64 := by omega
          have l2 : (j : Int) - 2 < 64 := by omega
          have l3 : (j : Int) - 16 < 64 := by omega
          have l4 : (j : Int) - 7 < 64 := by omega
          have n1 : ((j : Int) - 15).toNat = j - 15 := by omega
          have n2 : ((j : Int) - 2).toNat = j - 2 := by omega
          have n3 : ((j : Int) - 16).toNat = j - 16 := by omega
          have n4 : ((j : Int) - 7).toNat = j - 7 := by omega
          have l5 : j < 64 := by omega
          have p1 : (16 : Int) ≤ (j : Int) := by omega
          have p2 : (7 : Int) ≤ (j : Int) := by omega
          go_wp2
          go_quiet (fail)
          go_wp2_with (fail)
          refine wp_region_still_tail 29 (by kernel_rfl) (by kernel_rfl) ?_
          simp only [List.take_succ_cons, List.take_zero, List.drop_succ_cons, List.drop_zero]
          change wpStill _ _ (wr.drewN (nq + 1)) _ _ _
          repeat still_step
          still_call (Right_s _ 7 (by omega) (by omega) _)
          repeat still_step
          still_call (Right_s _ 18 (by omega) (by omega) _)
          repeat still_step
          still_call (Right_s _ 17 (by omega) (by omega) _)
          repeat still_step
          still_call (Right_s _ 19 (by omega) (by omega) _)
          repeat still_step
          refine wpStill_nil ?_
          rw [← E2.out]
          clear E2
          generalize nxt (sch2 b (j - 16)) (j - 16) = x at E1 ⊢
          change wpList _ _ _ _ _ (wr.drewN (nq + 1))
          go_wp2
          go_simp
          go_wp2
          refine ⟨?_, ?measure⟩
          · iterate 44 (apply Exists.intro)
            refine ⟨?rel, rfl⟩
            case rel =>
              refine ⟨j + 1, by omega, by omega, by go_num, ?_⟩
              rw [← E1.out]
              exact M.out.setW (nq + 1) j x
          case measure => simp [intOf]; omega
        · have e48 : j - 16 = 48 := by omega
          rw [e48] at m
          clear e48
          obtain ⟨ws, ews⟩ : ∃ ws, ws = sch2 b 48 := ⟨_, rfl⟩
          have lws : ws.length = 64 := by rw [ews]; exact sch2_len b 48
          rw [← ews] at m
          obtain ⟨R, eR⟩ : ∃ R, R = rootL := ⟨_, rfl⟩
          have HT2 : Hid (∀ i, i < 64 → w.cell? ⟨0, i, none⟩ = some (wv (getW R i))) := by rw [eR]; exact HT.out.2
          have E0 := Lib.hid (And.intro ews eR); clear ews eR
          have hz := m.ws.lt
          have c0 := m.h.cell
          have f0 := m.h.free
          subst ehv
          have M := Lib.hid m; clear m
          have d0 := c0 0 (by simp)
          have d1 := c0 1 (by simp)
          have d2 := c0 2 (by simp)
          have d3 := c0 3 (by simp)
          have d4 := c0 4 (by simp)
          have d5 := c0 5 (by simp)
          have d6 := c0 6 (by simp)
          have d7 := c0 7 (by simp)
          have hj6 : (64 : Int) ≤ (j : Int) := hle
          simp only [getW, List.getD_cons_zero, List.getD_cons_succ] at d0 d1 d2 d3 d4 d5 d6 d7
          clear c0
          go_wp2
          have M3 : Mem3 w (wr.alloc (.cells #[wv h0, wv h1, wv h2, wv h3, wv h4, wv h5, wv h6, wv h7] 73)) wr.heap.size [h0, h1, h2, h3, h4, h5, h6, h7] (List.replicate 8 0) ws [h0, h1, h2, h3, h4, h5, h6, h7] :=
            ⟨M.out.h.alloc _, M.out.z.alloc _, M.out.ws.alloc _, heap_alloc_new _ _, hz, M.out.below.alloc (Nat.le_of_lt (Nat.lt_trans (by omega) hz)) _⟩
          clear M f0 d0 d1 d2 d3 d4 d5 d6 d7
          obtain ⟨g, eg⟩ : ∃ g, g = wr.heap.size := ⟨_, rfl⟩
          rw [← eg] at M3 hz ⊢
          generalize wr.alloc (.cells #[wv h0, wv h1, wv h2, wv h3, wv h4, wv h5, wv h6, wv h7] 73) = wr1 at M3 ⊢
          clear eg
          go_loopw [98] (fun i wr => ∃ k : Nat, k ≤ 64 ∧ i = .int .i64 k ∧ Mem3 w wr g [h0, h1, h2, h3, h4, h5, h6, h7] (List.replicate 8 0) ws (rounds R ws [h0, h1, h2, h3, h4, h5, h6, h7] k)) (fun i _ => 64 - (intOf i).toNat)
          case atStart => exact ⟨0, Nat.zero_le _, rfl, M3⟩
          case round =>
            clear M3
            obtain ⟨k, hk, rfl, m⟩ := hrel
            rcases Int.lt_or_le (k : Int) 64 with hlt2 | hle
            · have hk2 : k < 64 := by omega
              have t0 := HT2.out k hk2
              rw [← m.below.cell (p := ⟨0, k, none⟩) HT.out.1] at t0
              have t1 := m.ws.cell k (by omega)
              have er : rounds R ws [h0, h1, h2, h3, h4, h5, h6, h7] (k + 1) = rnd (getW R k) (getW ws k) (rounds R ws [h0, h1, h2, h3, h4, h5, h6, h7] k) := rfl
              have hl := rounds_len R ws [h0, h1, h2, h3, h4, h5, h6, h7] rfl k
              obtain ⟨v, ev⟩ : ∃ v, v = rounds R ws [h0, h1, h2, h3, h4, h5, h6, h7] k := ⟨_, rfl⟩
              rw [← ev] at m er hl
              clear ev
              obtain ⟨K, eK⟩ : ∃ K, K = getW R k := ⟨_, rfl⟩
              obtain ⟨X, eX⟩ : ∃ X, X = getW ws k := ⟨_, rfl⟩
              rw [← eK] at t0 er
              rw [← eX] at t1 er
              clear eK eX
              have ER := Lib.hid er; clear er
              obtain ⟨v0, v1, v2, v3, v4, v5, v6, v7, rfl⟩ : ∃ a b c d e f g i, v = [a, b, c, d, e, f, g, i] := by
                match v, hl with
                | [a, b, c, d, e, f, g, i], _ => exact ⟨_, _, _, _, _, _, _, _, rfl⟩
              clear hl
              have fv := m.v.free
              have d0 : wr.cell? ⟨g, 0, none⟩ = some (wv v0) := m.v.cell 0 (by simp)
              have d1 : wr.cell? ⟨g, 1, none⟩ = some (wv v1) := m.v.cell 1 (by simp)
              have d2 : wr.cell? ⟨g, 2, none⟩ = some (wv v2) := m.v.cell 2 (by simp)
              have d3 : wr.cell? ⟨g, 3, none⟩ = some (wv v3) := m.v.cell 3 (by simp)
              have d4 : wr.cell? ⟨g, 4, none⟩ = some (wv v4) := m.v.cell 4 (by simp)
              have d5 : wr.cell? ⟨g, 5, none⟩ = some (wv v5) := m.v.cell 5 (by simp)
              have d6 : wr.cell? ⟨g, 6, none⟩ = some (wv v6) := m.v.cell 6 (by simp)
              have d7 : wr.cell? ⟨g, 7, none⟩ = some (wv v7) := m.v.cell 7 (by simp)
              have M := Lib.hid m; clear m
              obtain ⟨pp, ep⟩ : ∃ p, p = pW K X [v0, v1, v2, v3, v4, v5, v6, v7] := ⟨_, rfl⟩
              obtain ⟨qq, eq⟩ : ∃ q, q = qW [v0, v1, v2, v3, v4, v5, v6, v7] := ⟨_, rfl⟩
              have ep2 : pp = v7 + (ror v4 6 ^^^ ror v4 11 ^^^ ror v4 25) + (v4 &&& v5 ^^^ ~~~v4 &&& v6) + K + X := ep
              have eq2 : qq = (ror v0 2 ^^^ ror v0 13 ^^^ ror v0 22) + (v0 &&& v1 ^^^ v0 &&& v2 ^^^ v1 &&& v2) := eq
              have er2 : rnd K X [v0, v1, v2, v3, v4, v5, v6, v7] = [pp + qq, v0, v1, v2, v3 + pp, v4, v5, v6] := by rw [ep, eq]; rfl
              have ER2 := Lib.hid (ER.out.trans er2); clear er2 ep eq ER
              have EP := Lib.hid ep2; clear ep2
              have EQ := Lib.hid eq2; clear eq2
              go_wp2
              go_quiet (fail)
              go_wp2_with (fail)
              obtain ⟨q1, rfl⟩ : ∃ m, m = nq := ⟨_, rfl⟩
              go_quiet (first | (go_at_call_of 46 (Value.int IntKind.i64 6); exact Right_q _ 6 (by omega) (by omega) _ _ _) | (go_at_call_of 46 (Value.int IntKind.i64 11); exact Right_q _ 11 (by omega) (by omega) _ _ _) | (go_at_call_of 46 (Value.int IntKind.i64 25); exact Right_q _ 25 (by omega) (by omega) _ _ _))
              rw [← EP.out, World.drewN_drewN]
              generalize q1 + nq = q2
              go_wp2_with (fail)
              go_quiet (first | (go_at_call_of 46 (Value.int IntKind.i64 2); exact Right_q _ 2 (by omega) (by omega) _ _ _) | (go_at_call_of 46 (Value.int IntKind.i64 13); exact Right_q _ 13 (by omega) (by omega) _ _ _) | (go_at_call_of 46 (Value.int IntKind.i64 22); exact Right_q _ 22 (by omega) (by omega) _ _ _))
              rw [← EQ.out, World.drewN_drewN]
              generalize q2 + nq = q3
              iterate 60 (first | go_values | go_skip | go_guarded | go_step | go_upon | go_back)
              refine wpList_buildTo rfl 73 _ rfl (some 178) rfl #[wv (pp + qq), wv v0, wv v1, wv v2, wv (v3 + pp), wv v4, wv v5, wv v6] (by simp only [List.map_toArray, List.map_cons, List.map_nil]; exact built_words (pp + qq) v0 v1 v2 (v3 + pp) v4 v5 v6) ?_
              refine wpList_storeW _ rfl (.tmp 10) (.tmp 178) rfl g _ rfl rfl [pp + qq, v0, v1, v2, v3 + pp, v4, v5, v6] [v0, v1, v2, v3, v4, v5, v6, v7] rfl (M.out.v.drewN q3) rfl rfl ?_
              intro w2 hw2 hg2
              go_wp2
              refine ⟨?_, ?measure⟩
              · iterate 87 (apply Exists.intro)
                refine ⟨?rel, rfl⟩
                case rel =>
                  refine ⟨k + 1, by omega, by go_num, ?_⟩
                  rw [ER2.out]
                  exact (M.out.drewN q3).grown hg2 hw2
              case measure => simp [intOf]; omega
            · have k64 : k = 64 := by omega
              rw [k64] at m
              clear k64
              have lv := rounds_len R ws [h0, h1, h2, h3, h4, h5, h6, h7] rfl 64
              obtain ⟨v, ev⟩ : ∃ v, v = rounds R ws [h0, h1, h2, h3, h4, h5, h6, h7] 64 := ⟨_, rfl⟩
              rw [← ev] at m lv
              have EV := Lib.hid ev; clear ev
              obtain ⟨hh, ehh⟩ : ∃ h, h = [h0, h1, h2, h3, h4, h5, h6, h7] := ⟨_, rfl⟩
              have lh : hh.length = 8 := by rw [ehh]; rfl
              rw [← ehh] at m
              have EH := Lib.hid ehh; clear ehh
              have M := Lib.hid m; clear m
              have hk64 : (64 : Int) ≤ (k : Int) := hle
              go_wp2
              go_loopw [180] (fun i wr => ∃ t : Nat, t ≤ 8 ∧ i = .int .i64 t ∧ Mem3 w wr g (addL hh v t) (List.replicate 8 0) ws v) (fun i _ => 8 - (intOf i).toNat)
              case atStart => exact ⟨0, Nat.zero_le _, rfl, M.out⟩
              case round =>
                clear M
                obtain ⟨t, ht, rfl, m⟩ := hrel
                rcases Int.lt_or_le (t : Int) 8 with hlt2 | hle
                · have ht8 : t < 8 := by omega
                  have f1 := m.h.free
                  have c0 := m.h.cell t (by rw [addL_len _ _ lh]; omega)
                  have c1 := m.v.cell t (by omega)
                  obtain ⟨x, ex⟩ : ∃ x, x = getW (addL hh v t) t := ⟨_, rfl⟩
                  obtain ⟨y, ey⟩ : ∃ y, y = getW v t := ⟨_, rfl⟩
                  have e1 : (addL hh v t).set t (x + y) = addL hh v (t + 1) := by rw [ex, ey]; rfl
                  rw [← ex] at c0
                  rw [← ey] at c1
                  clear ex ey
                  have E1 := Lib.hid e1; clear e1
                  have M := Lib.hid m; clear m
                  go_wp2_with (fail)
                  refine wp_region_still_tail 8 (by kernel_rfl) (by kernel_rfl) ?_
                  simp only [List.take_succ_cons, List.take_zero, List.drop_succ_cons, List.drop_zero]
                  change wpStill _ _ (wr.drewN 1) _ _ _
                  repeat still_step
                  refine wpStill_nil ?_
                  change wpList _ _ _ _ _ (wr.drewN 1)
                  go_wp2
                  go_simp
                  go_wp2
                  refine ⟨?_, ?measure⟩
                  · iterate 13 (apply Exists.intro)
                    refine ⟨?rel, rfl⟩
                    case rel =>
                      refine ⟨t + 1, by omega, by go_num, ?_⟩
                      rw [← E1.out]
                      exact (M.out.drewN 1).setH t (x + y)
                  case measure => simp [intOf]; omega
                · have t8 : t = 8 := by omega
                  rw [t8] at m
                  clear t8
                  have lb := addL_len hh v lh 8
                  have eb : addL hh v 8 = blk [h0, h1, h2, h3, h4, h5, h6, h7] b := by rw [EH.out, EV.out, blk, ← E0.out.1, ← E0.out.2]
                  rw [eb] at m lb
                  have ht8 : (8 : Int) ≤ (t : Int) := hle
                  have M := Lib.hid m; clear m
                  clear eb
                  obtain ⟨r, er⟩ : ∃ r, r = blk [h0, h1, h2, h3, h4, h5, h6, h7] b := ⟨_, rfl⟩
                  rw [← er] at M lb
                  have ER := Lib.hid er; clear er
                  go_wp2_with (first | (with_reducible refine wpList_loadW _ rfl (.tmp 2) rfl w.heap.size r rfl M.out.h lb ?_) | (with_reducible refine wpList_storeW _ rfl (.tmp 4) (.tmp 192) rfl (w.heap.size + 1) _ rfl rfl r (List.replicate 8 0) rfl M.out.z lb (by simp) ?_; intro w2 hw2 hg2))
                  have hbw := M.out.below.grown hg2 M.out.below.size (fun k e => by injection e with e; omega)
                  rw [← ER.out]
                  exact bodyPost_ret (v := .agg (r.map wv).toArray) (results_words rfl _ _ (w.heap.size + 1) r rfl hw2 lb) rfl ⟨rfl, hbw⟩
end Go.Proofs.YtecmkdoodlpanaaDoor
