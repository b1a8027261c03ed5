/- What the reference's block answers. Conditions: eight words, 64 bytes. -/
import Derived.Test.YtecmkdoodlpanaaDoorSr1
import Derived.Deep.RegionHeld3
namespace Go.Proofs.YtecmkdoodlpanaaDoor
open Go Go.RowKit
attribute [local go_sem] wv_add wv_xor wv_and wv_or wv_shr wv_shl wv_store bv_store bv_conv wv_conv wv_cells bv_cells no_cells wv_cellsOf bv_cellsOf wv_mul24 wv_mul16 wv_mul8 wv_subc

/-- The memory of a call of block. -/
structure MemR (w wr : World) (h z ws : List (BitVec 32)) : Prop where
  h : Ws wr w.heap.size 72 h
  z : Ws wr (w.heap.size + 1) 72 z
  ws : Ws wr (w.heap.size + 1 + 1) 77 ws
  below : Below w.heap.size w wr
theorem MemR.start (w : World) (h z ws : List (BitVec 32)) (c0 c1 c2 : Array Value) (e0 : c0 = (h.map wv).toArray) (e1 : c1 = (z.map wv).toArray) (e2 : c2 = (ws.map wv).toArray) :
    MemR w (((w.alloc (.cells c0 72)).alloc (.cells c1 72)).alloc (.cells c2 77)) h z ws := by
  subst e0 e1 e2
  refine ⟨?_, ?_, ?_, (((Below.refl _ _).alloc (Nat.le_refl _) _).alloc (by simp) _).alloc (by simp; omega) _⟩
  · exact Ws.alloc (Ws.alloc (heap_alloc_new w _) _) _
  · exact Ws.alloc (heap_alloc2_new w _ _) _
  · have := heap_alloc_new ((w.alloc (.cells (h.map wv).toArray 72)).alloc (.cells (z.map wv).toArray 72)) (.cells (ws.map wv).toArray 77)
    simp only [World.size_alloc] at this
    exact this
theorem MemR.setW {w wr : World} {h z ws : List (BitVec 32)} (m : MemR w wr h z ws) (i : Nat) (x : BitVec 32) : MemR w (wr.setCell ⟨w.heap.size + 1 + 1, i, none⟩ (wv x)) h z (ws.set i x) :=
  ⟨m.h.far _ (by simp; omega), m.z.far _ (by simp), m.ws.set i x, m.below.setCell (by simp; omega) _⟩
theorem MemR.drewN {w wr : World} {h z ws : List (BitVec 32)} (m : MemR w wr h z ws) (q : Nat) : MemR w (wr.drewN q) h z ws := ⟨m.h, m.z, m.ws, below_drewN m.below q⟩
theorem MemR.under {w wr w2 : World} {h z ws : List (BitVec 32)} (m : MemR w wr h z ws) (hb : Below wr.heap.size wr w2) : MemR w w2 h z ws := ⟨m.h.below hb, m.z.below hb, m.ws.below hb, m.below.trans (hb.mono m.below.size)⟩

theorem zero_arr8 : ((Tryd.prog.info? 72).bind (·.zero)).map (·.cells) = some #[wv 0, wv 0, wv 0, wv 0, wv 0, wv 0, wv 0, wv 0] := by kernel_rfl
theorem built_arr8 (a b c d e f g h : BitVec 32) : Tryd.prog.built 72 [(0, wv a), (1, wv b), (2, wv c), (3, wv d), (4, wv e), (5, wv f), (6, wv g), (7, wv h)] = some #[wv a, wv b, wv c, wv d, wv e, wv f, wv g, wv h] := by
  have hz := zero_arr8
  have hi := info_u32
  cases hie : Tryd.prog.info? 23 with
  | none => simp [hie] at hi
  | some ie =>
    cases hit : Tryd.prog.info? 72 with
    | none => simp [hit] at hz
    | some it =>
      cases hzz : it.zero with
      | none => simp [hit, hzz] at hz
      | some z =>
        simp only [hie, hit, hzz, Option.map_some, Option.some.injEq, Option.bind_some] at hi hz
        unfold Program.built
        simp only [hit, Tryd.underlying72, hzz, hie, hi, hz]
        have hf := Great.fill_flat [wv a, wv b, wv c, wv d, wv e, wv f, wv g, wv h] #[wv 0, wv 0, wv 0, wv 0, wv 0, wv 0, wv 0, wv 0] (fun v hv => by simp only [List.mem_cons, List.not_mem_nil, or_false] at hv; rcases hv with rfl | rfl | rfl | rfl | rfl | rfl | rfl | rfl <;> rfl) rfl
        simp only [List.zipIdx_cons, List.zipIdx_nil, List.map_cons, List.map_nil, Nat.reduceAdd, Nat.zero_add] at hf
        exact hf
theorem info_arr8 : (Tryd.prog.info? 72).map (·.size) = some 8 := by kernel_rfl
theorem wpList_load8 (w : World) {ops : Array Oper} {rest : List Oper} {o : Oper} {a : Act} {Q : Exit → Act → World → Prop} (hgd : o.guard = none) (x : Operand) (ho : o.op = .load 72 x)
    (g : Nat) (l : List (BitVec 32)) (hx : a.eval x = .pointer (some ⟨g, 0, none⟩)) (hW : Ws w g 72 l) (h8 : l.length = 8)
    (h : wpList Tryd.prog ops Q rest (a.put o.dst (.agg (l.map wv).toArray)) w) : wpList Tryd.prog ops Q (o :: rest) a w :=
  wpList_load_row hgd 72 x ho g hx _ _ _ _ hW Tryd.underlying72 rfl (by rw [info_arr8]; simp [h8]) h
theorem wpList_store8 (w : World) {ops : Array Oper} {rest : List Oper} {o : Oper} {a : Act} {Q : Exit → Act → World → Prop} (hgd : o.guard = none) (x y : Operand) (ho : o.op = .store 72 x y)
    (g : Nat) (C : Array Value) (hx : a.eval x = .pointer (some ⟨g, 0, none⟩)) (hy : a.eval y = .agg C) (l old : List (BitVec 32)) (hC : C = (l.map wv).toArray) (hW : Ws w g 72 old) (h8 : l.length = 8) (o8 : old.length = 8)
    (h : ∀ w', Ws w' g 72 l → w.grownBy w' (some g) → wpList Tryd.prog ops Q rest (a.put o.dst undef) w') : wpList Tryd.prog ops Q (o :: rest) a w := by
  subst hC
  refine wpList_store_row hgd 72 x y ho g _ hx hy 72 _ hW (by rw [info_arr8]; simp [h8]) (by simp [h8, o8]) ?_ (h _ (setRow_heap w g _ _ _ _ hW) ⟨rfl, rfl, rfl, by simp, fun k _ hk => setRow_other w g k _ (fun e => hk (by rw [e]))⟩)
  simp only [Array.all_eq_true_iff_forall_mem]
  intro u hu
  simp only [List.mem_toArray, List.mem_map] at hu
  obtain ⟨_, _, rfl⟩ := hu
  rfl
theorem results_arr8 {fn : Func} {p : Tmp} (h : fn.results = #[.cell p 72]) (tmps : Array Value) (w : World) (g : Nat) (l : List (BitVec 32)) (hp : tmps.getD p undef = .pointer (some ⟨g, 0, none⟩)) (hW : Ws w g 72 l) (h8 : l.length = 8) :
    (results fn tmps).run Tryd.prog w = .ok (.agg (l.map wv).toArray) w :=
  results_cell_row h tmps w g _ _ _ _ hp hW Tryd.underlying72 rfl (by rw [info_arr8]; simp [h8])


theorem MemR.grown {w wr w2 : World} {h z ws ws2 : List (BitVec 32)} (m : MemR w wr h z ws) (hg : wr.grownBy w2 (some (w.heap.size + 1 + 1))) (hw : Ws w2 (w.heap.size + 1 + 1) 77 ws2) : MemR w w2 h z ws2 :=
  ⟨m.h.grown hg (fun e => by injection e with e; omega), m.z.grown hg (fun e => by injection e with e; omega), hw, m.below.grown hg m.below.size (fun k e => by injection e with e; omega)⟩

set_option maxRecDepth 100000 in
set_option maxHeartbeats 8000000 in
theorem block_c (h : List (BitVec 32)) (A : Option Addr) (c : Nat) (b : List UInt8) (w : World) (hh : h.length = 8) (hb : b.length = 64) (hr : Rd w A (b.map bv)) :
    Calls Tryd.prog 45 #[.agg (h.map wv).toArray, .slice A 64 c] w fun e w' => e = .returned (.agg ((blk h b).map wv).toArray) ∧ Below w.heap.size w w' := by
  obtain ⟨bb, off, rfl, hlt, hcell⟩ := hr.addrB (by omega)
  have hcell2 := getB_rd hcell
  clear hcell
  have HC := Lib.hid hcell2; clear hcell2
  have HB := Lib.hid hb; clear hb
  obtain ⟨h0, h1, h2, h3, h4, h5, h6, h7, rfl⟩ : ∃ a b c d e f g i, h = [a, b, c, d, e, f, g, i] := by
    match h, hh with
    | [a, b, c, d, e, f, g, i], _ => exact ⟨_, _, _, _, _, _, _, _, rfl⟩
  clear hh hr
  simp only [List.map_cons, List.map_nil]
  go_enter Tryd.func45, Tryd.ntmps45
  obtain ⟨hv, ehv⟩ : ∃ h, h = [h0, h1, h2, h3, h4, h5, h6, h7] := ⟨_, rfl⟩
  iterate 14 (first | go_values | go_skip | go_guarded | go_step | go_upon | go_back)
  refine wpList_buildTo rfl 77 _ rfl (some 27) rfl ((List.replicate 64 (0 : BitVec 32)).map wv).toArray (by kernel_rfl) ?_
  iterate 3 (first | go_values | go_skip | go_guarded | go_step | go_upon | go_back)
  have m0 := MemR.start w hv (List.replicate 8 0) (List.replicate 64 0) #[wv h0, wv h1, wv h2, wv h3, wv h4, wv h5, wv h6, wv h7] _ _ (by rw [ehv]; rfl) rfl rfl
  refine wpList_storeR _ rfl (.tmp 5) (.tmp 27) rfl (w.heap.size + 1 + 1) _ rfl rfl (List.replicate 64 0) (List.replicate 64 0) rfl m0.ws zero64_len zero64_len ?_
  intro w2 hw2 hg2
  have m1 := m0.grown hg2 hw2
  clear hg2 hw2 m0
  have M := Lib.hid m1; clear m1
  go_wp2
  go_loopw [6] (fun i wr => ∃ k : Nat, k ≤ 16 ∧ i = .int .i64 k ∧ MemR w wr hv (List.replicate 8 0) (sch1 b k)) (fun i _ => 16 - (intOf i).toNat)
  case atStart =>
    exact ⟨0, Nat.zero_le _, rfl, M.out⟩
  case round =>
    clear M
    obtain ⟨k, hk, rfl, m⟩ := hrel
    rcases Int.lt_or_le (k : Int) 16 with hlt2 | hle
    · have hk4 : k < 16 := by omega
      have c0 : w.cell? ⟨bb, off + 4 * k, none⟩ = some (bv (getB b (4 * k))) := HC.out _ (by rw [HB.out]; omega)
      have c1 : w.cell? ⟨bb, off + (4 * k + 1), none⟩ = some (bv (getB b (4 * k + 1))) := HC.out _ (by rw [HB.out]; omega)
      have c2 : w.cell? ⟨bb, off + (4 * k + 2), none⟩ = some (bv (getB b (4 * k + 2))) := HC.out _ (by rw [HB.out]; omega)
      have c3 : w.cell? ⟨bb, off + (4 * k + 3), none⟩ = some (bv (getB b (4 * k + 3))) := HC.out _ (by rw [HB.out]; omega)
      rw [← m.below.cell (p := ⟨bb, _, none⟩) hlt] at c0 c1 c2 c3
      have f1 := m.ws.free
      have f2 := m.ws.cell k (by rw [sch1_len]; omega)
      have e1 : (sch1 b k).set k (be4 b k) = sch1 b (k + 1) := rfl
      have E1 := Lib.hid e1; clear e1
      have e2 : be4 b k = bw (getB b (4 * k)) <<< 24 + bw (getB b (4 * k + 1)) <<< 16 + bw (getB b (4 * k + 2)) <<< 8 + bw (getB b (4 * k + 3)) := (be4_sum _ _ _ _).symm
      have E2 := Lib.hid e2; clear e2
      generalize getB b (4 * k) = b0 at c0 E2
      generalize getB b (4 * k + 1) = b1 at c1 E2
      generalize getB b (4 * k + 2) = b2 at c2 E2
      generalize getB b (4 * k + 3) = b3 at c3 E2
      have M := Lib.hid m; clear m
      have w1 : IntKind.i64.wrap ((4 : Int) * (k : Int)) = (4 : Int) * (k : Int) := IntWalk.i64_in _ ⟨by omega, by omega⟩
      have w2 : IntKind.i64.wrap ((4 : Int) * (k : Int) + 1) = (4 : Int) * (k : Int) + 1 := IntWalk.i64_in _ ⟨by omega, by omega⟩
      have w3 : IntKind.i64.wrap ((4 : Int) * (k : Int) + 2) = (4 : Int) * (k : Int) + 2 := IntWalk.i64_in _ ⟨by omega, by omega⟩
      have w4 : IntKind.i64.wrap ((4 : Int) * (k : Int) + 3) = (4 : Int) * (k : Int) + 3 := IntWalk.i64_in _ ⟨by omega, by omega⟩
      have k64 : (k : Int) < 64 := by omega
      have k64' : k < 64 := by omega
      have g0 : (0 : Int) ≤ (4 : Int) * (k : Int) := by omega
      have g1 : (0 : Int) ≤ (4 : Int) * (k : Int) + 1 := by omega
      have g2 : (0 : Int) ≤ (4 : Int) * (k : Int) + 2 := by omega
      have g3 : (0 : Int) ≤ (4 : Int) * (k : Int) + 3 := by omega
      have l0 : (4 : Int) * (k : Int) < 64 := by omega
      have l1 : (4 : Int) * (k : Int) + 1 < 64 := by omega
      have l2 : (4 : Int) * (k : Int) + 2 < 64 := by omega
      have l3 : (4 : Int) * (k : Int) + 3 < 64 := by omega
      have n1 : (((4 : Int) * (k : Int))).toNat = 4 * k := by omega
      have n2 : (((4 : Int) * (k : Int) + 1)).toNat = 4 * k + 1 := by omega
      have n3 : (((4 : Int) * (k : Int) + 2)).toNat = 4 * k + 2 := by omega
      have n4 : (((4 : Int) * (k : Int) + 3)).toNat = 4 * k + 3 := by omega
      go_wp2_with (fail)
      refine wp_region_still_tail 35 (by kernel_rfl) (by kernel_rfl) ?_
      simp only [List.take_succ_cons, List.take_zero, List.drop_succ_cons, List.drop_zero]
      change wpStill _ _ (wr.drewN 1) _ _ _
      repeat still_step
      refine wpStill_nil ?_
      rw [← E2.out]
      clear E2
      generalize be4 b k = x at E1 ⊢
      change wpList _ _ _ _ _ (wr.drewN 1)
      go_wp2
      go_simp
      go_wp2
      go_roundw
      case rel =>
        refine ⟨k + 1, by omega, by go_num, ?_⟩
        rw [← E1.out]
        exact (M.out.drewN 1).setW k x
      case measure => simp [intOf]; omega
    · obtain rfl : k = 16 := by omega
      have M := Lib.hid m; clear m
      go_wp2
      go_loopw [7] (fun i wr => ∃ j : Nat, 16 ≤ j ∧ j ≤ 64 ∧ i = .int .i64 j ∧ MemR w wr hv (List.replicate 8 0) (sch2 b (j - 16))) (fun i _ => 64 - (intOf i).toNat)
      case atStart => exact ⟨16, by omega, by omega, rfl, M.out⟩
      case round =>
        obtain ⟨j, hj, hj2, rfl, m⟩ := hrel
        clear M
        rcases Int.lt_or_le (j : Int) 64 with hlt2 | hle
        · have hl := sch2_len b (j - 16)
          have f1 := m.ws.free
          have c0 := m.ws.cell (j - 16) (by omega)
          have c1 := m.ws.cell (j - 15) (by omega)
          have c2 := m.ws.cell (j - 2) (by omega)
          have c3 := m.ws.cell (j - 7) (by omega)
          have c4 := m.ws.cell j (by omega)
          have e1 : (sch2 b (j - 16)).set j (nxt (sch2 b (j - 16)) (j - 16)) = sch2 b (j + 1 - 16) := by
            rw [show j + 1 - 16 = (j - 16) + 1 by omega, sch2, show j - 16 + 16 = j by omega]
          have e2 : nxt (sch2 b (j - 16)) (j - 16) = getW (sch2 b (j - 16)) (j - 16) + getW (sch2 b (j - 16)) (j - 7) + (ror (getW (sch2 b (j - 16)) (j - 15)) 7 ^^^ ror (getW (sch2 b (j - 16)) (j - 15)) 18 ^^^ getW (sch2 b (j - 16)) (j - 15) >>> 3) + (ror (getW (sch2 b (j - 16)) (j - 2)) 17 ^^^ ror (getW (sch2 b (j - 16)) (j - 2)) 19 ^^^ getW (sch2 b (j - 16)) (j - 2) >>> 10) := by
            rw [nxt, show j - 16 + 9 = j - 7 by omega, show j - 16 + 1 = j - 15 by omega, show j - 16 + 14 = j - 2 by omega, sig0, sig1]
          have M := Lib.hid m; clear m
          have E1 := Lib.hid e1; clear e1
          have E2 := Lib.hid e2; clear e2
          generalize getW (sch2 b (j - 16)) (j - 16) = a0 at c0 E2
          generalize getW (sch2 b (j - 16)) (j - 15) = a1 at c1 E2
          generalize getW (sch2 b (j - 16)) (j - 2) = a2 at c2 E2
          generalize getW (sch2 b (j - 16)) (j - 7) = a3 at c3 E2
          clear hl
          have w1 : IntKind.i64.wrap ((j : Int) - 15) = (j : Int) - 15 := IntWalk.i64_in _ ⟨by omega, by omega⟩
          have w2 : IntKind.i64.wrap ((j : Int) - 2) = (j : Int) - 2 := IntWalk.i64_in _ ⟨by omega, by omega⟩
          have w3 : IntKind.i64.wrap ((j : Int) - 16) = (j : Int) - 16 := IntWalk.i64_in _ ⟨by omega, by omega⟩
          have w4 : IntKind.i64.wrap ((j : Int) - 7) = (j : Int) - 7 := IntWalk.i64_in _ ⟨by omega, by omega⟩
          have g1 : (0 : Int) ≤ (j : Int) - 15 := by omega
          have g2 : (0 : Int) ≤ (j : Int) - 2 := by omega
          have g3 : (0 : Int) ≤ (j : Int) - 16 := by omega
          have g4 : (0 : Int) ≤ (j : Int) - 7 := by omega
          have l1 : (j : Int) - 15 < 64 := by omega
          have l2 : (j : Int) - 2 < 64 := by omega
          have l3 : (j : Int) - 16 < 64 := by omega
          have l4 : (j : Int) - 7 < 64 := by omega
          have n1 : ((j : Int) - 15).toNat = j - 15 := by omega
          have n2 : ((j : Int) - 2).toNat = j - 2 := by omega
          have n3 : ((j : Int) - 16).toNat = j - 16 := by omega
          have n4 : ((j : Int) - 7).toNat = j - 7 := by omega
          have l5 : j < 64 := by omega
          have p1 : (16 : Int) ≤ (j : Int) := by omega
          have p2 : (7 : Int) ≤ (j : Int) := by omega
          have p3 : (15 : Int) ≤ (j : Int) := by omega
          have p4 : (2 : Int) ≤ (j : Int) := by omega
          go_wp2_with (fail)
          refine (turned_c a1 7 (by omega) (by omega) _).mono ?_
          rintro e w' ⟨rfl, rfl⟩
          go_wp2_with (fail)
          refine (turned_c a1 18 (by omega) (by omega) _).mono ?_
          rintro e w' ⟨rfl, rfl⟩
          go_wp2_with (fail)
          refine (turned_c a2 17 (by omega) (by omega) _).mono ?_
          rintro e w' ⟨rfl, rfl⟩
          go_wp2_with (fail)
          refine (turned_c a2 19 (by omega) (by omega) _).mono ?_
          rintro e w' ⟨rfl, rfl⟩
          go_wp2_with (fail)
          refine wp_region_still_tail 15 (by kernel_rfl) (by kernel_rfl) ?_
          simp only [List.take_succ_cons, List.take_zero, List.drop_succ_cons, List.drop_zero]
          change wpStill _ _ (wr.drewN 1) _ _ _
          repeat still_step
          refine wpStill_nil ?_
          rw [← E2.out]
          clear E2
          generalize nxt (sch2 b (j - 16)) (j - 16) = x at E1 ⊢
          change wpList _ _ _ _ _ (wr.drewN 1)
          go_wp2
          go_simp
          go_wp2
          refine ⟨?_, ?measure⟩
          · iterate 48 (apply Exists.intro)
            refine ⟨?rel, rfl⟩
            case rel =>
              refine ⟨j + 1, by omega, by omega, by go_num, ?_⟩
              rw [← E1.out]
              exact (M.out.drewN 1).setW j x
          case measure => simp [intOf]; omega
        · have e48 : j - 16 = 48 := by omega
          rw [e48] at m
          clear e48
          obtain ⟨ws, ews⟩ : ∃ ws, ws = sch2 b 48 := ⟨_, rfl⟩
          have lws : ws.length = 64 := by rw [ews]; exact sch2_len b 48
          rw [← ews] at m
          have E0 := Lib.hid ews; clear ews
          have c0 := m.h.cell
          subst ehv
          have M := Lib.hid m; clear m
          have d0 := c0 0 (by simp)
          have d1 := c0 1 (by simp)
          have d2 := c0 2 (by simp)
          have d3 := c0 3 (by simp)
          have d4 := c0 4 (by simp)
          have d5 := c0 5 (by simp)
          have d6 := c0 6 (by simp)
          have d7 := c0 7 (by simp)
          have hj6 : (64 : Int) ≤ (j : Int) := hle
          simp only [getW, List.getD_cons_zero, List.getD_cons_succ] at d0 d1 d2 d3 d4 d5 d6 d7
          clear c0
          go_wp2_with (fail)
          go_quiet (fail)
          go_wp2_with (fail)
          clear d0 d1 d2 d3 d4 d5 d6 d7
          have M := Lib.hid (M.out.drewN nq)
          obtain ⟨R, eR⟩ : ∃ R, R = rootL := ⟨_, rfl⟩
          have ER := Lib.hid eR; clear eR
          go_loopw [12, 13, 14, 15, 16, 17, 18, 19, 20] (fun a b c d e f g h i wr => ∃ (k : Nat) (x0 x1 x2 x3 x4 x5 x6 x7 : BitVec 32), k ≤ 64 ∧ i = .int .i64 k ∧ a = wv x0 ∧ b = wv x1 ∧ c = wv x2 ∧ d = wv x3 ∧ e = wv x4 ∧ f = wv x5 ∧ g = wv x6 ∧ h = wv x7 ∧ Hid (rounds R ws [h0, h1, h2, h3, h4, h5, h6, h7] k = [x0, x1, x2, x3, x4, x5, x6, x7]) ∧ Hid (MemR w wr [h0, h1, h2, h3, h4, h5, h6, h7] (List.replicate 8 0) ws)) (fun _ _ _ _ _ _ _ _ i _ => 64 - (intOf i).toNat)
          case atStart => exact ⟨0, _, _, _, _, _, _, _, _, by omega, rfl, rfl, rfl, rfl, rfl, rfl, rfl, rfl, rfl, Lib.hid rfl, M⟩
          case round =>
            clear M
            obtain ⟨k, x0, x1, x2, x3, x4, x5, x6, x7, hk, rfl, rfl, rfl, rfl, rfl, rfl, rfl, rfl, rfl, HR, M⟩ := hrel
            rcases Int.lt_or_le (k : Int) 64 with hlt2 | hle
            · have hk2 : k < 64 := by omega
              have t1 := M.out.ws.cell k (by omega)
              obtain ⟨X, eX⟩ : ∃ X, X = getW ws k := ⟨_, rfl⟩
              rw [← eX] at t1
              obtain ⟨K, eK⟩ : ∃ K, K = getW R k := ⟨_, rfl⟩
              have er : rounds R ws [h0, h1, h2, h3, h4, h5, h6, h7] (k + 1) = rnd K X [x0, x1, x2, x3, x4, x5, x6, x7] := by rw [eK, eX, ← HR.out]; rfl
              have rc := fun w => root_c k hk2 w
              rw [← ER.out, ← eK] at rc
              have RC := Lib.hid rc; clear rc
              have EX := Lib.hid eX; clear eX
              have EK := Lib.hid eK; clear eK
              obtain ⟨pp, ep⟩ : ∃ p, p = pW K X [x0, x1, x2, x3, x4, x5, x6, x7] := ⟨_, rfl⟩
              obtain ⟨qq, eq⟩ : ∃ q, q = qW [x0, x1, x2, x3, x4, x5, x6, x7] := ⟨_, rfl⟩
              have ep2 : pp = x7 + (ror x4 6 ^^^ ror x4 11 ^^^ ror x4 25) + (x4 &&& x5 ^^^ ~~~x4 &&& x6) + K + X := ep
              have eq2 : qq = (ror x0 2 ^^^ ror x0 13 ^^^ ror x0 22) + (x0 &&& x1 ^^^ x0 &&& x2 ^^^ x1 &&& x2) := eq
              have er2 : rnd K X [x0, x1, x2, x3, x4, x5, x6, x7] = [pp + qq, x0, x1, x2, x3 + pp, x4, x5, x6] := by rw [ep, eq]; rfl
              have ER2 := Lib.hid (er.trans er2); clear er2 ep eq er
              have EP := Lib.hid ep2; clear ep2
              have EQ := Lib.hid eq2; clear eq2
              go_wp2_with (fail)
              refine (turned_c x4 6 (by omega) (by omega) _).mono ?_
              rintro e w' ⟨rfl, rfl⟩
              go_wp2_with (fail)
              refine (turned_c x4 11 (by omega) (by omega) _).mono ?_
              rintro e w' ⟨rfl, rfl⟩
              go_wp2_with (fail)
              refine (turned_c x4 25 (by omega) (by omega) _).mono ?_
              rintro e w' ⟨rfl, rfl⟩
              go_wp2_with (fail)
              have hlt5 := M.out.ws.lt
              go_region_held3 (fun w' => w'.cell? ⟨w.heap.size + 1 + 1, k, none⟩ = some (wv X)) (first | exact t1 | exact (hb5.cell (p := ⟨w.heap.size + 1 + 1, k, none⟩) hlt5).trans t1) (first | (go_at_call 48; refine (RC.out _).mono ?_; rintro e w5 ⟨rfl, hb5⟩))
              all_goals
                go_wp2_with (fail)
                refine (turned_c x0 2 (by omega) (by omega) _).mono ?_
                rintro e w' ⟨rfl, rfl⟩
                go_wp2_with (fail)
                refine (turned_c x0 13 (by omega) (by omega) _).mono ?_
                rintro e w' ⟨rfl, rfl⟩
                go_wp2_with (fail)
                refine (turned_c x0 22 (by omega) (by omega) _).mono ?_
                rintro e w' ⟨rfl, rfl⟩
                go_wp2_with (fail)
                rw [← EP.out, ← EQ.out]
                refine ⟨?_, ?measure⟩
                · iterate 81 (apply Exists.intro)
                  refine ⟨?rel, rfl⟩
                  case rel =>
                    exact ⟨k + 1, _, _, _, _, _, _, _, _, by omega, by go_num, rfl, rfl, rfl, rfl, rfl, rfl, rfl, rfl, ER2, Lib.hid ((M.out.drewN _).under hb5)⟩
                case measure => simp [intOf]; omega
            · have k64 : k = 64 := by omega
              rw [k64] at HR
              have eb : blk [h0, h1, h2, h3, h4, h5, h6, h7] b = [h0 + x0, h1 + x1, h2 + x2, h3 + x3, h4 + x4, h5 + x5, h6 + x6, h7 + x7] := by
                rw [blk, ← ER.out, ← E0.out, HR.out]; rfl
              clear k64
              have EB := Lib.hid eb; clear eb
              have c0 := M.out.h.cell
              have d0 := c0 0 (by simp)
              have d1 := c0 1 (by simp)
              have d2 := c0 2 (by simp)
              have d3 := c0 3 (by simp)
              have d4 := c0 4 (by simp)
              have d5 := c0 5 (by simp)
              have d6 := c0 6 (by simp)
              have d7 := c0 7 (by simp)
              simp only [getW, List.getD_cons_zero, List.getD_cons_succ] at d0 d1 d2 d3 d4 d5 d6 d7
              clear c0
              have hk64 : (64 : Int) ≤ (k : Int) := hle
              iterate 117 (first | go_values | go_skip | go_guarded | go_step | go_upon | go_back)
              refine wpList_buildTo rfl 72 _ rfl (some 224) rfl #[wv (h0 + x0), wv (h1 + x1), wv (h2 + x2), wv (h3 + x3), wv (h4 + x4), wv (h5 + x5), wv (h6 + x6), wv (h7 + x7)] (by simp only [List.map_toArray, List.map_cons, List.map_nil]; exact built_arr8 (h0 + x0) (h1 + x1) (h2 + x2) (h3 + x3) (h4 + x4) (h5 + x5) (h6 + x6) (h7 + x7)) ?_
              refine wpList_store8 _ rfl (.tmp 4) (.tmp 224) rfl (w.heap.size + 1) _ rfl rfl [h0 + x0, h1 + x1, h2 + x2, h3 + x3, h4 + x4, h5 + x5, h6 + x6, h7 + x7] (List.replicate 8 0) rfl M.out.z rfl rfl ?_
              intro w2 hw2 hg2
              have HW := Lib.hid hw2; clear hw2
              go_wp2
              have hbw := M.out.below.grown hg2 M.out.below.size (fun k e => by injection e with e; omega)
              rw [EB.out]
              exact bodyPost_ret (v := .agg ([h0 + x0, h1 + x1, h2 + x2, h3 + x3, h4 + x4, h5 + x5, h6 + x6, h7 + x7].map wv).toArray) (results_arr8 rfl _ _ (w.heap.size + 1) _ rfl HW.out rfl) rfl ⟨rfl, hbw⟩

end Go.Proofs.YtecmkdoodlpanaaDoor
