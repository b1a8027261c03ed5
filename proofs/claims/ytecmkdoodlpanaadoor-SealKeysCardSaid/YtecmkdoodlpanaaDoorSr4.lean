/- What the reference's Sum answers: the same as sha.Sum. Conditions: the parts' lengths fit. -/
import Derived.Test.YtecmkdoodlpanaaDoorSr2
import Derived.Test.YtecmkdoodlpanaaDoorSr3
import Derived.Test.YtecmkdoodlpanaaDoorSt
namespace Go.Proofs.YtecmkdoodlpanaaDoor
open Go Go.RowKit
attribute [local go_sem] wv_store bv_store bv_conv wv_conv wv_cells bv_cells no_cells wv_cellsOf bv_cellsOf wv_quo24 wv_quo16 wv_quo8

theorem outP_four (h : List (BitVec 32)) (t : Nat) :
    (((((outP h (4 * t)).set (4 * t) (wb (getW h t >>> 24))).set (4 * t + 1) (wb (getW h t >>> 16))).set (4 * t + 2) (wb (getW h t >>> 8))).set (4 * t + 3) (wb (getW h t))) = outP h (4 * (t + 1)) := by
  rw [show 4 * (t + 1) = 4 * t + 1 + 1 + 1 + 1 by omega]
  simp only [outP, outB]
  rw [show 4 * t / 4 = t by omega, show (4 * t + 1) / 4 = t by omega, show (4 * t + 1 + 1) / 4 = t by omega, show (4 * t + 1 + 1 + 1) / 4 = t by omega]
  rw [show 24 - 8 * (4 * t % 4) = 24 by omega, show 24 - 8 * ((4 * t + 1) % 4) = 16 by omega, show 24 - 8 * ((4 * t + 1 + 1) % 4) = 8 by omega, show 24 - 8 * ((4 * t + 1 + 1 + 1) % 4) = 0 by omega]
  rw [BitVec.ushiftRight_zero]
theorem built_start8 : Tryd.prog.built 72 [(0, .int .u32 1779033703), (1, .int .u32 3144134277), (2, .int .u32 1013904242), (3, .int .u32 2773480762), (4, .int .u32 1359893119), (5, .int .u32 2600822924), (6, .int .u32 528734635), (7, .int .u32 1541459225)] = some (startL.map wv).toArray := by kernel_rfl

theorem zeroBs32 (w : World) : Bs (w.alloc (.cells #[.int .u8 0, .int .u8 0, .int .u8 0, .int .u8 0, .int .u8 0, .int .u8 0, .int .u8 0, .int .u8 0, .int .u8 0, .int .u8 0, .int .u8 0, .int .u8 0, .int .u8 0, .int .u8 0, .int .u8 0, .int .u8 0, .int .u8 0, .int .u8 0, .int .u8 0, .int .u8 0, .int .u8 0, .int .u8 0, .int .u8 0, .int .u8 0, .int .u8 0, .int .u8 0, .int .u8 0, .int .u8 0, .int .u8 0, .int .u8 0, .int .u8 0, .int .u8 0] 46)) w.heap.size 46 (List.replicate 32 0) := heap_alloc_new w _
theorem ownsNew (w : World) (o : Obj) : OwnB ((w.alloc o).alloc (.cells #[] 5)) (w.heap.size + 1) (.slice (some ⟨w.heap.size + 1, 0, none⟩) 0 0) ([] : List UInt8) := by
  have h : OwnB ((w.alloc o).alloc (.cells #[] 5)) (w.heap.size + 1) (.slice (some ⟨(w.alloc o).heap.size, 0, none⟩) 0 0) ([] : List UInt8) := World.ownsRow_made (w.alloc o) #[] 0 (by simp) (Nat.zero_le _) rfl
  rw [World.size_alloc] at h
  exact h
theorem startWs8 (w : World) : Ws (w.alloc (.cells #[.int .u32 1779033703, .int .u32 3144134277, .int .u32 1013904242, .int .u32 2773480762, .int .u32 1359893119, .int .u32 2600822924, .int .u32 528734635, .int .u32 1541459225] 72)) w.heap.size 72 startL := heap_alloc_new w _

set_option maxRecDepth 100000 in
set_option maxHeartbeats 4000000 in
theorem refSum_c (A : Option Addr) (n c : Nat) (bss : List (List UInt8)) (w : World) (hn : bss.length = n) (hr : RdS w A bss) (hl : n ≤ 140737488351232) (hf : bss.flatten.length ≤ 1000000000) :
    Calls Tryd.prog 40 #[.slice A n c] w fun e w' => e = .returned (.agg ((sumL bss.flatten).map bv).toArray) ∧ Below w.heap.size w w' := by
  have HN := Lib.hid hn; clear hn
  go_enter Tryd.func40, Tryd.ntmps40
  go_wp2
  go_loopw [3, 4] (fun v i wr => ∃ k : Nat, k ≤ n ∧ i = .int .i64 k ∧ OwnB wr (w.heap.size + 1) v (bss.take k).flatten ∧ Bs wr w.heap.size 46 (List.replicate 32 0) ∧ Below w.heap.size w wr ∧ w.heap.size + 1 ≤ wr.heap.size) (fun _ i _ => n - (intOf i).toNat)
  case atStart =>
    exact ⟨0, Nat.zero_le _, rfl, ownsNew w _, (zeroBs32 w).alloc _, ((Below.refl _ _).alloc (Nat.le_refl _) _).alloc (by simp) _, by simp⟩
  case round =>
    obtain ⟨k, hk, rfl, hown, hz, hb, hs⟩ := hrel
    rcases Nat.lt_or_ge k n with hlt | hge
    · obtain ⟨b, off, rfl, hblt, hc⟩ := hr.addr (by rw [HN.out]; omega)
      obtain ⟨Ak, ck, h1, h2, h3, h4⟩ := hc k (by rw [HN.out]; exact hlt)
      rw [← hb.cell (p := ⟨b, _, none⟩) hblt] at h1
      have h2' := h2.below hb
      have e1 := flatten_take_succ bss k (by rw [HN.out]; exact hlt)
      have e2 := flatten_take_le bss (k + 1)
      obtain ⟨x, ex⟩ : ∃ x, x = bss[k]'(by rw [HN.out]; exact hlt) := ⟨_, rfl⟩
      rw [← ex] at h1 h2' h3 e1
      have e3 : ((bss.take k).flatten ++ x).length ≤ 1000000000 := by rw [← e1]; omega
      rw [List.length_append] at e3
      obtain ⟨m, em⟩ : ∃ m, m = x.length := ⟨_, rfl⟩
      rw [← em] at h1 h3 e3
      have EM := Lib.hid em; clear em
      have EX := Lib.hid ex; clear ex
      have E1 := Lib.hid e1; clear e1
      clear e2 hc h2
      have HZ := Lib.hid hz; clear hz
      have hlt' : (k : Int) < (n : Int) := by omega
      go_wp2_with (first | (at_builtin; refine wpList_appB _ rfl (.tmp 17) (.tmp 21) rfl (w.heap.size + 1) _ _ rfl hown Ak m ck x rfl EM.out.symm h2' (by omega) (by omega) ?_))
      intro v' w' g1 g2 g3
      have g4 := HZ.out.grown g2 (fun e => by have := (Own.lt hown _ e).1; omega)
      have g5 := hb.grown g2 hb.size (fun q e => by have := (Own.lt hown _ e).1; omega)
      have g6 := g2.size
      rw [← E1.out] at g1
      clear g3 h1 h2'
      go_wp2
      go_roundw
      case rel => exact ⟨k + 1, by omega, by go_num, g1, g4, g5, by omega⟩
      case measure => simp [intOf]; omega
    · obtain rfl : k = n := by omega
      have e1 : (bss.take k).flatten = bss.flatten := by rw [List.take_of_length_le (by rw [HN.out]; exact Nat.le_refl _)]
      rw [e1] at hown
      obtain ⟨L, eL⟩ : ∃ L, L = bss.flatten := ⟨_, rfl⟩
      rw [← eL] at hown hf
      clear e1
      have EL := Lib.hid eL; clear eL
      have hle : (k : Int) ≤ (k : Int) := Int.le_refl _
      obtain ⟨A1, c1, rfl, q1, q2, q3, q4⟩ := hown.form
      have HZ := Lib.hid hz; clear hz
      clear q4 HN hr
      go_wp2_with (fail)
      refine (Padded_c A1 L.length c1 L wr rfl q3 hf).mono ?_
      rintro e w1 ⟨v1, rfl, ho1, hb1⟩
      have g2 := HZ.out.below hb1
      have g3 := hb.trans (hb1.mono hb.size)
      have g4 := hb1.size
      clear hown q3 HZ hb
      obtain ⟨P, eP⟩ : ∃ P, P = padL L := ⟨_, rfl⟩
      have hP : P.length ≤ 1000001000 := by rw [eP, padL_len]; have := padZ_le L.length; omega
      have hP2 : P.length % 64 = 0 := by rw [eP]; exact padL_mod L
      have hP3 : 0 < P.length := by rw [eP, padL_len]; omega
      rw [← eP] at ho1
      have EP := Lib.hid eP; clear eP
      obtain ⟨A2, c2, rfl, r1, r2, r3, r4⟩ := ho1.form
      obtain ⟨pb, po, rfl, hpb, hq⟩ := r3.addr (by rw [List.length_map]; exact hP3)
      clear hq
      obtain ⟨hpb1, hpb2, rfl, hq⟩ := r4 _ rfl
      clear hq
      simp only at hpb1 hpb2 
      have HR3 := Lib.hid r3; clear r3
      have HZ := Lib.hid g2; clear g2
      have HP2 := Lib.hid hP2; clear hP2
      clear r4 ho1
      go_wp2
      have HW : Hid (Ws (w1.alloc (.cells #[.int .u32 1779033703, .int .u32 3144134277, .int .u32 1013904242, .int .u32 2773480762, .int .u32 1359893119, .int .u32 2600822924, .int .u32 528734635, .int .u32 1541459225] 72)) w1.heap.size 72 startL) := startWs8 w1
      have HZ := Lib.hid (HZ.out.alloc (.cells #[.int .u32 1779033703, .int .u32 3144134277, .int .u32 1013904242, .int .u32 2773480762, .int .u32 1359893119, .int .u32 2600822924, .int .u32 528734635, .int .u32 1541459225] 72))
      have HR := Lib.hid (HR3.out.alloc (.cells #[.int .u32 1779033703, .int .u32 3144134277, .int .u32 1013904242, .int .u32 2773480762, .int .u32 1359893119, .int .u32 2600822924, .int .u32 528734635, .int .u32 1541459225] 72))
      have g5 := g3.alloc g3.size (.cells #[.int .u32 1779033703, .int .u32 3144134277, .int .u32 1013904242, .int .u32 2773480762, .int .u32 1359893119, .int .u32 2600822924, .int .u32 528734635, .int .u32 1541459225] 72)
      obtain ⟨G, eG⟩ : ∃ G, G = w1.heap.size := ⟨_, rfl⟩
      rw [← eG] at HW hpb2 g4 ⊢
      have r6 : w.heap.size + 1 ≤ G := by omega
      clear eG hb1 g3 HR3
      go_loopw [7] (fun i wr => ∃ (a : Nat) (h : List (BitVec 32)), i = .int .i64 a ∧ a ≤ P.length ∧ Hid (a % 64 = 0) ∧ Hid (Rd wr (some ⟨pb, 0, none⟩) (P.map bv)) ∧ Hid (blocksN h (P.drop a) ((P.length - a) / 64) = hashL P) ∧ Hid (h.length = 8) ∧ Hid (Ws wr G 72 h) ∧ Hid (Bs wr w.heap.size 46 (List.replicate 32 0)) ∧ Below w.heap.size w wr) (fun i _ => P.length - (intOf i).toNat)
      case atStart => exact ⟨0, startL, rfl, Nat.zero_le _, Lib.hid rfl, HR, Lib.hid rfl, Lib.hid rfl, HW, HZ, g5⟩
      case round =>
        clear HR HW HZ g5
        obtain ⟨a, h, rfl, ha, HA, HR, HH, HL, HW, HZ, g5⟩ := hrel
        rcases Nat.lt_or_ge a P.length with hlt | hge
        · have h64 : a + 64 ≤ P.length := by have := HA.out; have := HP2.out; omega
          have hR := HR.out
          obtain ⟨h0, h1, h2, h3, h4, h5, h6, h7, rfl⟩ : ∃ a b c d e f g i, h = [a, b, c, d, e, f, g, i] := by
            match h, HL.out with
            | [a, b, c, d, e, f, g, i], _ => exact ⟨_, _, _, _, _, _, _, _, rfl⟩
          have d0 := HW.out.cell 0 (by simp)
          have d1 := HW.out.cell 1 (by simp)
          have d2 := HW.out.cell 2 (by simp)
          have d3 := HW.out.cell 3 (by simp)
          have d4 := HW.out.cell 4 (by simp)
          have d5 := HW.out.cell 5 (by simp)
          have d6 := HW.out.cell 6 (by simp)
          have d7 := HW.out.cell 7 (by simp)
          simp only [getW, List.getD_cons_zero, List.getD_cons_succ] at d0 d1 d2 d3 d4 d5 d6 d7
          have hcut := (hR.cut (k := a) (n := P.length) (c := c2) (List.length_map _) (by omega) r1).take 64
          rw [if_neg (by omega)] at hcut
          rw [← List.map_drop, ← List.map_take] at hcut
          have hcut2 : Rd wr (some ⟨pb, a, none⟩) (((P.drop a).take 64).map bv) := by
            have e : Option.map (fun x : Addr => x.add a) (some ⟨pb, 0, none⟩) = some ⟨pb, a, none⟩ := by
              by_cases h0 : a = 0 <;> simp [Addr.add, h0]
            rw [e] at hcut
            exact hcut
          have tc := block_c [h0, h1, h2, h3, h4, h5, h6, h7] (some ⟨pb, a, none⟩) (c2 - a) ((P.drop a).take 64) (wr.drewN 1) rfl (by rw [List.length_take, List.length_drop]; omega) (hcut2.drewN 1)
          simp only [List.map_cons, List.map_nil] at tc
          have TC := Lib.hid tc; clear tc hR hcut hcut2
          have eb : blocksN [h0, h1, h2, h3, h4, h5, h6, h7] (P.drop a) ((P.length - a) / 64) = blocksN (blk [h0, h1, h2, h3, h4, h5, h6, h7] ((P.drop a).take 64)) (P.drop (a + 64)) ((P.length - (a + 64)) / 64) := by
            rw [show (P.length - a) / 64 = (P.length - (a + 64)) / 64 + 1 by omega, ← List.drop_drop]; rfl
          have HB := Lib.hid eb; clear eb
          have hlt' : (a : Int) < (P.length : Int) := by omega
          have w1' : IntKind.i64.wrap ((a : Int) + 64) = (a : Int) + 64 := IntWalk.i64_in _ ⟨by omega, by omega⟩
          have b0 : (0 : Int) ≤ (a : Int) + 64 := by omega
          have b1 : (a : Int) + 64 ≤ (c2 : Int) := by omega
          have b2 : (a : Int) ≤ (a : Int) + 64 := by omega
          have b3 : a + 64 ≤ c2 := by omega
          have b4 : ((a : Int) + 64).toNat = a + 64 := by omega
          have b5 : (c2 = a) = False := by simp; omega
          go_wp2_with (fail)
          refine wp_region_still_tail 6 (by kernel_rfl) (by kernel_rfl) ?_
          simp only [List.take_succ_cons, List.take_zero, List.drop_succ_cons, List.drop_zero]
          change wpStill _ _ (wr.drewN 1) _ _ _
          repeat still_step
          refine wpStill_nil ?_
          change wpList _ _ _ _ _ (wr.drewN 1)
          go_wp2_with (fail)
          refine TC.out.mono ?_
          rintro e w3 ⟨rfl, hb3⟩
          have k1 := HW.out.drewN 1 |>.below hb3
          have k2 := HZ.out.drewN 1 |>.below hb3
          have k3 := HR.out.drewN 1 |>.below hb3
          have k4 := (below_drewN g5 1).trans (hb3.mono g5.size)
          clear d0 d1 d2 d3 d4 d5 d6 d7
          have k11 := blk_len [h0, h1, h2, h3, h4, h5, h6, h7] ((P.drop a).take 64) rfl
          go_wp2_with (first | (with_reducible refine wpList_store8 _ rfl (.tmp 6) (.tmp 38) rfl G _ rfl rfl (blk [h0, h1, h2, h3, h4, h5, h6, h7] ((P.drop a).take 64)) _ rfl k1 k11 HL.out ?_; intro w4 k5 k6; have K5 := Lib.hid k5; clear k5; have K6 := Lib.hid k6; clear k6))
          have k7 := k2.grown K6.out (fun e => by injection e with e; omega)
          have k8 := k3.grown K6.out (fun b off e e2 => by injection e with e; injection e with e; injection e2 with e2; omega)
          have k9 := k4.grown K6.out k4.size (fun q e => by injection e with e; omega)
          go_roundw
          case rel => exact ⟨a + 64, _, by go_num, by omega, Lib.hid (by have := HA.out; omega), Lib.hid k8, Lib.hid (HB.out.symm.trans HH.out), Lib.hid k11, K5, Lib.hid k7, k9⟩
          case measure => simp [intOf]; omega
        · have ea : a = P.length := by omega
          have eH : h = hashL P := by have := HH.out; rw [ea, Nat.sub_self] at this; exact this
          rw [eH] at HW HL
          obtain ⟨R, eR⟩ : ∃ R, R = hashL P := ⟨_, rfl⟩
          rw [← eR] at HW HL
          have ER := Lib.hid eR; clear eR eH HH HA HR
          have EA := Lib.hid ea; clear ea
          have hge' : (P.length : Int) ≤ (a : Int) := by omega
          have z32 : (List.replicate 32 (0 : UInt8)).length = 32 := rfl
          go_wp2_with (first | (refine wpList_buildTo rfl 46 _ rfl (some 39) rfl ((List.replicate 32 (0 : UInt8)).map bv).toArray (by kernel_rfl) ?_) | (refine wpList_storeA _ rfl (.tmp 8) (.tmp 39) rfl wr.heap.size _ rfl rfl _ (List.replicate 32 0) (List.replicate 32 0) rfl (zeroBs32 wr) z32 z32 ?_; intro w2 hw2 hg2; have HO := Lib.hid hw2; clear hw2; have HG := Lib.hid hg2; clear hg2))
          have k0 := HW.out.lt
          have k00 := HZ.out.lt
          have k1 := (HW.out.alloc (.cells #[.int .u8 0, .int .u8 0, .int .u8 0, .int .u8 0, .int .u8 0, .int .u8 0, .int .u8 0, .int .u8 0, .int .u8 0, .int .u8 0, .int .u8 0, .int .u8 0, .int .u8 0, .int .u8 0, .int .u8 0, .int .u8 0, .int .u8 0, .int .u8 0, .int .u8 0, .int .u8 0, .int .u8 0, .int .u8 0, .int .u8 0, .int .u8 0, .int .u8 0, .int .u8 0, .int .u8 0, .int .u8 0, .int .u8 0, .int .u8 0, .int .u8 0, .int .u8 0] 46)).grown HG.out (fun e => by injection e with e; omega)
          have k2 := (HZ.out.alloc (.cells #[.int .u8 0, .int .u8 0, .int .u8 0, .int .u8 0, .int .u8 0, .int .u8 0, .int .u8 0, .int .u8 0, .int .u8 0, .int .u8 0, .int .u8 0, .int .u8 0, .int .u8 0, .int .u8 0, .int .u8 0, .int .u8 0, .int .u8 0, .int .u8 0, .int .u8 0, .int .u8 0, .int .u8 0, .int .u8 0, .int .u8 0, .int .u8 0, .int .u8 0, .int .u8 0, .int .u8 0, .int .u8 0, .int .u8 0, .int .u8 0, .int .u8 0, .int .u8 0] 46)).grown HG.out (fun e => by injection e with e; omega)
          have k3 := (g5.alloc g5.size (.cells #[.int .u8 0, .int .u8 0, .int .u8 0, .int .u8 0, .int .u8 0, .int .u8 0, .int .u8 0, .int .u8 0, .int .u8 0, .int .u8 0, .int .u8 0, .int .u8 0, .int .u8 0, .int .u8 0, .int .u8 0, .int .u8 0, .int .u8 0, .int .u8 0, .int .u8 0, .int .u8 0, .int .u8 0, .int .u8 0, .int .u8 0, .int .u8 0, .int .u8 0, .int .u8 0, .int .u8 0, .int .u8 0, .int .u8 0, .int .u8 0, .int .u8 0, .int .u8 0] 46)).grown HG.out (by simp; omega) (fun q e => by injection e with e; omega)
          obtain ⟨G2, eG2⟩ : ∃ G, G = wr.heap.size := ⟨_, rfl⟩
          rw [← eG2] at HO k0 k00 ⊢
          clear HG eG2 HW HZ g5
          have HW := Lib.hid k1; clear k1
          have HZ := Lib.hid k2; clear k2
          go_loopw [9] (fun i wr => ∃ t : Nat, t ≤ 8 ∧ i = .int .i64 t ∧ Hid (Ws wr G 72 R) ∧ Hid (Bs wr G2 46 (outP R (4 * t))) ∧ Hid (Bs wr w.heap.size 46 (List.replicate 32 0)) ∧ Below w.heap.size w wr) (fun i _ => 8 - (intOf i).toNat)
          case atStart => exact ⟨0, by omega, rfl, HW, HO, HZ, k3⟩
          case round =>
            clear HW HO HZ k3
            obtain ⟨t, ht, rfl, HW, HO, HZ, k3⟩ := hrel
            rcases Int.lt_or_le (t : Int) 8 with hlt | hge2
            · have t8 : t < 8 := by omega
              have c0 := HW.out.cell t (by rw [HL.out]; exact t8)
              have e1 := outP_four R t
              obtain ⟨x, ex⟩ : ∃ x, x = getW R t := ⟨_, rfl⟩
              rw [← ex] at c0 e1
              have HX := Lib.hid ex; clear ex
              have E1 := Lib.hid e1; clear e1
              have hl := outP_len R (4 * t)
              obtain ⟨l, el⟩ : ∃ l, l = outP R (4 * t) := ⟨_, rfl⟩
              rw [← el] at HO hl E1
              have EL2 := Lib.hid el; clear el
              have HL2 := Lib.hid hl; clear hl
              have w1 : IntKind.i64.wrap ((4 : Int) * (t : Int)) = (4 : Int) * (t : Int) := IntWalk.i64_in _ ⟨by omega, by omega⟩
              have w2 : IntKind.i64.wrap ((4 : Int) * (t : Int) + 1) = (4 : Int) * (t : Int) + 1 := IntWalk.i64_in _ ⟨by omega, by omega⟩
              have w3 : IntKind.i64.wrap ((4 : Int) * (t : Int) + 2) = (4 : Int) * (t : Int) + 2 := IntWalk.i64_in _ ⟨by omega, by omega⟩
              have w4 : IntKind.i64.wrap ((4 : Int) * (t : Int) + 3) = (4 : Int) * (t : Int) + 3 := IntWalk.i64_in _ ⟨by omega, by omega⟩
              have g0 : (0 : Int) ≤ (4 : Int) * (t : Int) := by omega
              have g1 : (0 : Int) ≤ (4 : Int) * (t : Int) + 1 := by omega
              have g2 : (0 : Int) ≤ (4 : Int) * (t : Int) + 2 := by omega
              have g3 : (0 : Int) ≤ (4 : Int) * (t : Int) + 3 := by omega
              have l0 : (4 : Int) * (t : Int) < 32 := by omega
              have l1 : (4 : Int) * (t : Int) + 1 < 32 := by omega
              have l2 : (4 : Int) * (t : Int) + 2 < 32 := by omega
              have l3 : (4 : Int) * (t : Int) + 3 < 32 := by omega
              have n1 : (((4 : Int) * (t : Int))).toNat = 4 * t := by omega
              have n2 : (((4 : Int) * (t : Int) + 1)).toNat = 4 * t + 1 := by omega
              have n3 : (((4 : Int) * (t : Int) + 2)).toNat = 4 * t + 2 := by omega
              have n4 : (((4 : Int) * (t : Int) + 3)).toNat = 4 * t + 3 := by omega
              have i0 : 4 * t < l.length := by rw [HL2.out]; omega
              have i1 : 4 * t + 1 < (l.set (4 * t) (wb (x >>> 24))).length := by rw [List.length_set, HL2.out]; omega
              have i2 : 4 * t + 2 < ((l.set (4 * t) (wb (x >>> 24))).set (4 * t + 1) (wb (x >>> 16))).length := by rw [List.length_set, List.length_set, HL2.out]; omega
              have i3 : 4 * t + 3 < (((l.set (4 * t) (wb (x >>> 24))).set (4 * t + 1) (wb (x >>> 16))).set (4 * t + 2) (wb (x >>> 8))).length := by rw [List.length_set, List.length_set, List.length_set, HL2.out]; omega
              have I0 := Lib.hid i0; clear i0
              have I1 := Lib.hid i1; clear i1
              have I2 := Lib.hid i2; clear i2
              have I3 := Lib.hid i3; clear i3
              have hne : Hid (G2 ≠ G) := fun e => by omega
              go_wp2_with (first
                | ((with_reducible refine wpList_putB _ rfl (.tmp 51) (.tmp 50) rfl G2 (4 * t) (wb (x >>> 24)) rfl rfl _ l HO.out I0.out ?_); intro wa ha1 ha2; have c1 : wa.cell? ⟨G, t, none⟩ = some (wv x) := far_cell ha2 c0 hne.out; have HA1 := Lib.hid ha1; clear ha1; have HA2 := Lib.hid ha2; clear ha2)
                | ((with_reducible refine wpList_putB _ rfl (.tmp 60) (.tmp 59) rfl G2 (4 * t + 1) (wb (x >>> 16)) rfl rfl _ _ HA1.out I1.out ?_); intro wb2 hb1 hb2; have c2 : wb2.cell? ⟨G, t, none⟩ = some (wv x) := far_cell hb2 c1 hne.out; have HB1 := Lib.hid hb1; clear hb1; have HB2 := Lib.hid hb2; clear hb2)
                | ((with_reducible refine wpList_putB _ rfl (.tmp 69) (.tmp 68) rfl G2 (4 * t + 2) (wb (x >>> 8)) rfl rfl _ _ HB1.out I2.out ?_); intro wc hc1 hc2; have c3 : wc.cell? ⟨G, t, none⟩ = some (wv x) := far_cell hc2 c2 hne.out; have HC1 := Lib.hid hc1; clear hc1; have HC2 := Lib.hid hc2; clear hc2)
                | ((with_reducible refine wpList_putB _ rfl (.tmp 77) (.tmp 76) rfl G2 (4 * t + 3) (wb x) rfl rfl _ _ HC1.out I3.out ?_); intro wd hd1 hd2; have HD1 := Lib.hid hd1; clear hd1; have HD2 := Lib.hid hd2; clear hd2))
              have gA := only_trans (only_trans (only_trans HA2.out HB2.out) HC2.out) HD2.out
              have hD := HD1.out
              rw [E1.out] at hD
              go_roundw
              case rel => exact ⟨t + 1, by omega, by go_num, Lib.hid (HW.out.grown gA (fun e => by injection e with e; omega)), Lib.hid hD, Lib.hid (HZ.out.grown gA (fun e => by injection e with e; omega)), k3.grown gA k3.size (fun q e => by injection e with e; omega)⟩
              case measure => simp [intOf]; omega
            · obtain rfl : t = 8 := by omega
              have lo := outP_len R 32
              have lz : (List.replicate 32 (0 : UInt8)).length = 32 := rfl
              go_wp2_with (first | (with_reducible refine wpList_loadA _ rfl (.tmp 8) rfl G2 (outP R 32) rfl _ HO.out lo ?_) | (with_reducible refine wpList_storeA _ rfl (.tmp 2) (.tmp 78) rfl w.heap.size _ rfl rfl _ (outP R 32) (List.replicate 32 0) rfl HZ.out lo lz ?_; intro w5 hw5 hg5))
              have hbw := k3.grown hg5 k3.size (fun k e => by injection e with e; omega)
              have eF : sumL bss.flatten = outP R 32 := by rw [ER.out, EP.out, EL.out]; rfl
              rw [eF]
              exact bodyPost_ret (v := .agg ((outP R 32).map bv).toArray) (results_a32 rfl _ _ w.heap.size _ (outP R 32) rfl hw5 lo) rfl ⟨rfl, hbw⟩
end Go.Proofs.YtecmkdoodlpanaaDoor
