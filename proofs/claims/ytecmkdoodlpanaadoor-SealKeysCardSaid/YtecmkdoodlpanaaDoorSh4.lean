/- What sha.first and sha.Sum answer. Conditions: the table stands; the parts' lengths fit. -/
import Derived.Test.YtecmkdoodlpanaaDoorSh3
import Derived.Test.YtecmkdoodlpanaaDoorSp
namespace Go.Proofs.YtecmkdoodlpanaaDoor
open Go Go.RowKit
attribute [local go_sem] wv_add wv_sub wv_mul wv_xor wv_and wv_or wv_shr wv_shl wv_not wv_store bv_store bv_conv wv_conv wv_cells bv_cells no_cells wv_cellsOf bv_cellsOf

theorem built_start : Tryd.prog.built 73 [(0, .int .u32 1779033703), (1, .int .u32 3144134277), (2, .int .u32 1013904242), (3, .int .u32 2773480762), (4, .int .u32 1359893119), (5, .int .u32 2600822924), (6, .int .u32 528734635), (7, .int .u32 1541459225)] = some (startL.map wv).toArray := by kernel_rfl
theorem zeros_8 : #[wv 0, wv 0, wv 0, wv 0, wv 0, wv 0, wv 0, wv 0] = ((List.replicate 8 (0 : BitVec 32)).map wv).toArray := rfl

set_option maxRecDepth 100000 in
set_option maxHeartbeats 400000 in
theorem first_c (w : World) : Calls Tryd.prog 42 #[] w fun e w' => e = .returned (.agg (startL.map wv).toArray) ∧ Below w.heap.size w w' := by
  go_enter Tryd.func42, Tryd.ntmps42
  go_wp2
  exact bodyPost_ret (v := .agg (startL.map wv).toArray) (results_words rfl _ _ w.heap.size startL rfl (heap_alloc_new w _) rfl) rfl ⟨rfl, (Below.refl _ _).alloc (Nat.le_refl _) _⟩

theorem be8_val (n t : Nat) : Value.int .u8 ((n : Int) * 8 / 2 ^ (8 * t) % 256) = bv (lo8 (8 * n / 256 ^ t)) := by
  unfold bv
  rw [lo8_nat, show (256 : Nat) ^ t = 2 ^ (8 * t) by rw [Nat.pow_mul], Nat.mul_comm 8 n]
  congr 1
theorem zeroWs (w : World) : Ws (w.alloc (.cells #[.int .u32 0, .int .u32 0, .int .u32 0, .int .u32 0, .int .u32 0, .int .u32 0, .int .u32 0, .int .u32 0] 73)) w.heap.size 73 (List.replicate 8 0) := heap_alloc_new w _
theorem zero8_len : (List.replicate 8 (0 : BitVec 32)).length = 8 := rfl
def sliceLen : Value → Nat
  | .slice _ n _ => n
  | _ => 0

set_option maxRecDepth 100000 in
set_option maxHeartbeats 4000000 in
theorem Sum_c (A : Option Addr) (n c : Nat) (bss : List (List UInt8)) (w : World) (hn : bss.length = n) (hr : RdS w A bss) (hl : n ≤ 140737488351232) (hf : bss.flatten.length ≤ 1000000000) (hT : Tab w) :
    Calls Tryd.prog 38 #[.slice A n c] w fun e w' => e = .returned (.agg ((sumL bss.flatten).map bv).toArray) ∧ Below w.heap.size w w' := by
  have HN := Lib.hid hn; clear hn
  have HT := Lib.hid hT; clear hT
  go_enter Tryd.func38, Tryd.ntmps38
  go_wp2
  go_loopw [3, 13] (fun v i wr => ∃ k : Nat, k ≤ n ∧ i = .int .i64 k ∧ OwnB wr (w.heap.size + 1) v (bss.take k).flatten ∧ Bs wr w.heap.size 46 (List.replicate 32 0) ∧ Below w.heap.size w wr ∧ w.heap.size + 1 ≤ wr.heap.size) (fun _ i _ => n - (intOf i).toNat)
  case atStart => exact ⟨0, Nat.zero_le _, rfl, Own.nil_ _ _ _, heap_alloc_new w _, (Below.refl _ _).alloc (Nat.le_refl _) _, by simp⟩
  case round =>
    obtain ⟨k, hk, rfl, hown, hz, hb, hs⟩ := hrel
    rcases Nat.lt_or_ge k n with hlt | hge
    · obtain ⟨b, off, rfl, hblt, hc⟩ := hr.addr (by rw [HN.out]; omega)
      obtain ⟨Ak, ck, h1, h2, h3, h4⟩ := hc k (by rw [HN.out]; exact hlt)
      rw [← hb.cell (p := ⟨b, _, none⟩) hblt] at h1
      have h2' := h2.below hb
      have e1 := flatten_take_succ bss k (by rw [HN.out]; exact hlt)
      have e2 := flatten_take_le bss (k + 1)
      obtain ⟨x, ex⟩ : ∃ x, x = bss[k]'(by rw [HN.out]; exact hlt) := ⟨_, rfl⟩
      rw [← ex] at h1 h2' h3 e1
      have e3 : ((bss.take k).flatten ++ x).length ≤ 1000000000 := by rw [← e1]; omega
      rw [List.length_append] at e3
      obtain ⟨m, em⟩ : ∃ m, m = x.length := ⟨_, rfl⟩
      rw [← em] at h1 h3 e3
      have EM := Lib.hid em; clear em
      have EX := Lib.hid ex; clear ex
      have E1 := Lib.hid e1; clear e1
      clear e2 hc h2
      have HZ := Lib.hid hz; clear hz
      have hlt' : (k : Int) < (n : Int) := by omega
      go_wp2_with (first | (at_builtin; refine wpList_appB _ rfl (.tmp 17) (.tmp 18) rfl (w.heap.size + 1) _ _ rfl hown Ak m ck x rfl EM.out.symm h2' (by omega) (by omega) ?_))
      intro v' w' g1 g2 g3
      have g4 := HZ.out.grown g2 (fun e => by have := (Own.lt hown _ e).1; omega)
      have g5 := hb.grown g2 hb.size (fun q e => by have := (Own.lt hown _ e).1; omega)
      have g6 := g2.size
      rw [← E1.out] at g1
      clear g3 h1 h2'
      go_wp2
      go_roundw
      case rel => exact ⟨k + 1, by omega, by go_num, g1, g4, g5, by omega⟩
      case measure => simp [intOf]; omega
    · obtain rfl : k = n := by omega
      have e1 : (bss.take k).flatten = bss.flatten := by rw [List.take_of_length_le (by rw [HN.out]; exact Nat.le_refl _)]
      rw [e1] at hown
      obtain ⟨L, eL⟩ : ∃ L, L = bss.flatten := ⟨_, rfl⟩
      rw [← eL] at hown hf
      clear e1
      have EL := Lib.hid eL; clear eL
      have hle : (k : Int) ≤ (k : Int) := Int.le_refl _
      obtain ⟨A1, c1, rfl, q1, q2, q3, q4⟩ := hown.form
      have HZ := Lib.hid hz; clear hz
      clear q3 q4 HN hr
      go_wp2_with (first | (at_builtin; refine wpList_appB1 _ rfl (.tmp 25) (.tmp 26) rfl (w.heap.size + 1) _ L rfl hown _ rfl 128 rfl (by omega) (by omega) ?_))
      intro v2 w2 g1 g2 _
      have g4 := HZ.out.alloc (.cells #[Value.int IntKind.u8 128] 5) |>.grown g2 (fun e => by have := (Own.lt hown _ e).1; omega)
      have g5 := (hb.alloc hb.size (.cells #[Value.int IntKind.u8 128] 5)).grown g2 (by simp; omega) (fun q e => by have := (Own.lt hown _ e).1; omega)
      have g6 := g2.size
      simp only [World.size_alloc] at g6
      have g7 : w.heap.size + 1 ≤ w2.heap.size := by omega
      clear g6 hown hb hs g2 HZ
      have HZ := Lib.hid g4; clear g4
      go_wp2
      go_loopw [3] (fun v wr => ∃ z : Nat, z ≤ padZ L.length ∧ OwnB wr (w.heap.size + 1) v (padHead L z) ∧ Bs wr w.heap.size 46 (List.replicate 32 0) ∧ Below w.heap.size w wr ∧ w.heap.size + 1 ≤ wr.heap.size) (fun v _ => 100 + L.length - sliceLen v)
      case atStart => exact ⟨0, Nat.zero_le _, by simpa [padHead] using g1, HZ.out, g5, g7⟩
      case round =>
        clear g1 g5 g7 HZ
        obtain ⟨z, hz, hown, hBz, hb, hs⟩ := hrel
        have hpz := padZ_le L.length
        obtain ⟨M, eM⟩ : ∃ M, M = padHead L z := ⟨_, rfl⟩
        have hM : M.length = L.length + 1 + z := by rw [eM]; exact padHead_len _ _
        have hM2 : M.length ≤ L.length + 100 := by omega
        rw [← eM] at hown
        have HZ := Lib.hid hBz; clear hBz
        obtain ⟨A2, c2, rfl, q1, q2, q3, q4⟩ := hown.form
        clear q3 q4
        rcases Nat.lt_or_ge z (padZ L.length) with hlt | hge
        · have ht : (((M.length : Int) % 64) != 56) = true := by rw [bne_iff_ne]; unfold padZ at hlt; omega
          have EM := Lib.hid eM; clear eM
          have HM := Lib.hid hM; clear hM
          go_wp2_with (first | (at_builtin; refine wpList_appB1 _ rfl (.tmp 32) (.tmp 33) rfl (w.heap.size + 1) _ M rfl hown _ rfl 0 rfl (by omega) (by omega) ?_))
          intro v2 w2 g1 g2 _
          have g4 := HZ.out.alloc (.cells #[Value.int IntKind.u8 0] 5) |>.grown g2 (fun e => by have := (Own.lt hown _ e).1; omega)
          have g5 := (hb.alloc hb.size (.cells #[Value.int IntKind.u8 0] 5)).grown g2 (by simp; omega) (fun q e => by have := (Own.lt hown _ e).1; omega)
          have g6 := g2.size
          simp only [World.size_alloc] at g6
          rw [EM.out, ← padHead_succ] at g1
          obtain ⟨A3, c3, rfl, _, _, _, _⟩ := g1.form
          have HG := Lib.hid g4; clear g4
          have HM2 := HM.out
          clear HZ
          go_wp2
          go_roundw
          case rel => exact ⟨z + 1, by omega, g1, HG.out, g5, by omega⟩
          case measure => simp [sliceLen, padHead_len]; omega
        · have ez : z = padZ L.length := by omega
          have ht : (((M.length : Int) % 64) != 56) = false := by rw [bne_eq_false_iff_eq]; unfold padZ at ez; omega
          have EM := Lib.hid eM; clear eM
          have HM := Lib.hid hM; clear hM
          have EZ := Lib.hid ez; clear ez
          go_wp2
          have eMM : M = padHead L (padZ L.length) := by rw [← EZ.out]; exact EM.out
          have hM3 : M.length ≤ 1000000200 := by omega
          clear EM HM EZ ht hM2 hge q1 q2 hpz
          have EM := Lib.hid eMM; clear eMM
          go_loopw [3, 7] (fun v i wr => ∃ (j : Nat) (y : Int), i = .int .i64 y ∧ Hid (y = 7 - (j : Int)) ∧ -1 ≤ y ∧ y ≤ 7 ∧ OwnB wr (w.heap.size + 1) v (M ++ be8 (8 * L.length) j) ∧ Bs wr w.heap.size 46 (List.replicate 32 0) ∧ Below w.heap.size w wr ∧ w.heap.size + 1 ≤ wr.heap.size) (fun _ i _ => (intOf i + 1).toNat)
          case atStart => exact ⟨0, 7, rfl, Lib.hid (by omega), by omega, by omega, by simpa [be8] using hown, HZ.out, hb, hs⟩
          case round =>
            clear hown HZ hb hs
            obtain ⟨j, y, rfl, HY, hy1, hy2, hown, hBz, hb, hs⟩ := hrel
            rcases Int.lt_or_le y 0 with hneg | hpos
            · have HZ := Lib.hid hBz; clear hBz
              have ej : j = 8 := by have := HY.out; omega
              have eD : M ++ be8 (8 * L.length) j = padL L := by rw [ej, EM.out]; rfl
              rw [eD] at hown
              clear eD ej HY hy1 hy2
              go_wp2_with (fail)
              refine (first_c wr).mono ?_
              rintro e w3 ⟨rfl, hb3⟩
              have g1 := Own.below hown hb3
              have g2 := HZ.out.below hb3
              have g3 := hb.trans (hb3.mono hb.size)
              have g4 := hb3.size
              clear hown HZ hb
              have HZ := Lib.hid g2; clear g2
              go_wp2_with (first | (with_reducible refine wpList_storeW _ rfl (.tmp 8) (.tmp 48) rfl w3.heap.size _ rfl rfl startL (List.replicate 8 0) rfl (zeroWs w3) startL_len zero8_len ?_; intro w4 h4 h5))
              have g5 : Below w3.heap.size w3 w4 := ((Below.refl _ _).alloc (Nat.le_refl _) _).grown h5 (by simp) (fun q e => by injection e with e; omega)
              have g6 := g3.trans (g5.mono g3.size)
              have g7 := HZ.out.below g5
              have g8 := Own.below g1 g5
              have g9 := Own.lt g1
              obtain ⟨A5, c5, rfl, r1, r2, r3, r4⟩ := OwnB.form g8
              obtain ⟨B4, eB⟩ : ∃ B, B = w3.heap.size := ⟨_, rfl⟩
              rw [← eB] at g9 h4 ⊢
              have r5 : ∀ a, A5 = some a → a.block < B4 := by
                intro a e
                subst e
                exact (g9 a.block rfl).2
              have r6 : w.heap.size + 1 ≤ B4 := by omega
              clear eB g8 g9 r4 g1 HZ g3 h5 g5
              have HZ := Lib.hid g7; clear g7
              have HR3 := Lib.hid r3; clear r3
              have H4 := Lib.hid h4; clear h4
              obtain ⟨P, eP⟩ : ∃ P, P = padL L := ⟨_, rfl⟩
              have hP : P.length ≤ 1000001000 := by rw [eP, padL_len]; have := padZ_le L.length; omega
              have hP2 : P.length % 64 = 0 := by rw [eP]; exact padL_mod L
              rw [← eP] at HR3 r1 ⊢
              have EP := Lib.hid eP; clear eP
              have HP2 := Lib.hid hP2; clear hP2
              simp only [Act.put]
              go_loopw [3] (fun v wr => ∃ (A : Option Addr) (c : Nat) (l : List UInt8) (h : List (BitVec 32)), v = .slice A l.length c ∧ l.length ≤ c ∧ c ≤ maxLen ∧ l.length ≤ 1000001000 ∧ Hid (l.length % 64 = 0) ∧ Hid (Rd wr A (l.map bv)) ∧ (∀ a, A = some a → a.block < B4) ∧ Hid (blocksN h l (l.length / 64) = hashL P) ∧ Hid (h.length = 8) ∧ Hid (Ws wr B4 73 h) ∧ Hid (Bs wr w.heap.size 46 (List.replicate 32 0)) ∧ Below w.heap.size w wr) (fun v _ => sliceLen v)
              case atStart => exact ⟨A5, c5, P, startL, rfl, r1, r2, hP, HP2, HR3, r5, Lib.hid rfl, Lib.hid rfl, H4, HZ, g6⟩
              case round =>
                clear HR3 r5 H4 HZ g6 HP2 r1 r2
                obtain ⟨A6, cq, l, h, rfl, r1, r2, r3, HM, HR, r5, HH, HL, HW, HZ, g6⟩ := hrel
                clear hs hneg g4 hb3
                rcases Nat.eq_zero_or_pos l.length with h0 | hpos
                · have eH : h = hashL P := by have := HH.out; rw [h0] at this; exact this
                  rw [eH] at HW HL
                  obtain rfl := List.eq_nil_of_length_eq_zero h0
                  clear h0 eH HH HM HR
                  obtain ⟨R, eR⟩ : ∃ R, R = hashL P := ⟨_, rfl⟩
                  rw [← eR] at HW HL
                  have ER := Lib.hid eR; clear eR
                  go_wp2
                  have hW4 := HW.out.lt
                  have HW := Lib.hid (HW.out.alloc (.cells ((List.replicate 32 (0 : UInt8)).map bv).toArray 46))
                  have HZ := Lib.hid (HZ.out.alloc (.cells ((List.replicate 32 (0 : UInt8)).map bv).toArray 46))
                  have HO : Hid (Bs (wr.alloc (.cells ((List.replicate 32 (0 : UInt8)).map bv).toArray 46)) wr.heap.size 46 (outP R 0)) := Lib.hid (heap_alloc_new wr _)
                  have g7 := g6.alloc g6.size (.cells ((List.replicate 32 (0 : UInt8)).map bv).toArray 46)
                  have g8 := g6.size
                  have g9 := HW.out.lt
                  obtain ⟨G, eG⟩ : ∃ G, G = wr.heap.size := ⟨_, rfl⟩
                  rw [← eG] at HO g8 hW4 ⊢
                  have hBG : B4 ≠ G := by omega
                  have HBG := Lib.hid hBG; clear hBG
                  clear eG g9
                  simp only [List.length_nil]
                  go_loopw [58] (fun i wr => ∃ t : Nat, t ≤ 32 ∧ i = .int .i64 t ∧ Hid (Ws wr B4 73 R) ∧ Hid (Bs wr G 46 (outP R t)) ∧ Hid (Bs wr w.heap.size 46 (List.replicate 32 0)) ∧ Below w.heap.size w wr) (fun i _ => 32 - (intOf i).toNat)
                  case atStart => exact ⟨0, Nat.zero_le _, rfl, HW, HO, HZ, g7⟩
                  case round =>
                    clear HW HO HZ g6 g7
                    obtain ⟨t, ht, rfl, HW, HO, HZ, g6⟩ := hrel
                    rcases Int.lt_or_le (t : Int) 32 with hlt | hge
                    · have c0 := HW.out.cell (t / 4) (by rw [HL.out]; omega)
                      have f0 := HO.out.free
                      have o0 := HO.out.cell t (by rw [outP_len]; omega)
                      obtain ⟨x, ex⟩ : ∃ x, x = getW R (t / 4) := ⟨_, rfl⟩
                      have e1 : (outP R t).set t (wb (x >>> (24 - 8 * (t % 4)))) = outP R (t + 1) := by rw [ex]; rfl
                      rw [← ex] at c0
                      have E1 := Lib.hid e1; clear e1 ex
                      obtain ⟨sh, hsh⟩ : ∃ sh : Nat, sh = 24 - 8 * (t % 4) := ⟨_, rfl⟩
                      have s1 : (24 : Int) - 8 * ((t : Int) % 4) = (sh : Int) := by omega
                      have s2 : (sh : Int) ≤ 32 := by omega
                      rw [← hsh] at E1
                      have HSH := Lib.hid hsh; clear hsh
                      have n2 : ((t : Int) / 4).toNat = t / 4 := by omega
                      have b3 : (t : Int) / 4 < 8 := by omega
                      have b4 : (0 : Int) ≤ (t : Int) / 4 := by omega
                      have b5 : t / 4 < 8 := by omega
                      have b6 : t < 32 := by omega
                      go_wp2
                      go_simp
                      go_wp2
                      go_roundw
                      case rel =>
                        refine ⟨t + 1, by omega, by go_num, Lib.hid (HW.out.far _ HBG.out), Lib.hid ?_, Lib.hid (HZ.out.far _ (by show w.heap.size ≠ G; omega)), g6.setCell (by show w.heap.size ≤ G; omega) _⟩
                        rw [← E1.out]
                        exact HO.out.set t _
                      case measure => simp [intOf]; omega
                    · obtain rfl : t = 32 := by omega
                      have lo := outP_len R 32
                      go_wp2_with (first | (with_reducible refine wpList_loadA _ rfl (.tmp 9) rfl G (outP R 32) rfl _ HO.out lo ?_) | (with_reducible refine wpList_storeA _ rfl (.tmp 2) (.tmp 75) rfl w.heap.size _ rfl rfl _ (outP R 32) (List.replicate 32 0) rfl HZ.out lo List.length_replicate ?_; intro w2 hw2 hg2))
                      have hbw := g6.grown hg2 g6.size (fun k e => by injection e with e; omega)
                      have eF : sumL bss.flatten = outP R 32 := by rw [ER.out, EP.out, EL.out]; rfl
                      rw [eF]
                      exact bodyPost_ret (v := .agg ((outP R 32).map bv).toArray) (results_a32 rfl _ _ w.heap.size _ (outP R 32) rfl hw2 lo) rfl ⟨rfl, hbw⟩
                · have h64 : 64 ≤ l.length := by have := HM.out; omega
                  obtain ⟨ba, oa, rfl, _, _⟩ := HR.out.addr (by rw [List.length_map]; exact hpos)
                  have hR := HR.out
                  obtain ⟨h0, h1, h2, h3, h4, h5, h6, h7, rfl⟩ : ∃ a b c d e f g i, h = [a, b, c, d, e, f, g, i] := by
                    match h, HL.out with
                    | [a, b, c, d, e, f, g, i], _ => exact ⟨_, _, _, _, _, _, _, _, rfl⟩
                  have c0 := HW.out.cell 0 (by simp)
                  have c1 := HW.out.cell 1 (by simp)
                  have c2 := HW.out.cell 2 (by simp)
                  have c3 := HW.out.cell 3 (by simp)
                  have c4 := HW.out.cell 4 (by simp)
                  have c5 := HW.out.cell 5 (by simp)
                  have c6 := HW.out.cell 6 (by simp)
                  have c7 := HW.out.cell 7 (by simp)
                  simp only [getW, List.getD_cons_zero, List.getD_cons_succ] at c0 c1 c2 c3 c4 c5 c6 c7
                  have tc := turn_c [h0, h1, h2, h3, h4, h5, h6, h7] _ cq (l.take 64) (wr.drewN 1) rfl (by rw [List.length_take]; omega) (by have := hR.take 64; rw [← List.map_take] at this; exact this.drewN 1) (Tab.below HT.out (below_drewN g6 1) HT.out.1)
                  simp only [List.map_cons, List.map_nil] at tc
                  have TC := Lib.hid tc; clear tc hR
                  have eb : blocksN [h0, h1, h2, h3, h4, h5, h6, h7] l (l.length / 64) = blocksN (blk [h0, h1, h2, h3, h4, h5, h6, h7] (l.take 64)) (l.drop 64) ((l.drop 64).length / 64) := by
                    rw [show l.length / 64 = (l.drop 64).length / 64 + 1 by rw [List.length_drop]; omega]; rfl
                  have HB := Lib.hid eb; clear eb
                  have hpos' : (0 : Int) < (l.length : Int) := by omega
                  have h64' : (64 : Int) ≤ (l.length : Int) := by omega
                  have hcq : 64 ≤ cq := by omega
                  have hcq' : (64 : Int) ≤ (cq : Int) := by omega
                  go_wp2_with (fail)
                  refine wp_region_still_tail 3 (by kernel_rfl) (by kernel_rfl) ?_
                  simp only [List.take_succ_cons, List.take_zero, List.drop_succ_cons, List.drop_zero]
                  change wpStill _ _ (wr.drewN 1) _ _ _
                  repeat still_step
                  refine wpStill_nil ?_
                  change wpList _ _ _ _ _ (wr.drewN 1)
                  go_wp2_with (fail)
                  refine TC.out.mono ?_
                  rintro e w3 ⟨rfl, hb3⟩
                  have hz3 : (wr.drewN 1).heap.size ≤ w3.heap.size := hb3.size
                  have k1 := HW.out.drewN 1 |>.below hb3
                  have k2 := HZ.out.drewN 1 |>.below hb3
                  have k3 := HR.out.drewN 1 |>.below hb3
                  have k4 := (below_drewN g6 1).trans (hb3.mono g6.size)
                  clear c0 c1 c2 c3 c4 c5 c6 c7
                  have k11 := blk_len [h0, h1, h2, h3, h4, h5, h6, h7] (l.take 64) rfl
                  go_wp2_with (first | (with_reducible refine wpList_storeW _ rfl (.tmp 8) (.tmp 57) rfl B4 _ rfl rfl (blk [h0, h1, h2, h3, h4, h5, h6, h7] (l.take 64)) _ rfl k1 k11 HL.out ?_; intro w4 k5 k6; have K5 := Lib.hid k5; clear k5; have K6 := Lib.hid k6; clear k6))
                  have k7 := k2.grown K6.out (fun e => by injection e with e; omega)
                  have k8 := k3.grown K6.out (fun b off e e2 => by injection e2 with e2; have := r5 _ e; simp at this; omega)
                  have k9 := k4.grown K6.out k4.size (fun q e => by injection e with e; omega)
                  have k10 := k8.cut (k := 64) (c := cq) (List.length_map _) h64 r1
                  rw [← List.map_drop] at k10
                  have K7 := Lib.hid k7
                  have K10 := Lib.hid k10
                  clear k1 k2 k3 k4 k7 k8 k10 K6 hz3
                  go_wp2
                  refine ⟨⟨_, cq - 64, l.drop 64, _, ?_, by rw [List.length_drop]; omega, by omega, by rw [List.length_drop]; omega, Lib.hid (by rw [List.length_drop]; have := HM.out; omega), K10, ?_, Lib.hid (HB.out.symm.trans HH.out), Lib.hid k11, K5, K7, k9⟩, ?_⟩
                  · rw [List.length_drop]
                    by_cases e64 : cq = 64
                    · simp [e64]
                    · simp [e64, Addr.add]
                  · intro a e
                    split at e
                    · exact r5 a e
                    · simp only [Option.map_some, Option.some.injEq] at e
                      rw [← e]
                      have := r5 _ rfl
                      unfold Addr.add
                      simpa using this
                  · simp only [sliceLen]; omega
            · obtain ⟨t, rfl⟩ := Int.eq_ofNat_of_zero_le hpos
              have ht7 : t ≤ 7 := by omega
              have e1 : be8 (8 * L.length) (j + 1) = be8 (8 * L.length) j ++ [lo8 (8 * L.length / 256 ^ t)] := by
                rw [be8_succ, show 7 - j = t by have := HY.out; omega]
              have e2 : (be8 (8 * L.length) j).length ≤ 8 := by rw [be8_len]; have := HY.out; omega
              obtain ⟨D, eD⟩ : ∃ D, D = M ++ be8 (8 * L.length) j := ⟨_, rfl⟩
              have hD : D.length ≤ 1000000300 := by rw [eD, List.length_append]; omega
              rw [← eD] at hown
              have E1 := Lib.hid e1; clear e1
              have ED := Lib.hid eD; clear eD
              have HZ := Lib.hid hBz; clear hBz
              clear e2
              have w1 : IntKind.i64.wrap ((8 : Int) * (t : Int)) = (8 : Int) * (t : Int) := IntWalk.i64_in _ ⟨by omega, by omega⟩
              have w2 : IntKind.u64.wrap ((8 : Int) * (t : Int)) = (8 : Int) * (t : Int) := IntWalk.u64_in _ ⟨by omega, by omega⟩
              go_wp2_with (first | (at_builtin; refine wpList_appB1 _ rfl (.tmp 39) (.tmp 46) rfl (w.heap.size + 1) _ D rfl hown _ rfl (lo8 (8 * L.length / 256 ^ t)) (be8_val _ _) (by omega) (by omega) ?_))
              intro v2 w2 g1 g2 _
              have g4 := HZ.out.alloc (.cells #[Value.int .u8 ((L.length : Int) * 8 / 2 ^ (8 * t) % 256)] 5) |>.grown g2 (fun e => by have := (Own.lt hown _ e).1; omega)
              have g5 := (hb.alloc hb.size (.cells #[Value.int .u8 ((L.length : Int) * 8 / 2 ^ (8 * t) % 256)] 5)).grown g2 (by simp; omega) (fun q e => by have := (Own.lt hown _ e).1; omega)
              have g6 := g2.size
              simp only [World.size_alloc] at g6
              rw [ED.out, List.append_assoc, ← E1.out] at g1
              have HG := Lib.hid g4; clear g4
              clear HZ
              go_wp2
              go_roundw
              case rel => exact ⟨j + 1, (t : Int) - 1, rfl, Lib.hid (by have := HY.out; omega), by omega, by omega, g1, HG.out, g5, by omega⟩
              case measure => simp [intOf]

end Go.Proofs.YtecmkdoodlpanaaDoor
