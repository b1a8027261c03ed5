/- What mac.coder answers: a function that holds the two turned keys. Conditions: the table stands. -/
import Derived.Test.YtecmkdoodlpanaaDoorMp
namespace Go.Proofs.YtecmkdoodlpanaaDoor
open Go Go.RowKit
attribute [local go_sem] wv_store bv_store bv_cells no_cells bv_cellsOf bv_xor54 bv_xor92

def zb64 : Array Value := ((List.replicate 64 (0 : UInt8)).map bv).toArray
theorem mk64 (w : World) : (Instr.makeSlice 22 (.int .i64 64) (.int .i64 64)).run Tryd.prog w = .ok (.slice (some ⟨w.heap.size, 0, none⟩) 64 64) (w.alloc (.cells zb64 5)) := by kernel_rfl
section
variable (w : World) (a b c d : Obj)
theorem four_0 : ((((w.alloc a).alloc b).alloc c).alloc d).heap[w.heap.size]? = some a := by
  rw [Below.heap_alloc _ d _ (by simp; try omega), Below.heap_alloc _ c _ (by simp; try omega), Below.heap_alloc _ b _ (by simp)]
  exact heap_alloc_new w a
theorem four_1 : ((((w.alloc a).alloc b).alloc c).alloc d).heap[w.heap.size + 1]? = some b := by
  rw [Below.heap_alloc _ d _ (by simp; try omega), Below.heap_alloc _ c _ (by simp)]
  have := heap_alloc_new (w.alloc a) b
  simpa using this
theorem four_2 : ((((w.alloc a).alloc b).alloc c).alloc d).heap[w.heap.size + 1 + 1]? = some c := by
  rw [Below.heap_alloc _ d _ (by simp)]
  have := heap_alloc_new ((w.alloc a).alloc b) c
  simpa using this
theorem four_3 : ((((w.alloc a).alloc b).alloc c).alloc d).heap[w.heap.size + 1 + 1 + 1]? = some d := by
  have := heap_alloc_new (((w.alloc a).alloc b).alloc c) d
  simpa using this
theorem four_below : Below w.heap.size w ((((w.alloc a).alloc b).alloc c).alloc d) :=
  ((((Below.refl _ _).alloc (Nat.le_refl _) _).alloc (by simp) _).alloc (by simp; omega) _).alloc (by simp; omega) _
end

/-- Two rows of 64 bytes, each behind a variable of its own. -/
structure Two (w : World) (B p q g h : Nat) (xs ys : List UInt8) : Prop where
  hp : w.heap[p]? = some (.cells #[.slice (some ⟨g, 0, none⟩) 64 64] 22 (0, 0))
  hq : w.heap[q]? = some (.cells #[.slice (some ⟨h, 0, none⟩) 64 64] 22 (0, 0))
  hg : Bs w g 5 xs
  hh : Bs w h 5 ys
  ne : p ≠ g ∧ p ≠ h ∧ q ≠ g ∧ q ≠ h ∧ g ≠ h
  lo : B ≤ p ∧ B ≤ q ∧ B ≤ g ∧ B ≤ h
section
variable {w w' : World} {B p q g h : Nat} {xs ys xs' : List UInt8}
theorem Two.setG (t : Two w B p q g h xs ys) (hg : w.grownBy w' (some g)) (hb : Bs w' g 5 xs') : Two w' B p q g h xs' ys :=
  have ⟨n1, n2, n3, n4, n5⟩ := t.ne
  ⟨(hg.block _ (heap_lt t.hp) (fun e => by injection e with e; omega)).trans t.hp, (hg.block _ (heap_lt t.hq) (fun e => by injection e with e; omega)).trans t.hq, hb, t.hh.grown hg (fun e => by injection e with e; omega), t.ne, t.lo⟩
theorem Two.setH (t : Two w B p q g h xs ys) (hg : w.grownBy w' (some h)) (hb : Bs w' h 5 xs') : Two w' B p q g h xs xs' :=
  have ⟨n1, n2, n3, n4, n5⟩ := t.ne
  ⟨(hg.block _ (heap_lt t.hp) (fun e => by injection e with e; omega)).trans t.hp, (hg.block _ (heap_lt t.hq) (fun e => by injection e with e; omega)).trans t.hq, t.hg.grown hg (fun e => by injection e with e; omega), hb, t.ne, t.lo⟩
theorem Two.below (t : Two w B p q g h xs ys) (hb : Below w.heap.size w w') : Two w' B p q g h xs ys :=
  ⟨(hb.block _ (heap_lt t.hp)).trans t.hp, (hb.block _ (heap_lt t.hq)).trans t.hq, t.hg.below hb, t.hh.below hb, t.ne, t.lo⟩
theorem Two.drewN (t : Two w B p q g h xs ys) (n : Nat) : Two (w.drewN n) B p q g h xs ys := ⟨t.hp, t.hq, t.hg, t.hh, t.ne, t.lo⟩
theorem Two.cp (t : Two w B p q g h xs ys) : w.cell? ⟨p, 0, none⟩ = some (.slice (some ⟨g, 0, none⟩) 64 64) := by rw [heap_cell t.hp]; rfl
theorem Two.cq (t : Two w B p q g h xs ys) : w.cell? ⟨q, 0, none⟩ = some (.slice (some ⟨h, 0, none⟩) 64 64) := by rw [heap_cell t.hq]; rfl
end

theorem Bs.rd {w : World} {g : Nat} {t : TypeId} {l : List UInt8} (h : Bs w g t l) : Rd w (some ⟨g, 0, none⟩) (l.map bv) := by
  refine .inr ⟨g, 0, rfl, h.lt, fun k hk => ?_⟩
  rw [Nat.zero_add, heap_cell h]
  simp at hk
  simp [hk]
theorem zeros64_len : (List.replicate 64 (0 : UInt8)).length = 64 := by simp

set_option maxRecDepth 100000 in
set_option maxHeartbeats 4000000 in
theorem coder_c (A : Option Addr) (n c : Nat) (bs : List UInt8) (w : World) (hn : bs.length = n) (hr : Rd w A (bs.map bv)) (hc : n ≤ c) (hm : c ≤ maxLen) (hl : n ≤ 1000000000) (hT : Tab w) :
    Calls Tryd.prog 34 #[.slice A n c] w fun e w' => ∃ p q g h : Nat, e = .returned (.func (Fn.func 39) #[] #[.pointer (some ⟨p, 0, none⟩), .pointer (some ⟨q, 0, none⟩)]) ∧ Two w' w.heap.size p q g h (xorL 54 (padK (keyL bs))) (xorL 92 (padK (keyL bs))) ∧ Below w.heap.size w w' := by
  have HN := Lib.hid hn; clear hn
  have HT := Lib.hid hT; clear hT
  have hmk := mk64
  go_enter Tryd.func34, Tryd.ntmps34
  go_upto_if 9 with (fail)
  go_cut [0] (fun s0 wx => ∃ (A : Option Addr) (n c : Nat) (k : List UInt8), s0 = .slice A n c ∧ Hid (Rd wx A (k.map bv)) ∧ Hid (k.length = n) ∧ n ≤ 64 ∧ n ≤ c ∧ c ≤ maxLen ∧ Hid (k = keyL bs) ∧ Below w.heap.size w wx)
  case first =>
    by_cases hbig : 64 < n
    · have hb : decide ((64 : Int) < (n : Int)) = true := by simp; omega
      have hf : bs.length ≤ 1000000000 := by rw [HN.out]; exact hl
      have ek : keyL bs = sumL bs := by unfold keyL; rw [if_pos (by rw [HN.out]; exact hbig)]
      have EK := Lib.hid ek; clear ek
      have HF := Lib.hid hf; clear hf
      go_wp2_with (fail)
      have r1 := RdS_lit w [(A, n, c)] [bs] 22 rfl (by
        simp only [List.zip_cons_cons, List.zip_nil_right, List.forall_mem_cons]
        exact ⟨⟨HN.out, hr, hc, hm⟩, fun x hx => by cases hx⟩)
      simp only [List.map_cons, List.map_nil] at r1
      have k1 := (Below.refl w.heap.size w).alloc (Nat.le_refl _) (.cells #[.slice A n c] 22)
      refine (Sum_v _ 1 1 [bs] bs _ rfl r1 (by omega) (by simp) HF.out (Tab.below HT.out k1 HT.out.1)).mono ?_
      rintro e w3 ⟨rfl, hb3⟩
      have k2 := k1.trans (hb3.mono k1.size)
      go_wp2_with (first | ((with_reducible refine wpList_putSum w3 rfl (.tmp 3) (.tmp 12) rfl bs rfl rfl ?_); intro w4 hB hb4; have HB := Lib.hid hB; clear hB))
      go_meet
      have hbb := k2.trans (hb4.mono k2.size)
      exact ⟨some ⟨w3.heap.size, 0, none⟩, 32, 32, sumL bs, rfl, Bs.rd HB.out, sumL_len bs, by omega, Nat.le_refl _, by decide, EK.out.symm, hbb⟩
    · have hb : decide ((64 : Int) < (n : Int)) = false := by simp; omega
      have ek : keyL bs = bs := by unfold keyL; rw [if_neg (by rw [HN.out]; exact hbig)]
      have EK := Lib.hid ek; clear ek
      go_wp2_with (fail)
      go_meet
      exact ⟨A, n, c, bs, rfl, hr, HN, by omega, hc, hm, EK.out.symm, Below.refl _ _⟩
  case rest =>
    obtain ⟨A1, n1, c1, k, rfl, HR, HK, hn1, hnc, hcm, HE, kb⟩ := hcut
    have kbz := kb.size
    go_upto_region 4 with (fail)
    go_cut [4, 5, 14, 15] (fun s4 s5 s14 s15 wx => ∃ p q g h : Nat, s4 = .pointer (some ⟨p, 0, none⟩) ∧ s5 = .pointer (some ⟨q, 0, none⟩) ∧ s14 = .slice (some ⟨g, 0, none⟩) 64 64 ∧ s15 = .slice (some ⟨h, 0, none⟩) 64 64 ∧ Hid (Two wx w.heap.size p q g h (List.replicate 64 0) (List.replicate 64 0)) ∧ Hid (Rd wx A1 (k.map bv)) ∧ Hid (k = [] ∨ ∃ b off, A1 = some ⟨b, off, none⟩ ∧ b < p ∧ b < q ∧ b < g ∧ b < h) ∧ Below w.heap.size w wx)
    case first =>
      go_region
      all_goals
        go_wp2_with (fail)
        go_meet
        refine ⟨_, _, _, _, rfl, rfl, rfl, rfl, Lib.hid ⟨?_, ?_, ?_, ?_, ⟨by omega, by omega, by omega, by omega, by omega⟩, ⟨by omega, by omega, by omega, by omega⟩⟩, ?_, ?_, ?_⟩
        · first | exact four_0 wc _ _ _ _ | exact four_1 wc _ _ _ _ | exact four_2 wc _ _ _ _ | exact four_3 wc _ _ _ _
        · first | exact four_0 wc _ _ _ _ | exact four_1 wc _ _ _ _ | exact four_2 wc _ _ _ _ | exact four_3 wc _ _ _ _
        · first | exact four_0 wc _ _ _ _ | exact four_1 wc _ _ _ _ | exact four_2 wc _ _ _ _ | exact four_3 wc _ _ _ _
        · first | exact four_0 wc _ _ _ _ | exact four_1 wc _ _ _ _ | exact four_2 wc _ _ _ _ | exact four_3 wc _ _ _ _
        · exact (HR.out.below (four_below wc _ _ _ _)).drewN 1
        · rcases HR.out with hR | ⟨b, off, rfl, hR, _⟩
          · exact Lib.hid (.inl (List.map_eq_nil_iff.1 hR))
          · exact Lib.hid (.inr ⟨b, off, rfl, by omega, by omega, by omega, by omega⟩)
        · exact below_drewN (kb.trans ((four_below wc _ _ _ _).mono kbz)) 1
    case rest =>
      obtain ⟨p, q, g, h, rfl, rfl, rfl, rfl, H2, HR2, HD, k2⟩ := hcut
      clear HR kb kbz hmk
      have c4 := H2.out.cp
      have c5 := H2.out.cq
      obtain ⟨K, eK⟩ : ∃ K, K = padK k := ⟨_, rfl⟩
      have hK : K.length = 64 := by rw [eK]; exact padK_len (by rw [HK.out]; exact hn1)
      have ek2 : k.take 64 ++ (List.replicate 64 (0 : UInt8)).drop n1 = K := by
        rw [List.take_of_length_le (by rw [HK.out]; exact hn1), List.drop_replicate, eK, padK, HK.out]
      have EK := Lib.hid eK; clear eK
      have EK2 := Lib.hid ek2; clear ek2
      have HKL := Lib.hid hK; clear hK
      have hne := H2.out.ne
      have hlo := H2.out.lo
      have HNE := Lib.hid hne; clear hne
      have HLO := Lib.hid hlo; clear hlo
      have fpq : p ≠ g := HNE.out.1
      go_wp2_with (first
        | ((with_reducible refine wpList_copyB _ rfl (.tmp 16) (.tmp 17) rfl w.heap.size g 64 64 _ rfl (OwnB.ofBs H2.out.hg zeros64_len HLO.out.2.2.1 (by decide)) A1 n1 c1 k rfl HK.out HR2.out ?_); intro wa ha1 ha2 ha3; rw [EK2.out] at ha1; have HA := Lib.hid (H2.out.setG ha3 (OwnB.toBs ha1)); have HRa := Lib.hid (HD.out.elim (fun e => e ▸ Rd.nil_ : k = [] → Rd wa A1 (k.map bv)) (fun ⟨b, off, e, b1, b2, b3, b4⟩ => HR2.out.grown ha3 (fun b' off' e' e2 => by rw [e] at e'; injection e' with e'; injection e' with e'; injection e2 with e2; omega))); have c5a := HA.out.cq; have k3 := k2.trans (ha2.mono (Nat.le_refl _)); clear ha1 ha2 ha3)
        | ((with_reducible refine wpList_copyB _ rfl (.tmp 19) (.tmp 20) rfl w.heap.size h 64 64 _ rfl (OwnB.ofBs HA.out.hh zeros64_len HLO.out.2.2.2 (by decide)) A1 n1 c1 k rfl HK.out HRa.out ?_); intro wb ha1 ha2 ha3; rw [EK2.out] at ha1; have HB := Lib.hid (HA.out.setH ha3 (OwnB.toBs ha1)); have k4 := k3.trans (ha2.mono (Nat.le_refl _)); clear ha1 ha2 ha3))
      clear c4 c5 c5a k2 k3 H2 HR2 HA HRa HD
      go_loopw [22] (fun i wr => ∃ t : Nat, t ≤ 64 ∧ i = .int .i64 t ∧ Hid (Two wr w.heap.size p q g h (xorK 54 K t) (xorK 92 K t)) ∧ Below w.heap.size w wr) (fun i _ => 64 - (intOf i).toNat)
      case atStart => exact ⟨0, by omega, rfl, by rw [xorK_zero, xorK_zero]; exact HB, k4⟩
      case round =>
        clear HB k4
        obtain ⟨t, ht, rfl, HW, k4⟩ := hrel
        rcases Int.lt_or_le (t : Int) 64 with hlt | hge
        · have t64 : t < 64 := by omega
          have c4 := HW.out.cp
          have c5 := HW.out.cq
          have cg := HW.out.hg.cell t (by rw [xorK_len, HKL.out]; exact t64)
          have ch := HW.out.hh.cell t (by rw [xorK_len, HKL.out]; exact t64)
          rw [xorK_get 54 K t (by rw [HKL.out]; exact t64)] at cg
          rw [xorK_get 92 K t (by rw [HKL.out]; exact t64)] at ch
          have e1 := xorK_set 54 K t (by rw [HKL.out]; exact t64)
          have e2 := xorK_set 92 K t (by rw [HKL.out]; exact t64)
          obtain ⟨x, ex⟩ : ∃ x, x = getB K t := ⟨_, rfl⟩
          rw [← ex] at cg ch e1 e2
          have EX := Lib.hid ex; clear ex
          have E1 := Lib.hid e1; clear e1
          have E2 := Lib.hid e2; clear e2
          have hi1 : t < (xorK 54 K t).length := by rw [xorK_len, HKL.out]; exact t64
          have hi2 : t < (xorK 92 K t).length := by rw [xorK_len, HKL.out]; exact t64
          have HI1 := Lib.hid hi1; clear hi1
          have HI2 := Lib.hid hi2; clear hi2
          have n1 := HNE.out.1
          have n2 := HNE.out.2.2.1
          have n3 := HNE.out.2.2.2.2
          go_wp2_with (first
            | ((with_reducible refine wpList_putB _ rfl (.tmp 30) (.tmp 29) rfl g t (x ^^^ 54) rfl rfl _ _ HW.out.hg HI1.out ?_); intro wa ha1 ha2; rw [E1.out] at ha1; have HA := Lib.hid (HW.out.setG ha2 ha1); have c5a := HA.out.cq; have cha : wa.cell? ⟨h, t, none⟩ = some (bv x) := far_cell ha2 ch n3; have k5 := k4.grown ha2 k4.size (fun b e => by injection e with e; subst e; exact HLO.out.2.2.1); clear ha1 ha2)
            | ((with_reducible refine wpList_putB _ rfl (.tmp 36) (.tmp 35) rfl h t (x ^^^ 92) rfl rfl _ _ HA.out.hh HI2.out ?_); intro wb ha1 ha2; rw [E2.out] at ha1; have HB := Lib.hid (HA.out.setH ha2 ha1); have k6 := k5.grown ha2 k5.size (fun b e => by injection e with e; subst e; exact HLO.out.2.2.2); clear ha1 ha2))
          go_roundw
          case rel => exact ⟨t + 1, by omega, by go_num, HB, k6⟩
          case measure => simp [intOf]; omega
        · obtain rfl : t = 64 := by omega
          have hA := HW.out
          rw [show xorK 54 K 64 = xorL 54 K by rw [← HKL.out]; exact xorK_all _ _, show xorK 92 K 64 = xorL 92 K by rw [← HKL.out]; exact xorK_all _ _, EK.out, HE.out] at hA
          have HA := Lib.hid hA; clear hA
          go_wp2
          go_ret
          exact ⟨p, q, g, h, rfl, HA.out, k4⟩
end Go.Proofs.YtecmkdoodlpanaaDoor
