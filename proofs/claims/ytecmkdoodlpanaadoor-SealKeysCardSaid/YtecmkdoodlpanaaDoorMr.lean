/- What the reference's Code answers: the same as mac.Code. Conditions: lengths that fit. -/
import Derived.Test.YtecmkdoodlpanaaDoorMc2
namespace Go.Proofs.YtecmkdoodlpanaaDoor
open Go Go.RowKit
attribute [local go_sem] bv_store bv_cells no_cells bv_cellsOf

theorem bv_match (y : UInt8) : (match bv y with | Value.agg cs => cs | v => #[v]) = #[bv y] := rfl
attribute [local go_sem] bv_match
theorem info_a64b : (Tryd.prog.info? 70).map (·.size) = some 64 := by kernel_rfl
theorem wpList_storeK (w : World) {ops : Array Oper} {rest : List Oper} {o : Oper} {a : Act} {Q : Exit → Act → World → Prop} (hgd : o.guard = none) (x y : Operand) (ho : o.op = .store 70 x y)
    (g : Nat) (C : Array Value) (hx : a.eval x = .pointer (some ⟨g, 0, none⟩)) (hy : a.eval y = .agg C) (t : TypeId) (l old : List UInt8) (hC : C = (l.map bv).toArray) (hW : Bs w g t old) (h8 : l.length = 64) (o8 : old.length = 64)
    (h : ∀ w', Bs w' g t l → w.grownBy w' (some g) → wpList Tryd.prog ops Q rest (a.put o.dst undef) w') : wpList Tryd.prog ops Q (o :: rest) a w := by
  subst hC
  refine wpList_store_row hgd 70 x y ho g _ hx hy t _ hW (by rw [info_a64b]; simp [h8]) (by simp [h8, o8]) ?_ (h _ (setRow_heap w g _ _ _ _ hW) ⟨rfl, rfl, rfl, by simp, fun k _ hk => setRow_other w g k _ (fun e => hk (by rw [e]))⟩)
  simp only [Array.all_eq_true_iff_forall_mem]
  intro u hu
  simp only [List.mem_toArray, List.mem_map] at hu
  obtain ⟨_, _, rfl⟩ := hu
  rfl
theorem zeroA64 (w : World) : Bs (w.alloc (.cells #[.int .u8 0, .int .u8 0, .int .u8 0, .int .u8 0, .int .u8 0, .int .u8 0, .int .u8 0, .int .u8 0, .int .u8 0, .int .u8 0, .int .u8 0, .int .u8 0, .int .u8 0, .int .u8 0, .int .u8 0, .int .u8 0, .int .u8 0, .int .u8 0, .int .u8 0, .int .u8 0, .int .u8 0, .int .u8 0, .int .u8 0, .int .u8 0, .int .u8 0, .int .u8 0, .int .u8 0, .int .u8 0, .int .u8 0, .int .u8 0, .int .u8 0, .int .u8 0, .int .u8 0, .int .u8 0, .int .u8 0, .int .u8 0, .int .u8 0, .int .u8 0, .int .u8 0, .int .u8 0, .int .u8 0, .int .u8 0, .int .u8 0, .int .u8 0, .int .u8 0, .int .u8 0, .int .u8 0, .int .u8 0, .int .u8 0, .int .u8 0, .int .u8 0, .int .u8 0, .int .u8 0, .int .u8 0, .int .u8 0, .int .u8 0, .int .u8 0, .int .u8 0, .int .u8 0, .int .u8 0, .int .u8 0, .int .u8 0, .int .u8 0, .int .u8 0] 70)) w.heap.size 70 (List.replicate 64 0) := heap_alloc_new w _

theorem Own.grown {w w' : World} {B : Nat} {e : TypeId} {u : Value} {us : List Value} (h : Own w B e u us) {row : Option Nat} (hg : w.grownBy w' row) (hne : ∀ q, u.ownBlock = some q → row ≠ some q) : Own w' B e u us :=
  World.ownsRow.kept h hg (by
    rcases h.2 with ⟨rfl, _⟩ | ⟨g, cap, cur, rfl, _, hg, _⟩
    · left; rfl
    · right
      intro e2
      exact hne g rfl e2.symm)
/-- A byte appended to one of two rows: what is known of the rest. -/
theorem two_step {w wr w1 : World} {v u v1 : Value} {xs ys K Z : List UInt8} {o : Obj} (HV : OwnB wr (w.heap.size + 2) v xs) (HU : OwnB wr (w.heap.size + 2) u ys) (HD : ∀ q, v.ownBlock = some q → u.ownBlock ≠ some q)
    (H2 : Bs wr (w.heap.size + 1) 70 K) (HZ : Bs wr w.heap.size 46 Z) (k2 : Below w.heap.size w wr) (s2 : w.heap.size + 2 ≤ wr.heap.size)
    (g2 : (wr.alloc o).grownBy w1 v.ownBlock) (g3 : v1.ownBlock = v.ownBlock ∨ v1.ownBlock = some (wr.heap.size + 1)) :
    OwnB w1 (w.heap.size + 2) u ys ∧ (∀ q, v1.ownBlock = some q → u.ownBlock ≠ some q) ∧ Bs w1 (w.heap.size + 1) 70 K ∧ Bs w1 w.heap.size 46 Z ∧ Below w.heap.size w w1 ∧ w.heap.size + 2 ≤ w1.heap.size := by
  have hx : ∀ q, q < w.heap.size + 2 → v.ownBlock ≠ some q := fun q hq e => by
    have := (Own.lt HV _ e).1
    omega
  have hs := g2.size
  simp only [World.size_alloc] at hs
  refine ⟨Own.grown (Own.alloc HU o) g2 (fun q e e2 => HD q e2 e), fun q e e2 => ?_, (H2.alloc o).grown g2 (hx _ (by omega)), (HZ.alloc o).grown g2 (hx _ (by omega)), (k2.alloc (by omega) o).grown g2 (by simp; omega) (fun q e => ?_), by omega⟩
  · have e3 := (Own.lt HU _ e2).2
    rcases g3 with g3 | g3
    · exact HD q (by rw [← g3]; exact e) e2
    · rw [g3] at e
      injection e with e
      omega
  · have := (Own.lt HV _ e).1
    omega
/-- The same where what is appended lies in memory already; the key's array is no longer asked. -/
theorem two_app {w wr w1 : World} {v u v1 : Value} {xs ys Z : List UInt8} (HV : OwnB wr (w.heap.size + 2) v xs) (HU : OwnB wr (w.heap.size + 2) u ys) (HD : ∀ q, v.ownBlock = some q → u.ownBlock ≠ some q)
    (HZ : Bs wr w.heap.size 46 Z) (k2 : Below w.heap.size w wr) (s2 : w.heap.size + 2 ≤ wr.heap.size)
    (g2 : wr.grownBy w1 v.ownBlock) (g3 : v1.ownBlock = v.ownBlock ∨ v1.ownBlock = some wr.heap.size) :
    OwnB w1 (w.heap.size + 2) u ys ∧ (∀ q, v1.ownBlock = some q → u.ownBlock ≠ some q) ∧ Bs w1 w.heap.size 46 Z ∧ Below w.heap.size w w1 ∧ w.heap.size + 2 ≤ w1.heap.size := by
  have hx : ∀ q, q < w.heap.size + 2 → v.ownBlock ≠ some q := fun q hq e => by
    have := (Own.lt HV _ e).1
    omega
  have hs := g2.size
  refine ⟨Own.grown HU g2 (fun q e e2 => HD q e2 e), fun q e e2 => ?_, HZ.grown g2 (hx _ (by omega)), k2.grown g2 (by omega) (fun q e => ?_), by omega⟩
  · have e3 := (Own.lt HU _ e2).2
    rcases g3 with g3 | g3
    · exact HD q (by rw [← g3]; exact e) e2
    · rw [g3] at e
      injection e with e
      omega
  · have := (Own.lt HV _ e).1
    omega
/-- The first k bytes laid in, the rest zeros. -/
def layK (l : List UInt8) (k : Nat) : List UInt8 := l.take k ++ List.replicate (64 - k) 0
theorem layK_len (l : List UInt8) (k : Nat) (h : k ≤ l.length) (h2 : k ≤ 64) : (layK l k).length = 64 := by simp [layK]; omega
theorem layK_zero (l : List UInt8) : layK l 0 = List.replicate 64 0 := by simp [layK]
theorem layK_all (l : List UInt8) : layK l l.length = padK l := by simp [layK, padK]
theorem layK_set (l : List UInt8) (k : Nat) (h : k < l.length) (h2 : k < 64) : (layK l k).set k (getB l k) = layK l (k + 1) := by
  unfold layK
  have hl : (l.take k).length = k := by rw [List.length_take]; omega
  rw [List.set_append_right _ _ (by omega), hl, Nat.sub_self, show 64 - k = (64 - (k + 1)) + 1 by omega, List.replicate_succ, List.set_cons_zero, List.take_succ_eq_append_getElem h, List.append_assoc]
  simp [getB, List.getD, h]

set_option maxRecDepth 100000 in
set_option maxHeartbeats 4000000 in
theorem refCode_c (Ak : Option Addr) (nk ck : Nat) (key : List UInt8) (A : Option Addr) (n c : Nat) (bss : List (List UInt8)) (b : List UInt8) (w : World) (hnk : key.length = nk) (hrk : Rd w Ak (key.map bv)) (hck : nk ≤ ck) (hmk : ck ≤ maxLen) (hlk : nk ≤ 1000000000)
    (hn : bss.length = n) (hr : RdS w A bss) (hl : n ≤ 5864062014634) (hb : bss.flatten = b) (hf : b.length ≤ 900000000) :
    Calls Tryd.prog 35 #[.slice Ak nk ck, .slice A n c] w fun e w' => e = .returned (sumV (codeB key b)) ∧ Below w.heap.size w w' := by
  have HN := Lib.hid hn; clear hn
  have HNK := Lib.hid hnk; clear hnk
  have HBB := Lib.hid hb; clear hb
  have z32 : (List.replicate 32 (0 : UInt8)).length = 32 := rfl
  have z64 : (List.replicate 64 (0 : UInt8)).length = 64 := rfl
  go_enter Tryd.func35, Tryd.ntmps35
  go_upto_if 18 with (first
    | (refine wpList_buildTo rfl 70 _ rfl (some 15) rfl ((List.replicate 64 (0 : UInt8)).map bv).toArray (by kernel_rfl) ?_)
    | (refine wpList_storeK _ rfl (.tmp 5) (.tmp 15) rfl (w.heap.size + 1) _ rfl rfl _ (List.replicate 64 0) (List.replicate 64 0) rfl (by simpa using zeroA64 (w.alloc (.cells #[.int .u8 0, .int .u8 0, .int .u8 0, .int .u8 0, .int .u8 0, .int .u8 0, .int .u8 0, .int .u8 0, .int .u8 0, .int .u8 0, .int .u8 0, .int .u8 0, .int .u8 0, .int .u8 0, .int .u8 0, .int .u8 0, .int .u8 0, .int .u8 0, .int .u8 0, .int .u8 0, .int .u8 0, .int .u8 0, .int .u8 0, .int .u8 0, .int .u8 0, .int .u8 0, .int .u8 0, .int .u8 0, .int .u8 0, .int .u8 0, .int .u8 0, .int .u8 0] 46))) z64 z64 ?_; intro w1 h1 h2))
  have kz := zeroA32 w
  have k0 : Below w.heap.size w ((w.alloc (.cells #[.int .u8 0, .int .u8 0, .int .u8 0, .int .u8 0, .int .u8 0, .int .u8 0, .int .u8 0, .int .u8 0, .int .u8 0, .int .u8 0, .int .u8 0, .int .u8 0, .int .u8 0, .int .u8 0, .int .u8 0, .int .u8 0, .int .u8 0, .int .u8 0, .int .u8 0, .int .u8 0, .int .u8 0, .int .u8 0, .int .u8 0, .int .u8 0, .int .u8 0, .int .u8 0, .int .u8 0, .int .u8 0, .int .u8 0, .int .u8 0, .int .u8 0, .int .u8 0] 46)).alloc (.cells #[.int .u8 0, .int .u8 0, .int .u8 0, .int .u8 0, .int .u8 0, .int .u8 0, .int .u8 0, .int .u8 0, .int .u8 0, .int .u8 0, .int .u8 0, .int .u8 0, .int .u8 0, .int .u8 0, .int .u8 0, .int .u8 0, .int .u8 0, .int .u8 0, .int .u8 0, .int .u8 0, .int .u8 0, .int .u8 0, .int .u8 0, .int .u8 0, .int .u8 0, .int .u8 0, .int .u8 0, .int .u8 0, .int .u8 0, .int .u8 0, .int .u8 0, .int .u8 0, .int .u8 0, .int .u8 0, .int .u8 0, .int .u8 0, .int .u8 0, .int .u8 0, .int .u8 0, .int .u8 0, .int .u8 0, .int .u8 0, .int .u8 0, .int .u8 0, .int .u8 0, .int .u8 0, .int .u8 0, .int .u8 0, .int .u8 0, .int .u8 0, .int .u8 0, .int .u8 0, .int .u8 0, .int .u8 0, .int .u8 0, .int .u8 0, .int .u8 0, .int .u8 0, .int .u8 0, .int .u8 0, .int .u8 0, .int .u8 0, .int .u8 0, .int .u8 0] 70)) := ((Below.refl _ _).alloc (Nat.le_refl _) _).alloc (by simp) _
  have kz1 := (kz.alloc (.cells #[.int .u8 0, .int .u8 0, .int .u8 0, .int .u8 0, .int .u8 0, .int .u8 0, .int .u8 0, .int .u8 0, .int .u8 0, .int .u8 0, .int .u8 0, .int .u8 0, .int .u8 0, .int .u8 0, .int .u8 0, .int .u8 0, .int .u8 0, .int .u8 0, .int .u8 0, .int .u8 0, .int .u8 0, .int .u8 0, .int .u8 0, .int .u8 0, .int .u8 0, .int .u8 0, .int .u8 0, .int .u8 0, .int .u8 0, .int .u8 0, .int .u8 0, .int .u8 0, .int .u8 0, .int .u8 0, .int .u8 0, .int .u8 0, .int .u8 0, .int .u8 0, .int .u8 0, .int .u8 0, .int .u8 0, .int .u8 0, .int .u8 0, .int .u8 0, .int .u8 0, .int .u8 0, .int .u8 0, .int .u8 0, .int .u8 0, .int .u8 0, .int .u8 0, .int .u8 0, .int .u8 0, .int .u8 0, .int .u8 0, .int .u8 0, .int .u8 0, .int .u8 0, .int .u8 0, .int .u8 0, .int .u8 0, .int .u8 0, .int .u8 0, .int .u8 0] 70)).grown h2 (fun e => by injection e with e; omega)
  have k1 := k0.grown h2 (by simp; omega) (fun k e => by injection e with e; omega)
  have H1 := Lib.hid h1; clear h1
  have HZ := Lib.hid kz1; clear kz1
  clear kz k0 h2
  go_cut [] (fun wx => Hid (Bs wx (w.heap.size + 1) 70 (padK (keyL key))) ∧ Hid (Bs wx w.heap.size 46 (List.replicate 32 0)) ∧ Below w.heap.size w wx)
  case first =>
    by_cases hbig : 64 < nk
    · have hb2 : decide ((64 : Int) < (nk : Int)) = true := by simp; omega
      have ek : keyL key = sumL key := by unfold keyL; rw [if_pos (by rw [HNK.out]; exact hbig)]
      have EK := Lib.hid ek; clear ek
      have hlk2 : key.length ≤ 1000000000 := by rw [HNK.out]; exact hlk
      have HLK := Lib.hid hlk2; clear hlk2
      have s1 := k1.size
      go_wp2_with (fail)
      have a1 := hrk.below k1
      have r1 := RdS_lit w1 [(Ak, nk, ck)] [key] 22 rfl (by
        simp only [List.zip_cons_cons, List.zip_nil_right, List.forall_mem_cons]
        exact ⟨⟨HNK.out, a1, hck, hmk⟩, fun x hx => by cases hx⟩)
      simp only [List.map_cons, List.map_nil] at r1
      have k2 := k1.alloc s1 (.cells #[.slice Ak nk ck] 22)
      refine (refSum_v _ 1 1 [key] key _ rfl r1 (by omega) (by simp) HLK.out).mono ?_
      rintro e w2 ⟨rfl, hb3⟩
      have k3 := k2.trans (hb3.mono k2.size)
      have H2 := Lib.hid ((H1.out.alloc (.cells #[.slice Ak nk ck] 22)).below hb3)
      have HZ2 := Lib.hid ((HZ.out.alloc (.cells #[.slice Ak nk ck] 22)).below hb3)
      clear hb3 r1 a1 k2
      go_wp2_with (first | ((with_reducible refine wpList_putSum w2 rfl (.tmp 6) (.tmp 21) rfl key rfl rfl ?_); intro w3 hB hb4; have HB := Lib.hid hB; clear hB; have H3 := Lib.hid (H2.out.below hb4); have HZ3 := Lib.hid (HZ2.out.below hb4); have k4 := k3.trans (hb4.mono k3.size); clear hb4))
      have hw2 := H2.out.lt
      obtain ⟨G, eG⟩ : ∃ G, G = w2.heap.size := ⟨_, rfl⟩
      rw [← eG] at HB hw2 ⊢
      clear eG
      have hls := sumL_len key
      obtain ⟨S, eS⟩ : ∃ S, S = sumL key := ⟨_, rfl⟩
      rw [← eS] at HB hls
      have ES := Lib.hid eS; clear eS
      have HLS := Lib.hid hls; clear hls
      go_loopw [7] (fun i wr => ∃ t : Nat, t ≤ 32 ∧ i = .int .i64 t ∧ Hid (Bs wr G 46 S) ∧ Hid (Bs wr (w.heap.size + 1) 70 (layK S t)) ∧ Hid (Bs wr w.heap.size 46 (List.replicate 32 0)) ∧ Below w.heap.size w wr) (fun i _ => 32 - (intOf i).toNat)
      case atStart => exact ⟨0, by omega, rfl, HB, by rw [layK_zero]; exact H3, HZ3, k4⟩
      case round =>
        clear HB H3 HZ3 k4
        obtain ⟨t, ht, rfl, HB, H3, HZ3, k4⟩ := hrel
        rcases Int.lt_or_le (t : Int) 32 with hlt | hge
        · have t32 : t < 32 := by omega
          have t64 : t < 64 := by omega
          have c0 := HB.out.cell t (by rw [HLS.out]; exact t32)
          have e1 := layK_set S t (by rw [HLS.out]; exact t32) t64
          obtain ⟨x, ex⟩ : ∃ x, x = getB S t := ⟨_, rfl⟩
          rw [← ex] at c0 e1
          have EX := Lib.hid ex; clear ex
          have E1 := Lib.hid e1; clear e1
          have hi : t < (layK S t).length := by rw [layK_len S t (by rw [HLS.out]; omega) (by omega)]; exact t64
          have HI := Lib.hid hi; clear hi
          have hne : Hid (w.heap.size + 1 ≠ G) := Lib.hid (by omega)
          go_wp2_with (first | ((with_reducible refine wpList_putB _ rfl (.tmp 30) (.tmp 29) rfl (w.heap.size + 1) t x rfl rfl _ _ H3.out HI.out ?_); intro wa ha1 ha2; rw [E1.out] at ha1; have HA := Lib.hid ha1; clear ha1; have HB2 := Lib.hid (HB.out.grown ha2 (fun e => by injection e with e; exact hne.out e)); have HZ4 := Lib.hid (HZ3.out.grown ha2 (fun e => by injection e with e; omega)); have k5 := k4.grown ha2 k4.size (fun q e => by injection e with e; omega); clear ha2))
          go_roundw
          case rel => exact ⟨t + 1, by omega, by go_num, HB2, HA, HZ4, k5⟩
          case measure => simp [intOf]; omega
        · obtain rfl : t = 32 := by omega
          have hA := H3.out
          rw [show layK S 32 = padK S by rw [← HLS.out]; exact layK_all S, ES.out, ← EK.out] at hA
          go_wp2_with (fail)
          go_meet
          exact ⟨hA, HZ3, k4⟩
    · have hb2 : decide ((64 : Int) < (nk : Int)) = false := by simp; omega
      have ek : keyL key = key := by unfold keyL; rw [if_neg (by rw [HNK.out]; exact hbig)]
      have EK := Lib.hid ek; clear ek
      go_wp2
      simp only [hb2]
      go_loopw [8] (fun i wr => ∃ t : Nat, t ≤ nk ∧ i = .int .i64 t ∧ Hid (Bs wr (w.heap.size + 1) 70 (layK key t)) ∧ Hid (Bs wr w.heap.size 46 (List.replicate 32 0)) ∧ Below w.heap.size w wr) (fun i _ => nk - (intOf i).toNat)
      case atStart => exact ⟨0, by omega, rfl, by rw [layK_zero]; exact H1, HZ, k1⟩
      case round =>
        clear H1 HZ k1
        obtain ⟨t, ht, rfl, H3, HZ3, k4⟩ := hrel
        rcases Nat.lt_or_ge t nk with hlt | hge
        · have t64 : t < 64 := by omega
          have htk : t < key.length := by rw [HNK.out]; exact hlt
          obtain ⟨kb, ko, rfl, hkb, hkc⟩ := hrk.addrB (by omega)
          have c0 := getB_rd hkc t htk
          rw [← k4.cell (p := ⟨kb, _, none⟩) hkb] at c0
          have e1 := layK_set key t htk t64
          obtain ⟨x, ex⟩ : ∃ x, x = getB key t := ⟨_, rfl⟩
          rw [← ex] at c0 e1
          clear hkc
          have EX := Lib.hid ex; clear ex
          have E1 := Lib.hid e1; clear e1
          have hi : t < (layK key t).length := by rw [layK_len key t (by omega) (by omega)]; exact t64
          have HI := Lib.hid hi; clear hi htk
          have hlt' : (t : Int) < (nk : Int) := by omega
          go_wp2_with (first | ((with_reducible refine wpList_putB _ rfl (.tmp 42) (.tmp 41) rfl (w.heap.size + 1) t x rfl rfl _ _ H3.out HI.out ?_); intro wa ha1 ha2; rw [E1.out] at ha1; have HA := Lib.hid ha1; clear ha1; have HZ4 := Lib.hid (HZ3.out.grown ha2 (fun e => by injection e with e; omega)); have k5 := k4.grown ha2 k4.size (fun q e => by injection e with e; omega); clear ha2))
          go_roundw
          case rel => exact ⟨t + 1, by omega, by go_num, HA, HZ4, k5⟩
          case measure => simp [intOf]; omega
        · obtain rfl : nk = t := by omega
          have hA := H3.out
          rw [show layK key nk = padK key by rw [← HNK.out]; exact layK_all key, ← EK.out] at hA
          go_wp2_with (fail)
          go_meet
          exact ⟨hA, HZ3, k4⟩
  case rest =>
    obtain ⟨H1, HZ, k1⟩ := hcut
    have s1 := k1.size
    go_wp2
    have hk64 := padK_len (keyL_len key)
    obtain ⟨K, eK⟩ : ∃ K, K = padK (keyL key) := ⟨_, rfl⟩
    rw [← eK] at H1 hk64
    have EK := Lib.hid eK; clear eK
    have HKL := Lib.hid hk64; clear hk64
    have hB1 := H1.out.lt
    have H2 := Lib.hid ((H1.out.alloc (.cells #[] 5)).alloc (.cells #[] 5))
    have HZ2 := Lib.hid ((HZ.out.alloc (.cells #[] 5)).alloc (.cells #[] 5))
    have k2 := (k1.alloc s1 (.cells #[] 5)).alloc (by simp; omega) (.cells #[] 5)
    have ho1 : OwnB ((wc.alloc (.cells #[] 5)).alloc (.cells #[] 5)) (w.heap.size + 2) (.slice (some ⟨wc.heap.size, 0, none⟩) 0 0) [] := by
      have h : OwnB (wc.alloc (.cells #[] 5)) (w.heap.size + 2) (.slice (some ⟨wc.heap.size, 0, none⟩) 0 0) [] := World.ownsRow_made wc #[] 0 (by omega) (Nat.zero_le _) rfl
      exact Own.alloc h _
    have ho2 : OwnB ((wc.alloc (.cells #[] 5)).alloc (.cells #[] 5)) (w.heap.size + 2) (.slice (some ⟨wc.heap.size + 1, 0, none⟩) 0 0) [] := by
      have h : OwnB ((wc.alloc (.cells #[] 5)).alloc (.cells #[] 5)) (w.heap.size + 2) (.slice (some ⟨(wc.alloc (.cells #[] 5)).heap.size, 0, none⟩) 0 0) [] := World.ownsRow_made (wc.alloc (.cells #[] 5)) #[] 0 (by simp; omega) (Nat.zero_le _) rfl
      rw [World.size_alloc] at h
      exact h
    go_loopw [9, 10, 11] (fun v u i wr => ∃ t : Nat, t ≤ 64 ∧ i = .int .i64 t ∧ Hid (OwnB wr (w.heap.size + 2) v (xorL 54 (K.take t))) ∧ Hid (OwnB wr (w.heap.size + 2) u (xorL 92 (K.take t))) ∧ Hid (∀ q, v.ownBlock = some q → u.ownBlock ≠ some q) ∧ Hid (Bs wr (w.heap.size + 1) 70 K) ∧ Hid (Bs wr w.heap.size 46 (List.replicate 32 0)) ∧ Below w.heap.size w wr ∧ w.heap.size + 2 ≤ wr.heap.size) (fun _ _ i _ => 64 - (intOf i).toNat)
    case atStart =>
      refine ⟨0, by omega, rfl, Lib.hid (by simpa [xorL] using ho1), Lib.hid (by simpa [xorL] using ho2), Lib.hid ?_, H2, HZ2, k2, by simp; omega⟩
      intro q e e2
      simp [Value.ownBlock] at e e2
      omega
    case round =>
      clear H2 HZ2 k2 ho1 ho2
      obtain ⟨t, ht, rfl, HV, HU, HD, H2, HZ2, k2, s2⟩ := hrel
      rcases Int.lt_or_le (t : Int) 64 with hlt | hge
      · have t64 : t < 64 := by omega
        have c0 := H2.out.cell t (by rw [HKL.out]; exact t64)
        have e1 : ∀ cc, xorL cc (K.take (t + 1)) = xorL cc (K.take t) ++ [getB K t ^^^ cc] := by
          intro cc
          rw [List.take_succ_eq_append_getElem (by rw [HKL.out]; exact t64), xorL, List.map_append, xorL, List.map_cons, List.map_nil]
          congr 2
          simp [getB, List.getD, HKL.out, t64]
        obtain ⟨x, ex⟩ : ∃ x, x = getB K t := ⟨_, rfl⟩
        rw [← ex] at c0 e1
        have EX := Lib.hid ex; clear ex
        have a54 := e1 54
        have a92 := e1 92
        clear e1
        have hx54 := bv_xor54 5 x
        have hx92 := bv_xor92 5 x
        obtain ⟨y1, ey1⟩ : ∃ y, y = x ^^^ 54 := ⟨_, rfl⟩
        obtain ⟨y2, ey2⟩ : ∃ y, y = x ^^^ 92 := ⟨_, rfl⟩
        rw [← ey1] at hx54 a54
        rw [← ey2] at hx92 a92
        rw [show bv y1 = Value.int .u8 (y1.toNat : Int) from rfl] at hx54
        rw [show bv y2 = Value.int .u8 (y2.toNat : Int) from rfl] at hx92
        clear ey1 ey2
        have E54 := Lib.hid a54; clear a54
        have E92 := Lib.hid a92; clear a92
        have hlv : (xorL 54 (K.take t)).length + 1 ≤ 140737488355328 := by rw [xorL_len, List.length_take]; omega
        have hlu : (xorL 92 (K.take t)).length + 1 ≤ 140737488355328 := by rw [xorL_len, List.length_take]; omega
        have HLV := Lib.hid hlv; clear hlv
        have HLU := Lib.hid hlu; clear hlu
        have hct : t < K.length := by rw [HKL.out]; exact t64
        have HCT := Lib.hid hct; clear hct
        go_wp2_with (first
          | (at_builtin; refine wpList_appB1 _ rfl (.tmp 49) (.tmp 54) rfl (w.heap.size + 2) _ _ rfl HV.out _ rfl y1 rfl HLV.out s2 ?_; intro v1 w1 g1 g2 g3; have st := two_step HV.out HU.out HD.out H2.out HZ2.out k2 s2 g2 g3; have HV1 := Lib.hid g1; clear g1 g2 g3; obtain ⟨r1, r2, r3, r4, k3, s3⟩ := st; have c1 := r3.cell t HCT.out; rw [← EX.out] at c1; have HU1 := Lib.hid r1; clear r1; have HD1 := Lib.hid r2; clear r2; have H3 := Lib.hid r3; clear r3; have HZ3 := Lib.hid r4; clear r4)
          | (at_builtin; refine wpList_appB1 _ rfl (.tmp 56) (.tmp 61) rfl (w.heap.size + 2) _ _ rfl HU1.out _ rfl y2 rfl HLU.out s3 ?_; intro v2 w2 g1 g2 g3; have st := two_step HU1.out HV1.out (fun q e e2 => HD1.out q e2 e) H3.out HZ3.out k3 s3 g2 g3; have HU2 := Lib.hid g1; clear g1 g2 g3; obtain ⟨r1, r2, r3, r4, k4, s4⟩ := st; have HV2 := Lib.hid r1; clear r1; have HD2 := Lib.hid r2; clear r2; have H4 := Lib.hid r3; clear r3; have HZ4 := Lib.hid r4; clear r4))
        go_roundw
        case rel => exact ⟨t + 1, by omega, by go_num, Lib.hid (by rw [E54.out]; exact HV2.out), Lib.hid (by rw [E92.out]; exact HU2.out), Lib.hid (fun q e e2 => HD2.out q e2 e), H4, HZ4, k4, s4⟩
        case measure => simp [intOf]; omega
      · obtain rfl : t = 64 := by omega
        have hv := HV.out
        have hu := HU.out
        rw [List.take_of_length_le (by rw [HKL.out]; exact Nat.le_refl _)] at hv hu
        clear HV HU H2
        have HV := Lib.hid hv; clear hv
        have HU := Lib.hid hu; clear hu
        have hxl : (xorL 54 K).length = 64 := by rw [xorL_len, HKL.out]
        have HXL := Lib.hid hxl; clear hxl
        have hff : bss.flatten.length ≤ 900000000 := by rw [HBB.out]; exact hf
        have HFF := Lib.hid hff; clear hff
        go_wp2
        go_loopw [9, 12] (fun v i wr => ∃ k : Nat, k ≤ n ∧ i = .int .i64 k ∧ Hid (OwnB wr (w.heap.size + 2) v (xorL 54 K ++ (bss.take k).flatten)) ∧ Hid (OwnB wr (w.heap.size + 2) u10 (xorL 92 K)) ∧ Hid (∀ q, v.ownBlock = some q → u10.ownBlock ≠ some q) ∧ Hid (Bs wr w.heap.size 46 (List.replicate 32 0)) ∧ Below w.heap.size w wr ∧ w.heap.size + 2 ≤ wr.heap.size) (fun _ i _ => n - (intOf i).toNat)
        case atStart => exact ⟨0, Nat.zero_le _, rfl, Lib.hid (by simpa using HV.out), HU, HD, HZ2, k2, s2⟩
        case round =>
          clear HV HU HD HZ2 k2 s2
          obtain ⟨k, hk, rfl, HV, HU, HD, HZ2, k2, s2⟩ := hrel
          rcases Nat.lt_or_ge k n with hlt3 | hge3
          · obtain ⟨pb, po, rfl, hblt, hc⟩ := hr.addr (by rw [HN.out]; omega)
            obtain ⟨Ap, cp, h1, h2, h3, h4⟩ := hc k (by rw [HN.out]; exact hlt3)
            rw [← k2.cell (p := ⟨pb, _, none⟩) hblt] at h1
            have h2' := h2.below k2
            have e1 := flatten_take_succ bss k (by rw [HN.out]; exact hlt3)
            have e2 := flatten_take_le bss (k + 1)
            obtain ⟨x, ex⟩ : ∃ x, x = bss[k]'(by rw [HN.out]; exact hlt3) := ⟨_, rfl⟩
            rw [← ex] at h1 h2' h3 e1
            obtain ⟨m, em⟩ : ∃ m, m = x.length := ⟨_, rfl⟩
            rw [← em] at h1 h3
            have e3 : (xorL 54 K ++ (bss.take k).flatten).length + m ≤ 140737488355328 := by
              have e4 := congrArg List.length e1
              rw [List.length_append, ← em] at e4
              have := HFF.out
              rw [List.length_append, HXL.out]; omega
            have EM := Lib.hid em; clear em
            have EX := Lib.hid ex; clear ex
            have E1 := Lib.hid e1; clear e1
            have E3 := Lib.hid e3; clear e3
            have HR2 := Lib.hid h2'; clear h2'
            clear e2 hc h2
            have hlt' : (k : Int) < (n : Int) := by omega
            go_wp2_with (first
              | (at_builtin; refine wpList_appB _ rfl (.tmp 69) (.tmp 73) rfl (w.heap.size + 2) _ _ rfl HV.out Ap m cp x rfl EM.out.symm HR2.out E3.out s2 ?_; intro v1 w1 g1 g2 g3; have st := two_app HV.out HU.out HD.out HZ2.out k2 s2 g2 g3; have HV1 := Lib.hid g1; clear g1 g2 g3; obtain ⟨r1, r2, r4, k3, s3⟩ := st; have HU1 := Lib.hid r1; clear r1; have HD1 := Lib.hid r2; clear r2; have HZ3 := Lib.hid r4; clear r4))
            refine ⟨?_, ?measure⟩
            · iterate 14 (apply Exists.intro)
              refine ⟨?rel, rfl⟩
              case rel => exact ⟨k + 1, by omega, by go_num, Lib.hid (by rw [E1.out, ← List.append_assoc]; exact HV1.out), HU1, HD1, HZ3, k3, s3⟩
            case measure => simp [intOf]; omega
          · obtain rfl : n = k := by omega
            have hv := HV.out
            rw [List.take_of_length_le (by rw [HN.out]; exact Nat.le_refl _), HBB.out, EK.out] at hv
            clear HV
            have hiL : (innerB key b).length ≤ 1000000000 := by rw [innerB_len]; omega
            have HIL := Lib.hid hiL; clear hiL
            have hv' : OwnB wr (w.heap.size + 2) u9 (innerB key b) := hv
            clear hv
            obtain ⟨A3, c3, rfl, p1, p2, p3, _⟩ := OwnB.form hv'
            clear hv'
            have P3 := Lib.hid p3; clear p3
            obtain ⟨L, eL⟩ : ∃ L, L = innerB key b := ⟨_, rfl⟩
            rw [← eL] at P3 p1 HIL ⊢
            have EL := Lib.hid eL; clear eL
            go_wp2_with (fail)
            have a1 := P3.out
            have a3 : ∀ x ∈ [((A3, L.length, c3) : Option Addr × Nat × Nat)].zip [L], x.2.length = x.1.2.1 ∧ Rd wr x.1.1 (x.2.map bv) ∧ x.1.2.1 ≤ x.1.2.2 ∧ x.1.2.2 ≤ maxLen := by
              intro x hx
              simp only [List.zip_cons_cons, List.zip_nil_right, List.mem_singleton] at hx
              subst hx
              exact ⟨rfl, a1, p1, p2⟩
            have r1 := RdS_lit wr _ _ 22 (by simp only [List.length_cons, List.length_nil]) a3
            simp only [List.map_cons, List.map_nil] at r1
            clear a1 a3
            have k3 := k2.alloc k2.size (.cells #[.slice A3 L.length c3] 22)
            have HUa := Lib.hid (Own.alloc HU.out (.cells #[.slice A3 L.length c3] 22))
            have HZa := Lib.hid (HZ2.out.alloc (.cells #[.slice A3 L.length c3] 22))
            refine (refSum_v _ 1 1 [L] L _ rfl r1 (by omega) (by simp) HIL.out).mono ?_
            rintro e wb ⟨rfl, hb1⟩
            have k4 := k3.trans (hb1.mono k3.size)
            have HUb := Lib.hid (Own.below HUa.out hb1)
            have HZb := Lib.hid (HZa.out.below hb1)
            have s4 : w.heap.size + 2 ≤ wb.heap.size := by have := hb1.size; simp at this; omega
            clear r1 hb1 HUa HZa HU HZ2 k3 k2
            go_wp2_with (first | ((with_reducible refine wpList_putSum wb rfl (.tmp 13) (.tmp 77) rfl L rfl rfl ?_); intro wd hB hb4; have HB := Lib.hid hB; clear hB; have HUc := Lib.hid (Own.below HUb.out hb4); have HZc := Lib.hid (HZb.out.below hb4); have k5 := k4.trans (hb4.mono k4.size); have s5 : w.heap.size + 2 ≤ wd.heap.size := (by have := hb4.size; omega); clear hb4))
            have hls := sumL_len L
            obtain ⟨S, eS⟩ : ∃ S, S = sumL L := ⟨_, rfl⟩
            rw [← eS] at HB hls
            have ES := Lib.hid eS; clear eS
            have HLS := Lib.hid hls; clear hls
            have hug : ∀ q, u10.ownBlock = some q → q ≠ wb.heap.size := fun q e e2 => by have := (Own.lt HUb.out _ e).2; omega
            obtain ⟨G, eG⟩ : ∃ G, G = wb.heap.size := ⟨_, rfl⟩
            rw [← eG] at HB hug s4 ⊢
            have HUG := Lib.hid hug; clear hug
            have hyl : (xorL 92 K).length = 64 := by rw [xorL_len, HKL.out]
            have HYL := Lib.hid hyl; clear hyl
            clear eG HUb HZb k4
            go_loopw [10, 14] (fun u i wr => ∃ t : Nat, t ≤ 32 ∧ i = .int .i64 t ∧ Hid (OwnB wr (w.heap.size + 2) u (xorL 92 K ++ S.take t)) ∧ Hid (∀ q, u.ownBlock = some q → q ≠ G) ∧ Hid (Bs wr G 46 S) ∧ Hid (Bs wr w.heap.size 46 (List.replicate 32 0)) ∧ Below w.heap.size w wr ∧ w.heap.size + 2 ≤ wr.heap.size) (fun _ i _ => 32 - (intOf i).toNat)
            case atStart => exact ⟨0, by omega, rfl, Lib.hid (by rw [List.take_zero, List.append_nil]; exact HUc.out), HUG, HB, HZc, k5, s5⟩
            case round =>
              clear HUc HUG HB HZc k5 s5
              obtain ⟨t, ht, rfl, HU, HUG, HB, HZ2, k2, s2⟩ := hrel
              rcases Int.lt_or_le (t : Int) 32 with hlt4 | hge4
              · have t32 : t < 32 := by omega
                have c0 := HB.out.cell t (by rw [HLS.out]; exact t32)
                have e1 : S.take (t + 1) = S.take t ++ [getB S t] := by
                  rw [List.take_succ_eq_append_getElem (by rw [HLS.out]; exact t32)]
                  congr 2
                  simp [getB, List.getD, HLS.out, t32]
                obtain ⟨x, ex⟩ : ∃ x, x = getB S t := ⟨_, rfl⟩
                rw [← ex] at c0 e1
                rw [show bv x = Value.int .u8 (x.toNat : Int) from rfl] at c0
                have EX := Lib.hid ex; clear ex
                have E1 := Lib.hid e1; clear e1
                have hlu : (xorL 92 K ++ S.take t).length + 1 ≤ 140737488355328 := by rw [List.length_append, HYL.out, List.length_take]; omega
                have HLU := Lib.hid hlu; clear hlu
                have hlt9 := HB.out.lt
                go_wp2_with (first
                  | (at_builtin; refine wpList_appB1 _ rfl (.tmp 82) (.tmp 86) rfl (w.heap.size + 2) _ _ rfl HU.out _ rfl x rfl HLU.out s2 ?_; intro v1 w1 g1 g2 g3; have HU1 := Lib.hid g1; clear g1; have G2 := Lib.hid g2; clear g2; have G3 := Lib.hid g3; clear g3))
                have hs3 := G2.out.size
                simp only [World.size_alloc] at hs3
                have hB2 := (HB.out.alloc (.cells #[.int .u8 (x.toNat : Int)] 5)).grown G2.out (fun e => HUG.out _ e rfl)
                have hZ3 := (HZ2.out.alloc (.cells #[.int .u8 (x.toNat : Int)] 5)).grown G2.out (fun e => by have := (Own.lt HU.out _ e).1; omega)
                have k3 := (k2.alloc (by omega) (.cells #[.int .u8 (x.toNat : Int)] 5)).grown G2.out (by simp; omega) (fun q e => by have := (Own.lt HU.out _ e).1; omega)
                have hUG1 : ∀ q, v1.ownBlock = some q → q ≠ G := by
                  intro q e
                  rcases G3.out with g | g
                  · exact HUG.out q (g.symm.trans e)
                  · rw [g] at e; injection e with e; omega
                go_roundw
                case rel => exact ⟨t + 1, by omega, by go_num, Lib.hid (by rw [E1.out, ← List.append_assoc]; exact HU1.out), Lib.hid hUG1, Lib.hid hB2, Lib.hid hZ3, k3, by omega⟩
                case measure => simp [intOf]; omega
              · obtain rfl : t = 32 := by omega
                have hu := HU.out
                rw [List.take_of_length_le (by rw [HLS.out]; exact Nat.le_refl _), ES.out, EL.out, EK.out] at hu
                have hu' : OwnB wr (w.heap.size + 2) u10 (codeB key b) := hu
                clear hu HU
                have hcl := codeB_len key b
                obtain ⟨A5, c5, rfl, y1, y2, y3, _⟩ := OwnB.form hu'
                have Y3 := Lib.hid y3; clear y3 hu'
                obtain ⟨M, eM⟩ : ∃ M, M = codeB key b := ⟨_, rfl⟩
                rw [← eM] at Y3 y1 hcl ⊢
                have EM2 := Lib.hid eM; clear eM
                have hml : M.length ≤ 1000000000 := by omega
                have HML := Lib.hid hml; clear hml hcl
                go_wp2_with (fail)
                have a1 := Y3.out
                have a3 : ∀ x ∈ [((A5, M.length, c5) : Option Addr × Nat × Nat)].zip [M], x.2.length = x.1.2.1 ∧ Rd wr x.1.1 (x.2.map bv) ∧ x.1.2.1 ≤ x.1.2.2 ∧ x.1.2.2 ≤ maxLen := by
                  intro x hx
                  simp only [List.zip_cons_cons, List.zip_nil_right, List.mem_singleton] at hx
                  subst hx
                  exact ⟨rfl, a1, y1, y2⟩
                have r1 := RdS_lit wr _ _ 22 (by simp only [List.length_cons, List.length_nil]) a3
                simp only [List.map_cons, List.map_nil] at r1
                clear a1 a3
                have k3 := k2.alloc k2.size (.cells #[.slice A5 M.length c5] 22)
                have HZa := Lib.hid (HZ2.out.alloc (.cells #[.slice A5 M.length c5] 22))
                refine (refSum_v _ 1 1 [M] M _ rfl r1 (by omega) (by simp) HML.out).mono ?_
                rintro e we ⟨rfl, hb1⟩
                have k4 := k3.trans (hb1.mono k3.size)
                have hZb := HZa.out.below hb1
                clear r1 hb1 HZa HZ2 k3 k2
                go_wp2_with (first | ((with_reducible refine wpList_storeSum _ rfl (.tmp 4) (.tmp 90) rfl w.heap.size M _ _ rfl rfl hZb z32 ?_); intro wf hw5 hg5))
                have hbw := k4.grown hg5 k4.size (fun k e => by injection e with e; omega)
                exact bodyPost_ret (v := sumV M) (results_sum rfl _ _ w.heap.size _ _ rfl hw5) rfl ⟨by rw [EM2.out], hbw⟩
end Go.Proofs.YtecmkdoodlpanaaDoor
