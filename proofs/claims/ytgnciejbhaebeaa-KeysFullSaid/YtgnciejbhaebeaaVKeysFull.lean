/- The walk of the law KeysFull: it returns true. Conditions: the row's own. -/
import Derived.Test.YtgnciejbhaebeaaKq2
import Derived.Test.YtgnciejbhaebeaaKq4
import Derived.Test.YtgnciejbhaebeaaOev
namespace Go.Proofs.Ytgnciejbhaebeaa
open Go Go.RowKit

/-- A queue made in the world w1: it has these events; what was there ahead of it stays. -/
def FS (q : Nat) (w1 : World) (came : Nat) (es : List Ev) (wr : World) : Prop := ∃ own v ds, Qu own wr q came v ds es ∧ (∀ j, own j → q < j) ∧ Below q w1 wr
theorem FS.drewN {q came : Nat} {w1 wr : World} {es : List Ev} (h : FS q w1 came es wr) (n : Nat) : FS q w1 came es (wr.drewN n) := by
  obtain ⟨own, v, ds, h1, h2, h3⟩ := h
  exact ⟨own, v, ds, h1.drewN n, h2, below_drewN h3 n⟩
theorem FS.below {q came : Nat} {w1 wr w' : World} {es : List Ev} (h : FS q w1 came es wr) (hb : Below wr.heap.size wr w') : FS q w1 came es w' := by
  obtain ⟨own, v, ds, h1, h2, h3⟩ := h
  exact ⟨own, v, ds, h1.below hb, h2, h3.trans (hb.mono (by have := h1.lt; omega))⟩
theorem FS.bel {q came : Nat} {w1 wr : World} {es : List Ev} (h : FS q w1 came es wr) : Below q w1 wr := by
  obtain ⟨own, v, ds, h1, h2, h3⟩ := h
  exact h3
theorem keeps_below {q : Nat} {own : Nat → Prop} {wr w' : World} (h : Keeps (fun j => j = q ∨ own j) wr w') (ho : ∀ j, own j → q < j) (hq : q < wr.heap.size) : Below q wr w' :=
  h.below (fun k hk => ⟨by omega, fun e => by
    rcases e with e | e
    · omega
    · have := ho k e; omega⟩)

theorem push_f (q : Nat) (w1 : World) (came : Nat) (es : List Ev) (wr : World) (h : FS q w1 came es wr) (hu : U63 came) (hl : es.length ≤ 1000000000)
    (k x y b : Int) (A : Option Addr) (n c : Nat) (t : List UInt8) (hq : q = w1.heap.size) (ht : TxtR (· < q) w1 A n c t) (N er : Nat) (es' : List Ev) (hp : pushR came es ⟨k, t, x, y, b⟩ = (N, er, es')) :
    Calls Try.prog 26 #[.pointer (some ⟨q, 0, none⟩), .agg #[.int .i64 k, .slice A n c, .int .i64 x, .int .i64 y, .int .i64 b]] wr fun r w' =>
      r = .returned (.tuple #[.int .u64 (N : Int), .int .i64 (er : Int)]) ∧ FS q w1 came es' w' := by
  obtain ⟨own, v, ds, h1, h2, h3⟩ := h
  have ht' := ht.frame (w' := wr) (fun j hj _ => h3.block j hj) h3.size
  refine (Push_c own q came v ds es wr h1 hu hl _ k x y b A n c t ht').mono ?_
  rintro r w' ⟨hr, ⟨v', ds', hQ⟩, hK⟩
  rw [hp] at hr hQ
  have hlt := h1.lt
  exact ⟨hr, _, v', ds', hQ, fun j hj => by
    rcases hj with hj | hj
    · exact h2 j hj
    · omega, h3.trans (keeps_below hK h2 hlt)⟩
theorem ack_f (q : Nat) (w1 : World) (came : Nat) (es : List Ev) (wr : World) (h : FS q w1 came es wr) (hu : U63 came) (hl : es.length ≤ 1000000000) (m : Nat) (hm : U64 m) (N gt : Nat) (es' : List Ev) (hp : ackR came es m = (N, gt, es')) :
    Calls Try.prog 27 #[.pointer (some ⟨q, 0, none⟩), .int .u64 m] wr fun r w' => r = .returned (.int .i64 (N : Int)) ∧ FS q w1 gt es' w' := by
  obtain ⟨own, v, ds, h1, h2, h3⟩ := h
  refine (Ack_c own q came v ds es wr h1 hu hl m hm).mono ?_
  rintro r w' ⟨hr, ⟨v', ds', hQ⟩, hK⟩
  rw [hp] at hr hQ
  have hlt := h1.lt
  exact ⟨hr, _, v', ds', hQ, fun j hj => by
    rcases hj with hj | hj
    · exact h2 j hj
    · omega, h3.trans (hK.below (fun k hk => ⟨by omega, by omega⟩))⟩

set_option maxRecDepth 100000 in
set_option maxHeartbeats 600000 in
theorem KeysFull_walk (w : World) (k : Int) (A : Option Addr) (n c : Nat) (x y b : Int) (bs : List UInt8) (h : bs.length = n ∧ Rd w A (bs.map bv) ∧ n ≤ c ∧ c ≤ maxLen ∧ n ≤ 140737488351232) (z : Int) (hz : (Lit.int .u16 z).wf = true) :
    Calls Try.prog 4 #[.agg #[.int .i64 k, .slice A n c, .int .i64 x, .int .i64 y, .int .i64 b], .int .u16 z] w fun r w' => r = .returned (.bool true) ∧ Below w.heap.size w w' := by
  have hz2 : 0 ≤ z ∧ z ≤ 65535 := by
    simp only [Lit.wf, IntKind.min, IntKind.max, IntKind.signed, IntKind.bits, Bool.and_eq_true, decide_eq_true_eq] at hz
    exact ⟨by simpa using hz.1, by simpa using hz.2⟩
  clear hz
  obtain ⟨w1, ew1⟩ : ∃ w1, w1 = w.alloc (.cells #[.int .i64 k, .slice A n c, .int .i64 x, .int .i64 y, .int .i64 b] 36) := ⟨_, rfl⟩
  have k1 : Below w.heap.size w w1 := by rw [ew1]; exact (Below.refl _ _).alloc (Nat.le_refl _) _
  have s1 : w1.heap.size = w.heap.size + 1 := by rw [ew1]; simp
  have hg : w1.heap[w.heap.size]? = some (.cells #[.int .i64 k, .slice A n c, .int .i64 x, .int .i64 y, .int .i64 b] 36 (0, 0)) := by rw [ew1]; exact heap_alloc_new w _
  obtain ⟨t1, t2, t3, t4, t5⟩ := h
  have tx : TxtR (· < w1.heap.size) w1 A n c bs := by
    refine ⟨t1, t2.below k1, t3, t4, fun h0 a ea => ?_, by omega⟩
    rcases t2 with t2 | ⟨b', off, rfl, hb', _⟩
    · have : bs = [] := by simpa using t2
      rw [this, List.length_nil] at t1
      omega
    · injection ea with ea; subst ea
      show b' < _; omega
  have hmay : (⟨k, bs, x, y, b⟩ : Ev).may = mayB k x y b n := by rw [Ev.may, t1]
  have HG := Lib.hid hg; clear hg
  have EW := Lib.hid ew1; clear ew1
  have TX := Lib.hid tx; clear tx t1 t2 t3 t4 t5
  obtain ⟨M, eM⟩ : ∃ M, M = mayB k x y b n := ⟨_, rfl⟩
  rw [← eM] at hmay
  have HM := Lib.hid hmay; clear hmay
  go_enter Try.func4, Try.ntmps4
  go_wp2_with (fail)
  rw [← EW.out]
  refine (NewQueue_c w1).mono ?_
  rintro r w2 ⟨rfl, hq2, hb2, -⟩
  obtain ⟨q, eq⟩ : ∃ q, q = w1.heap.size := ⟨_, rfl⟩
  rw [← eq] at hq2 hb2 TX ⊢
  have hF : FS q w1 0 [] w2 := ⟨fun j => q < j, .slice none 0 0, [], ⟨hq2, ⟨rfl, World.ownsRow_nil _ _ _ _, fun k e => (by cases e), fun i h => absurd h (by simp)⟩, Nat.lt_irrefl q⟩, fun j hj => hj, hb2⟩
  have HF := Lib.hid hF; clear hF hq2
  have hqs : w.heap.size < q := by omega
  have EQ := Lib.hid eq; clear eq s1
  go_wp2_with (fail)
  refine (fixed24_c w2).mono ?_
  rintro r w3 ⟨rfl, hb3⟩
  have HF3 := Lib.hid (HF.out.below hb3)
  clear hb3 HF hb2
  have five : ∀ wr, Below q w1 wr → wr.cell? ⟨w.heap.size, 0, none⟩ = some (.int .i64 k) ∧ wr.cell? ⟨w.heap.size, 1, none⟩ = some (.slice A n c) ∧ wr.cell? ⟨w.heap.size, 2, none⟩ = some (.int .i64 x) ∧ wr.cell? ⟨w.heap.size, 3, none⟩ = some (.int .i64 y) ∧ wr.cell? ⟨w.heap.size, 4, none⟩ = some (.int .i64 b) := by
    intro wr hb
    have hr := (hb.block w.heap.size (by omega)).trans HG.out
    exact ⟨by rw [heap_cell hr]; rfl, by rw [heap_cell hr]; rfl, by rw [heap_cell hr]; rfl, by rw [heap_cell hr]; rfl, by rw [heap_cell hr]; rfl⟩
  have FV := Lib.hid five; clear five
  have kfin : ∀ wr, Below q w1 wr → Below w.heap.size w wr := fun wr hb => k1.trans (hb.mono (by omega))
  have KF := Lib.hid kfin; clear kfin
  obtain ⟨c0, ca, cb, cc, cd⟩ := FV.out _ HF3.out.bel
  go_wp2_with (fail)
  refine (refMay_c k x y b A n c w3).mono ?_
  rintro r w4 ⟨rfl, hb4⟩
  rw [← eM]
  have HF4 := Lib.hid (HF3.out.below hb4)
  clear hb4 HF3 eM c0 ca cb cc cd
  cases M with
  | false =>
    go_wp2_with (fail)
    go_ret
    exact ⟨rfl, KF.out _ HF4.out.bel⟩
  | true =>
    clear k1
    obtain ⟨e, ee⟩ : ∃ e : Ev, e = ⟨k, bs, x, y, b⟩ := ⟨_, rfl⟩
    rw [← ee] at HM
    have EE := Lib.hid ee; clear ee
    have hZ : U63 0 := by unfold U63; decide
    go_wp2_with (fail)
    go_loopw [26] (fun i wr => ∃ j : Nat, j ≤ 4096 ∧ i = .int .i64 j ∧ Hid (FS q w1 0 (List.replicate j e) wr)) (fun i _ => 4096 - (intOf i).toNat)
    case atStart => exact ⟨0, Nat.zero_le _, rfl, HF4⟩
    case round =>
      clear HF4
      obtain ⟨j, hj, rfl, HF⟩ := hrel
      obtain ⟨c0, ca, cb, cc, cd⟩ := FV.out _ HF.out.bel
      rcases Nat.lt_or_ge j 4096 with hlt | hge
      · have hp : pushR 0 (List.replicate j e) ⟨k, bs, x, y, b⟩ = (j + 1, 0, List.replicate (j + 1) e) := by
          rw [← EE.out, pushR, if_neg (by rw [HM.out]; decide), if_neg (by rw [List.length_replicate]; omega), List.length_replicate, Nat.zero_add, List.replicate_succ']
        have HP := Lib.hid hp; clear hp
        have hlt' : (j : Int) < 4096 := by omega
        have wj : IntKind.u64.wrap ((j : Int) + 1) = ((j + 1 : Nat) : Int) := by
          rw [show (j : Int) + 1 = ((j + 1 : Nat) : Int) by omega]; exact u64_wrapN (by unfold U64; omega)
        go_wp2_with (fail)
        refine (push_f q w1 0 _ wr HF.out hZ (by rw [List.length_replicate]; omega) k x y b A n c bs EQ.out TX.out _ _ _ HP.out).mono ?_
        rintro r w5 ⟨rfl, hF5⟩
        have HF5 := Lib.hid hF5; clear hF5 HF c0 ca cb cc cd HP
        go_wp2_with (fail)
        go_roundw
        case rel => exact ⟨j + 1, by omega, by go_num, HF5⟩
        case measure => simp [intOf]; omega
      · have hj4 : j = 4096 := by omega
        have HJ := Lib.hid hj4; clear hj4
        obtain ⟨Z, rfl⟩ : ∃ Z : Nat, z = (Z : Int) := ⟨z.toNat, by omega⟩
        obtain ⟨C, eC⟩ : ∃ C, C = Z % 4097 := ⟨_, rfl⟩
        have hC : C ≤ 4096 := by omega
        have rm : (Z : Int) % 4097 = (C : Int) := by omega
        have EC := Lib.hid eC; clear eC
        have hge' : (4096 : Int) ≤ (j : Int) := by omega
        obtain ⟨es, ees⟩ : ∃ es, es = List.replicate j e := ⟨_, rfl⟩
        rw [← ees] at HF
        have les : es.length = j := by rw [ees, List.length_replicate]
        have hp : pushR 0 es ⟨k, bs, x, y, b⟩ = (0, 11, es) := by
          rw [← EE.out, pushR, if_neg (by rw [HM.out]; decide), if_pos (by rw [les]; omega)]
        have HP := Lib.hid hp; clear hp
        have EES := Lib.hid ees; clear ees
        have LES := Lib.hid les; clear les
        go_wp2_with (fail)
        refine (push_f q w1 0 _ wr HF.out hZ (by rw [LES.out, HJ.out]; decide) k x y b A n c bs EQ.out TX.out _ _ _ HP.out).mono ?_
        rintro r w5 ⟨rfl, hF5⟩
        have HF5 := Lib.hid hF5; clear hF5 HF c0 ca cb cc cd HP
        have wC := u64_wrapN (n := C) (by unfold U64; omega)
        have hpa : ackR 0 es C = (C, C, es.drop C) := by
          rw [ackR]
          rcases Nat.eq_zero_or_pos C with h0 | h0
          · rw [h0, if_pos (.inl (Nat.le_refl _))]; rfl
          · rw [if_neg (by rw [LES.out]; have := HJ.out; omega)]; rfl
        have HPA := Lib.hid hpa; clear hpa
        go_wp2_with (fail)
        refine (ack_f q w1 0 _ w5 HF5.out hZ (by rw [LES.out, HJ.out]; decide) C (by unfold U64; omega) _ _ _ HPA.out).mono ?_
        rintro r w6 ⟨rfl, hF6⟩
        have HF6 := Lib.hid hF6; clear hF6 HF5 HPA
        have l6 : (es.drop C).length = 4096 - C := by rw [List.length_drop, LES.out, HJ.out]
        obtain ⟨es6, ees6⟩ : ∃ es6, es6 = es.drop C := ⟨_, rfl⟩
        rw [← ees6] at HF6 l6
        have L6 := Lib.hid l6; clear l6 ees6
        have hCU : U63 C := by unfold U63; omega
        have cc0 : ((C : Int) != (C : Int)) = false := by simp
        rcases Nat.lt_or_ge 20 C with h20 | h20
        · have h20' : (20 : Int) < (C : Int) := by omega
          have H20 := Lib.hid h20; clear h20
          go_wp2_with (fail)
          go_loopw [70] (fun i wr => ∃ (j2 : Nat) (es' : List Ev), j2 ≤ 20 ∧ i = .int .i64 j2 ∧ Hid (es'.length = 4096 - C + j2) ∧ Hid (FS q w1 C es' wr)) (fun i _ => 20 - (intOf i).toNat)
          case atStart => exact ⟨0, es6, Nat.zero_le _, rfl, L6, HF6⟩
          case round =>
            clear HF6 L6
            obtain ⟨j2, es', hj2, rfl, L6, HF⟩ := hrel
            obtain ⟨c0, ca, cb, cc, cd⟩ := FV.out _ HF.out.bel
            rcases Nat.lt_or_ge j2 20 with hlt | hge2
            · have hp : pushR C es' ⟨k, bs, x, y, b⟩ = (C + (es'.length + 1), 0, es' ++ [e]) := by
                rw [← EE.out, pushR, if_neg (by rw [HM.out]; decide), if_neg (by rw [L6.out]; have := H20.out; omega)]
              have HP := Lib.hid hp; clear hp
              have hlt' : (j2 : Int) < 20 := by omega
              go_wp2_with (fail)
              refine (push_f q w1 C _ wr HF.out hCU (by rw [L6.out]; have := H20.out; omega) k x y b A n c bs EQ.out TX.out _ _ _ HP.out).mono ?_
              rintro r w7 ⟨rfl, hF7⟩
              have HF7 := Lib.hid hF7; clear hF7 HF c0 ca cb cc cd HP
              have L7 : Hid ((es' ++ [e]).length = 4096 - C + (j2 + 1)) := Lib.hid (by rw [List.length_append, L6.out]; rfl)
              go_wp2_with (fail)
              go_roundw
              case rel => exact ⟨j2 + 1, _, by omega, by go_num, L7, HF7⟩
              case measure => simp [intOf]; omega
            · have hge2' : 20 ≤ (j2 : Int) := by omega
              have hj2e : Hid (j2 = 20) := Lib.hid (by omega)
              have hp : pushR C es' ⟨k, bs, x, y, b⟩ = (C + (es'.length + 1), 0, es' ++ [e]) := by
                rw [← EE.out, pushR, if_neg (by rw [HM.out]; decide), if_neg (by rw [L6.out, hj2e.out]; have := H20.out; omega)]
              have HP := Lib.hid hp; clear hp
              have d20 : decide ((C : Int) ≤ 20) = false := decide_eq_false (by have := H20.out; omega)
              go_wp2_with (fail)
              refine (push_f q w1 C _ wr HF.out hCU (by rw [L6.out, hj2e.out]; have := H20.out; omega) k x y b A n c bs EQ.out TX.out _ _ _ HP.out).mono ?_
              rintro r w7 ⟨rfl, hF7⟩
              have HF7 := Lib.hid hF7; clear hF7 HF c0 ca cb cc cd HP
              go_wp2_with (fail)
              go_ret
              exact ⟨rfl, KF.out _ HF7.out.bel⟩
        · have h20' : (C : Int) ≤ 20 := by omega
          have H20 := Lib.hid h20; clear h20
          go_wp2_with (fail)
          go_loopw [70] (fun i wr => ∃ (j2 : Nat) (es' : List Ev), j2 ≤ C ∧ i = .int .i64 j2 ∧ Hid (es'.length = 4096 - C + j2) ∧ Hid (FS q w1 C es' wr)) (fun i _ => C - (intOf i).toNat)
          case atStart => exact ⟨0, es6, Nat.zero_le _, rfl, L6, HF6⟩
          case round =>
            clear HF6 L6
            obtain ⟨j2, es', hj2, rfl, L6, HF⟩ := hrel
            obtain ⟨c0, ca, cb, cc, cd⟩ := FV.out _ HF.out.bel
            rcases Nat.lt_or_ge j2 C with hlt | hge2
            · have hp : pushR C es' ⟨k, bs, x, y, b⟩ = (C + (es'.length + 1), 0, es' ++ [e]) := by
                rw [← EE.out, pushR, if_neg (by rw [HM.out]; decide), if_neg (by rw [L6.out]; have := H20.out; omega)]
              have HP := Lib.hid hp; clear hp
              have hlt' : (j2 : Int) < (C : Int) := by omega
              go_wp2_with (fail)
              refine (push_f q w1 C _ wr HF.out hCU (by rw [L6.out]; have := H20.out; omega) k x y b A n c bs EQ.out TX.out _ _ _ HP.out).mono ?_
              rintro r w7 ⟨rfl, hF7⟩
              have HF7 := Lib.hid hF7; clear hF7 HF c0 ca cb cc cd HP
              have L7 : Hid ((es' ++ [e]).length = 4096 - C + (j2 + 1)) := Lib.hid (by rw [List.length_append, L6.out]; rfl)
              go_wp2_with (fail)
              go_roundw
              case rel => exact ⟨j2 + 1, _, by omega, by go_num, L7, HF7⟩
              case measure => simp [intOf]; omega
            · have hge2' : (C : Int) ≤ (j2 : Int) := by omega
              have hj2e : Hid (j2 = C) := Lib.hid (by omega)
              have hp : pushR C es' ⟨k, bs, x, y, b⟩ = (0, 11, es') := by
                rw [← EE.out, pushR, if_neg (by rw [HM.out]; decide), if_pos (by rw [L6.out, hj2e.out]; have := H20.out; omega)]
              have HP := Lib.hid hp; clear hp
              have d20 : decide ((C : Int) ≤ 20) = true := decide_eq_true (by have := H20.out; omega)
              go_wp2_with (fail)
              refine (push_f q w1 C _ wr HF.out hCU (by rw [L6.out, hj2e.out]; have := H20.out; omega) k x y b A n c bs EQ.out TX.out _ _ _ HP.out).mono ?_
              rintro r w7 ⟨rfl, hF7⟩
              have HF7 := Lib.hid hF7; clear hF7 HF c0 ca cb cc cd HP
              go_wp2_with (fail)
              go_ret
              exact ⟨rfl, KF.out _ HF7.out.bel⟩
end Go.Proofs.Ytgnciejbhaebeaa
