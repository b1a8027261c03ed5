/- What keys.Encode answers: a batch's bytes in a version, or an error. Conditions: events that can be read; lengths that fit. -/
import Derived.Test.YtgnciejbhaebeaaKf1
import Derived.Test.YtgnciejbhaebeaaRg
import Derived.Deep.RegionHeld3
namespace Go.Proofs.Ytgnciejbhaebeaa
open Go Go.RowKit

theorem u64_wrap {n : Nat} (h : U64 n) : IntKind.u64.wrap (n : Int) = (n : Int) := by
  unfold U64 at h
  unfold IntKind.wrap
  simp [IntKind.bits, IntKind.signed]
  omega
/-- 'append(v, xs...)' on bytes, as a step of a region that draws. -/
theorem step_appB' {ops : Array Oper} {o : Oper} {a : Act} {w : World} {K : Act → World → Prop} {Q : Exit → Act → World → Prop} {E : Prop} (hgd : o.guard = none) (s x : Operand)
    (ho : o.op = .call { callee := .builtin .append, args := #[s, x], argTypes := #[27, 27] })
    (B : Nat) (v : Value) (bs : List UInt8) (hs : a.eval s = v) (hown : OwnB w B v bs)
    (A : Option Addr) (m c : Nat) (ns : List UInt8) (hx : a.eval x = .slice A m c) (hm : ns.length = m) (hr : Rd w A (ns.map bv))
    (hlen : bs.length + m ≤ 140737488355328) (hB : B ≤ w.heap.size)
    (h : ∀ v' w', Hid (OwnB w' B v' (bs ++ ns)) → Below B w w' → w.grownBy w' v.ownBlock → (v'.ownBlock = v.ownBlock ∨ v'.ownBlock = some w.heap.size) → K (a.put o.dst v') w') :
    if Region.wanted o (yielded ops a.tmps) = true then Oper.wp Try.prog o a w K Q else E := by
  rw [if_pos (wanted_none hgd)]
  obtain ⟨i0, hi, hz0, hz1, hz2⟩ := info_parts info_u8
  obtain ⟨v', w', hrun, h2, h3, h4⟩ := run_app (P := Try.prog) w B 27 o.type 5 i0 (.int .u8 0) 1 Try.underlying27 hi hz0 hz1 hz2 rfl v (bs.map bv) hown A m c (ns.map bv) (by simpa using hm) hr (bv_one _) (by simp only [List.length_map, maxLen]; omega) (by simp only [List.length_map]; omega) hB
  unfold Oper.wp execOp
  simp only [ho, resolve, invoke, builtin, Sem.run_bind, Sem.run_pure, Result.andThen_ok, List.map_toArray, List.map_cons, List.map_nil, hs, hx, hrun]
  exact h v' w' (Lib.hid (by simpa [OwnB] using h2)) ((Below.refl B w).grown h3 hB (fun k e => (Own.lt hown k e).1)) h3 h4

/-- Block g holds an event. -/
def Evx (w : World) (g K0 X Y Z : Nat) (At : Option Addr) (m cm : Nat) : Prop := w.heap[g]? = some (.cells #[.int .i64 (K0 : Int), .slice At m cm, .int .i64 (X : Int), .int .i64 (Y : Int), .int .i64 (Z : Int)] 36 (0, 0))
theorem Evx.five {w : World} {g K0 X Y Z m cm : Nat} {At : Option Addr} (h : Evx w g K0 X Y Z At m cm) : w.cell? ⟨g, 0, none⟩ = some (.int .i64 (K0 : Int)) ∧ w.cell? ⟨g, 1, none⟩ = some (.slice At m cm) ∧ w.cell? ⟨g, 2, none⟩ = some (.int .i64 (X : Int)) ∧ w.cell? ⟨g, 3, none⟩ = some (.int .i64 (Y : Int)) ∧ w.cell? ⟨g, 4, none⟩ = some (.int .i64 (Z : Int)) :=
  ⟨by rw [heap_cell h]; rfl, by rw [heap_cell h]; rfl, by rw [heap_cell h]; rfl, by rw [heap_cell h]; rfl, by rw [heap_cell h]; rfl⟩
theorem Evx.keep {w w' : World} {g K0 X Y Z m cm : Nat} {At : Option Addr} (h : Evx w g K0 X Y Z At m cm) (hb : w'.heap[g]? = w.heap[g]?) : Evx w' g K0 X Y Z At m cm := hb.trans h
theorem Evx.below {w w' : World} {g K0 X Y Z m cm : Nat} {At : Option Addr} (h : Evx w g K0 X Y Z At m cm) (hb : Below w.heap.size w w') : Evx w' g K0 X Y Z At m cm := h.keep (hb.block g (heap_lt h))
/-- The state of Encode's loop within a round: the bytes so far, the version's box, the event's box. -/
structure ES (w0 : World) (f : Bool) (g8 g11 K0 X Y Z : Nat) (At : Option Addr) (m cm : Nat) (w : World) (v : Value) (P : List UInt8) : Prop where
  own : OwnB w (g8 + 1) v P
  c8 : w.cell? ⟨g8, 0, none⟩ = some (.bool f)
  ev : Evx w g11 K0 X Y Z At m cm
  kb : Below w0.heap.size w0 w
  lo : w0.heap.size ≤ g8
  hi : g8 + 1 ≤ g11
  z : g11 + 1 ≤ w.heap.size
  ne : ∀ q, v.ownBlock = some q → q ≠ g11
section
variable {w0 w w' : World} {f : Bool} {g8 g11 K0 X Y Z m cm : Nat} {At : Option Addr} {v v' : Value} {P N : List UInt8}
theorem ES.call (h : ES w0 f g8 g11 K0 X Y Z At m cm w v P) (hb : Below w.heap.size w w') : ES w0 f g8 g11 K0 X Y Z At m cm w' v P :=
  ⟨Own.below h.own hb, (hb.cell (p := ⟨g8, 0, none⟩) (by have := h.hi; have := h.z; show g8 < _; omega)).trans h.c8, h.ev.below hb, h.kb.trans (hb.mono h.kb.size), h.lo, h.hi, Nat.le_trans h.z hb.size, h.ne⟩
theorem ES.drewN (h : ES w0 f g8 g11 K0 X Y Z At m cm w v P) (q : Nat) : ES w0 f g8 g11 K0 X Y Z At m cm (w.drewN q) v P :=
  ⟨h.own, h.c8, h.ev, below_drewN h.kb q, h.lo, h.hi, h.z, h.ne⟩
theorem ES.app (h : ES w0 f g8 g11 K0 X Y Z At m cm w v P) (ho : OwnB w' (g8 + 1) v' (P ++ N)) (hg : w.grownBy w' v.ownBlock) (hv : v'.ownBlock = v.ownBlock ∨ v'.ownBlock = some w.heap.size) : ES w0 f g8 g11 K0 X Y Z At m cm w' v' (P ++ N) := by
  have hlt := Own.lt h.own
  have hz := h.z
  have hh := h.hi
  have hlo := h.lo
  refine ⟨ho, hg.cell h.c8 (fun e => ?_), h.ev.keep (hg.block g11 (by omega) (fun e => ?_)), h.kb.grown hg h.kb.size (fun q e => ?_), h.lo, h.hi, Nat.le_trans hz hg.size, fun q e => ?_⟩
  · have := (hlt g8 e.symm).1; omega
  · exact h.ne g11 e.symm rfl
  · have := (hlt q e).1; omega
  · rcases hv with hv | hv
    · exact h.ne q (hv.symm.trans e)
    · rw [hv] at e; injection e with e; omega
theorem ES.cells (h : ES w0 f g8 g11 K0 X Y Z At m cm w v P) : w.cell? ⟨g8, 0, none⟩ = some (.bool f) ∧ w.cell? ⟨g11, 0, none⟩ = some (.int .i64 (K0 : Int)) ∧ w.cell? ⟨g11, 1, none⟩ = some (.slice At m cm) ∧ w.cell? ⟨g11, 2, none⟩ = some (.int .i64 (X : Int)) ∧ w.cell? ⟨g11, 3, none⟩ = some (.int .i64 (Y : Int)) ∧ w.cell? ⟨g11, 4, none⟩ = some (.int .i64 (Z : Int)) :=
  ⟨h.c8, h.ev.five⟩
theorem ES.cellsH (h : Hid (ES w0 f g8 g11 K0 X Y Z At m cm w v P)) : w.cell? ⟨g8, 0, none⟩ = some (.bool f) ∧ w.cell? ⟨g11, 0, none⟩ = some (.int .i64 (K0 : Int)) ∧ w.cell? ⟨g11, 1, none⟩ = some (.slice At m cm) ∧ w.cell? ⟨g11, 2, none⟩ = some (.int .i64 (X : Int)) ∧ w.cell? ⟨g11, 3, none⟩ = some (.int .i64 (Y : Int)) ∧ w.cell? ⟨g11, 4, none⟩ = some (.int .i64 (Z : Int)) := h.out.cells
end
theorem keep1 {g : Nat} {u : Value} {a b : World} (h : a.cell? ⟨g, 0, none⟩ = some u) (hb : Below (g + 1) a b) : b.cell? ⟨g, 0, none⟩ = some u :=
  (hb.cell (p := ⟨g, 0, none⟩) (Nat.lt_succ_self _)).trans h

set_option maxRecDepth 100000 in
set_option maxHeartbeats 4000000 in
theorem Encode_c (ok : Nat → Prop) (ver : Int) (base : Nat) (A : Option Addr) (n c : Nat) (ds : List EvV) (es : List Ev) (w : World) (hu : U64 base) (hn : es.length = n) (hr : EvsR ok w A ds es) (hl : n ≤ 140737488355328) :
    Calls Try.prog 19 #[.int .i64 ver, .int .u64 base, .slice A n c] w fun r w' => ∃ v, r = .returned (.tuple #[v, .int .i64 ((encE ver base es).2 : Int)]) ∧ OwnB w' w.heap.size v (encE ver base es).1 ∧ Below w.heap.size w w' := by
  have HN := Lib.hid hn; clear hn
  obtain ⟨L, er, eR⟩ : ∃ L er, encE ver base es = (L, er) := ⟨_, _, rfl⟩
  rw [eR]
  have ER := Lib.hid eR; clear eR
  show Calls _ _ _ _ fun r w' => ∃ v, r = .returned (.tuple #[v, .int .i64 (er : Int)]) ∧ OwnB w' w.heap.size v L ∧ Below w.heap.size w w'
  rcases Int.lt_or_le ver 1 with v1 | v1
  · have hR : encE ver base es = ([], 1) := by rw [encE, if_pos (.inl v1)]
    rw [ER.out] at hR
    injection hR with r1 r2
    subst r1 r2
    go_enter Try.func19, Try.ntmps19
    go_wp2_with (fail)
    go_ret2
    exact ⟨_, rfl, Own.nil_ _ _ _, Below.refl _ _⟩
  rcases Int.lt_or_le 3 ver with v3 | v3
  · have hR : encE ver base es = ([], 1) := by rw [encE, if_pos (.inr (.inl v3))]
    rw [ER.out] at hR
    injection hR with r1 r2
    subst r1 r2
    go_enter Try.func19, Try.ntmps19
    go_wp2_with (fail)
    go_ret2
    exact ⟨_, rfl, Own.nil_ _ _ _, Below.refl _ _⟩
  rcases Nat.eq_zero_or_pos n with h0 | h0
  · have hR : encE ver base es = ([], 1) := by rw [encE, if_pos (.inr (.inr (.inl (List.eq_nil_of_length_eq_zero (HN.out.trans h0)))))]
    rw [ER.out] at hR
    injection hR with r1 r2
    subst r1 r2 h0
    go_enter Try.func19, Try.ntmps19
    go_wp2_with (fail)
    go_ret2
    exact ⟨_, rfl, Own.nil_ _ _ _, Below.refl _ _⟩
  have hne : es ≠ [] := by intro e; have := HN.out; rw [e] at this; simp at this; omega
  have HNE := Lib.hid hne; clear hne
  have d1 : decide (ver < 1) = false := decide_eq_false (by omega)
  have d2 : decide (3 < ver) = false := decide_eq_false (by omega)
  have d3 : ((n : Int) == 0) = false := by rw [beq_eq_false_iff_ne]; omega
  obtain ⟨M, eM⟩ : ∃ M, M = es.all Ev.may := ⟨_, rfl⟩
  have EM := Lib.hid eM
  go_enter Try.func19, Try.ntmps19
  go_wp2_with (fail)
  refine (ContF_c ok A n c ds es w HN.out hr hl).mono ?_
  rintro r w1 ⟨rfl, kb1⟩
  rw [← eM]
  clear eM
  cases M with
  | false =>
    have hR : encE ver base es = ([], 1) := by rw [encE, if_pos (.inr (.inr (.inr EM.out.symm)))]
    rw [ER.out] at hR
    injection hR with r1 r2
    subst r1 r2
    go_wp2_with (fail)
    go_ret2
    exact ⟨_, rfl, Own.nil_ _ _ _, kb1⟩
  | true =>
    have hnb : ¬ (ver < 1 ∨ 3 < ver ∨ es = [] ∨ es.all Ev.may = false) := by
      rintro (h | h | h | h)
      · omega
      · omega
      · exact HNE.out h
      · rw [← EM.out] at h; cases h
    by_cases hbig : 16 < n
    · have hR : encE ver base es = ([], 4) := by rw [encE, if_neg hnb, if_pos (by rw [HN.out]; exact hbig)]
      rw [ER.out] at hR
      injection hR with r1 r2
      subst r1 r2
      have hbig' : (16 : Int) < (n : Int) := by omega
      clear hnb
      go_wp2_with (fail)
      go_ret2
      exact ⟨_, rfl, Own.nil_ _ _ _, kb1⟩
    · have hR : encE ver base es = (encL (decide (ver = 1)) base es, 0) := by rw [encE, if_neg hnb, if_neg (by rw [HN.out]; exact hbig)]
      rw [ER.out] at hR
      injection hR with r1 r2
      subst r2
      have hsm : n ≤ 16 := by omega
      have hsm' : (n : Int) ≤ 16 := by omega
      clear hbig hnb
      obtain ⟨f, ef⟩ : ∃ f, f = decide (ver = 1) := ⟨_, rfl⟩
      have efv : (ver == 1) = f := by rw [ef]; rfl
      rw [← ef] at r1
      have R1 := Lib.hid r1; clear r1 ef
      have wn := u64_wrap (u64_small (n := n) (by omega))
      have k2 := kb1.alloc kb1.size (.cells #[.bool f] 111)
      obtain ⟨w2, ew2⟩ : ∃ w2, w2 = w1.alloc (.cells #[.bool f] 111) := ⟨_, rfl⟩
      have c8 : w2.cell? ⟨w1.heap.size, 0, none⟩ = some (.bool f) := by rw [ew2, cell_of_row _ _ 0 _ _ (0, 0) (heap_alloc_new w1 _)]; rfl
      have s2 : w1.heap.size + 1 = w2.heap.size := by rw [ew2]; simp
      rw [← ew2] at k2
      obtain ⟨g8, eg8⟩ : ∃ g8, g8 = w1.heap.size := ⟨_, rfl⟩
      rw [← eg8] at c8 s2
      have hg8 : w.heap.size ≤ g8 := by rw [eg8]; exact kb1.size
      clear d1 d2 d3
      have HR := Lib.hid hr; clear hr
      go_wp2_with (fail)
      rw [← ew2, ← eg8]
      clear ew2 eg8
      have kr0 : Below w.heap.size w w2.drew := below_drewN k2 1
      have hu1 : U64 n := u64_small (by omega)
      go_region_held3 (fun w' => w'.cell? ⟨g8, 0, none⟩ = some (.bool f)) (first | exact c8 | exact keep1 (by with_reducible assumption) (by with_reducible assumption)) (first
        | (go_at_call 60; (with_reducible refine (put_c f base 8 _ hu).mono ?_); rintro _ w3 ⟨v3, rfl, ho3, hb3⟩; have hk3 : Below (g8 + 1) _ w3 := hb3.mono (Nat.le_of_eq s2); have HO3 : Hid (OwnB w3 (g8 + 1) v3 _) := Lib.hid (Own.low ho3 (Nat.le_of_eq s2)); have z3 : g8 + 1 ≤ w3.heap.size := Nat.le_trans (Nat.le_of_eq s2) hb3.size; clear ho3 hb3)
        | (go_at_call 60; (with_reducible refine (put_c f n 1 _ hu1).mono ?_); rintro _ w5 ⟨v5, rfl, ho5, hb5⟩; have hk5 : Below (g8 + 1) _ w5 := hb5.mono z3; have HO5 : Hid (OwnB w5 (g8 + 1) v3 _) := Lib.hid (Own.below (Own.drewN HO3.out 0) hb5); obtain ⟨A5, c5, rfl, _, _, r5, _⟩ := OwnB.form ho5; have R5 := Lib.hid r5; have z5 : g8 + 1 ≤ w5.heap.size := Nat.le_trans z3 hb5.size; clear ho5 hb5 r5)
        | ((refine step_appB' rfl (.tmp 37) (.tmp 42) rfl (g8 + 1) _ _ rfl HO5.out A5 _ c5 (putL f n 1) rfl rfl R5.out (by have := putL_le f base 8 hu; have := putL_le f n 1 hu1; omega) z5 ?_); intro v7 w7 HO7 hk7 hg7 _))
      have hlow : w.heap.size ≤ g8 + 1 := by omega
      have k7 : Below w.heap.size w w7 := ((kr0.trans (hk3.mono hlow)).trans (hk5.mono hlow)).trans (hk7.mono hlow)
      have c7 : w7.cell? ⟨g8, 0, none⟩ = some (.bool f) := keep1 (keep1 (keep1 (show w2.drew.cell? ⟨g8, 0, none⟩ = some (.bool f) from c8) hk3) hk5) hk7
      have z7 : g8 + 1 ≤ w7.heap.size := Nat.le_trans z5 hk7.size
      have HO : Hid (OwnB w7 (g8 + 1) v7 (preL f base n (es.take 0))) := by
        have : preL f base n (es.take 0) = putL f base 8 ++ putL f n 1 := by rw [List.take_zero, preL]; simp [evsL]
        rw [this]; exact HO7
      clear c8 kr0 hk3 HO3 z3 hk5 HO5 R5 z5 HO7 hk7 hg7 k2 s2 kb1
      have hr' : EvsR ok w A ds es := HR.out
      go_wp2_with (fail)
      go_loopw [9, 46] (fun vb i wr => ∃ (k : Nat), k ≤ n ∧ i = .int .i64 k ∧ Hid (OwnB wr (g8 + 1) vb (preL f base n (es.take k))) ∧ Hid (wr.cell? ⟨g8, 0, none⟩ = some (.bool f)) ∧ Below w.heap.size w wr ∧ g8 + 1 ≤ wr.heap.size) (fun _ i _ => n - (intOf i).toNat)
      case atStart => exact ⟨0, Nat.zero_le _, rfl, HO, Lib.hid c7, k7, z7⟩
      case round =>
        clear HO c7 k7 z7
        obtain ⟨k, hk, rfl, HO, C7, kb, z7⟩ := hrel
        have hpl := preL_le f base n (es.take k) hu hsm (all_take EM.out.symm k) (by rw [List.length_take]; omega)
        obtain ⟨P, eP⟩ : ∃ P, P = preL f base n (es.take k) := ⟨_, rfl⟩
        rw [← eP] at HO hpl
        have EP := Lib.hid eP; clear eP
        rcases Nat.lt_or_ge k n with hlt | hge
        · obtain ⟨e, b1, o1, At, m, cm, ee, rfl, hb1, -, tt, c0, ca, cb, cc, cd⟩ := hr'.at_ k (by rw [HN.out]; exact hlt)
          have hmay : e.may = true := by
            have := EM.out.symm
            rw [List.all_eq_true] at this
            rw [ee]
            exact this _ (List.getElem_mem _)
          obtain ⟨q0, q1, q2, q3, q4, q5, q6, q7⟩ := may_bounds hmay
          have hnext : preL f base n (es.take (k + 1)) = P ++ evL f e := by
            rw [EP.out, ee, preL, preL, evsL_take f es k (by rw [HN.out]; exact hlt)]; simp only [List.append_assoc]
          have HX := Lib.hid hnext; clear hnext ee hmay
          obtain ⟨t1, t2, t3, t4, -, t5⟩ := tt
          obtain ⟨z0, t, z2, z3, z4⟩ := e
          simp only at c0 ca cb cc cd t1 t2 q0 q1 q2 q3 q4 q5 q6 q7
          obtain ⟨K0, rfl⟩ : ∃ K0 : Nat, z0 = (K0 : Int) := ⟨z0.toNat, by omega⟩
          obtain ⟨X, rfl⟩ : ∃ X : Nat, z2 = (X : Int) := ⟨z2.toNat, by omega⟩
          obtain ⟨Y, rfl⟩ : ∃ Y : Nat, z3 = (Y : Int) := ⟨z3.toNat, by omega⟩
          obtain ⟨Z, rfl⟩ : ∃ Z : Nat, z4 = (Z : Int) := ⟨z4.toNat, by omega⟩
          rw [t1] at q1
          have T1 := Lib.hid t1; clear t1
          rw [← kb.cell (p := ⟨b1, _, none⟩) hb1] at c0 ca cb cc cd
          have uK : U64 K0 := u64_small (by omega)
          have uX : U64 X := u64_small (by omega)
          have uY : U64 Y := u64_small (by omega)
          have uZ : U64 Z := u64_small (by omega)
          have uM : U64 m := u64_small (by omega)
          have wK := u64_wrap uK
          have wX := u64_wrap uX
          have wY := u64_wrap uY
          have wZ := u64_wrap uZ
          have wM := u64_wrap uM
          have hlt' : (k : Int) < (n : Int) := by omega
          obtain ⟨wa, ewa⟩ : ∃ wa, wa = wr.alloc (.cells #[.int .i64 (K0 : Int), .slice At m cm, .int .i64 (X : Int), .int .i64 (Y : Int), .int .i64 (Z : Int)] 36) := ⟨_, rfl⟩
          obtain ⟨g11, eg⟩ : ∃ g11, g11 = wr.heap.size := ⟨_, rfl⟩
          have hga : wr.heap.size + 1 = wa.heap.size := by rw [ewa]; simp
          have ab : Below wr.heap.size wr wa := by rw [ewa]; exact (Below.refl _ _).alloc (Nat.le_refl _) _
          have ev : Evx wa g11 K0 X Y Z At m cm := by rw [ewa, eg]; exact heap_alloc_new wr _
          have c8 := (ab.cell (p := ⟨g8, 0, none⟩) (by show g8 < _; omega)).trans C7.out
          have HOa := Lib.hid (show OwnB wa (g8 + 1) _ P from Own.below HO.out ab)
          have ka := kb.trans (ab.mono kb.size)
          rw [← eg] at hga
          have hg11 : g8 + 1 ≤ g11 := by rw [eg]; exact z7
          have T2 := Lib.hid t2
          have EV := Lib.hid ev
          have EWA := Lib.hid ewa
          have EG := Lib.hid eg
          clear ab t2
          have c8a := c8
          rw [ewa] at c8a
          clear ewa eg ev
          go_wp2_with (fail)
          rw [← EG.out, ← EWA.out]
          have hES : ES w f g8 g11 K0 X Y Z At m cm wa u9 P := ⟨HOa.out, c8, EV.out, ka, hg8, hg11, Nat.le_of_eq hga, fun q eq => by have := (Own.lt HO.out q eq).2; have := EG.out; omega⟩
          have H2 := Lib.hid hES; clear hES
          clear c8a EWA EG HOa c8 EV ka hga hg11 HO
          refine (put_c f K0 1 wa uK).mono ?_
          rintro r w3 ⟨v3, rfl, ho3, hb3⟩
          obtain ⟨A3, c3, rfl, _, _, r3, _⟩ := OwnB.form ho3
          have H3 := Lib.hid (H2.out.call hb3)
          have R3 := Lib.hid r3
          have l3 := putL_le f K0 1 uK
          have s3 : g8 + 1 ≤ w3.heap.size := by have := H3.out.z; have := H3.out.hi; omega
          clear ho3 hb3 r3 H2
          go_wp2_with (first | (at_builtin; refine wpList_appB _ rfl (.tmp 50) (.tmp 55) rfl (g8 + 1) _ _ rfl H3.out.own A3 _ c3 (putL f K0 1) rfl rfl R3.out (by omega) s3 ?_; intro v4 w4 h4 hg4 hv4; have H4 := Lib.hid (H3.out.app h4 hg4 hv4); clear h4 hg4 hv4; obtain ⟨_, e0, -⟩ := H4.out.cells))
          refine (most_c (K0 : Int) w4).mono ?_
          rintro r w5 ⟨rfl, rfl⟩
          have HM : Hid (mostI (K0 : Int) = if (K0 : Int) = 1 then 8 else if (K0 : Int) = 2 then 64 else -1) := Lib.hid rfl
          have HEV : Hid (evL f ⟨(K0 : Int), t, (X : Int), (Y : Int), (Z : Int)⟩ = putL f K0 1 ++ (if (K0 : Int) = 1 ∨ (K0 : Int) = 2 then putL f m 1 ++ t else putL f X 1 ++ putL f Y 1 ++ (if (K0 : Int) = 3 then putL f Z 1 else []))) := Lib.hid (by unfold evL; simp only [Int.toNat_natCast, T1.out])
          generalize mostI (K0 : Int) = MM at HM ⊢
          have lM := putL_le f m 1 uM
          have lX := putL_le f X 1 uX
          have lY := putL_le f Y 1 uY
          have lZ := putL_le f Z 1 uZ
          have l4 : (P ++ putL f K0 1).length ≤ 2010 := by rw [List.length_append]; omega
          obtain ⟨P4, eP4⟩ : ∃ P4, P4 = P ++ putL f K0 1 := ⟨_, rfl⟩
          rw [← eP4] at H4 l4
          have hnx : preL f base n (es.take (k + 1)) = P4 ++ (if (K0 : Int) = 1 ∨ (K0 : Int) = 2 then putL f m 1 ++ t else putL f X 1 ++ putL f Y 1 ++ (if (K0 : Int) = 3 then putL f Z 1 else [])) := by rw [HX.out, HEV.out, eP4]; simp only [List.append_assoc]
          have HNX := Lib.hid hnx
          have HD4 := Lib.hid (H4.out.drewN 1)
          have s4 : g8 + 1 ≤ w4.heap.size := by have := H4.out.z; have := H4.out.hi; omega
          clear hnx eP4 HX HEV H3 R3 l3 s3 EP hpl e0 c0 ca cb cc cd
          rcases Nat.lt_or_ge 2 K0 with hK | hK
          · have hMM : MM = -1 := by rw [HM.out, if_neg (by omega), if_neg (by omega)]
            subst hMM
            have hnx := HNX.out
            rw [if_neg (by omega)] at hnx
            have HN2 := Lib.hid hnx; clear hnx HNX HM
            go_wp2_with (fail)
            go_region_held3 (fun w' => w'.cell? ⟨g8, 0, none⟩ = some (.bool f) ∧ w'.cell? ⟨g11, 0, none⟩ = some (.int .i64 (K0 : Int)) ∧ w'.cell? ⟨g11, 1, none⟩ = some (.slice At m cm) ∧ w'.cell? ⟨g11, 2, none⟩ = some (.int .i64 (X : Int)) ∧ w'.cell? ⟨g11, 3, none⟩ = some (.int .i64 (Y : Int)) ∧ w'.cell? ⟨g11, 4, none⟩ = some (.int .i64 (Z : Int))) (first | exact ES.cellsH (by with_reducible assumption) | exact HD4.out.cells) (first
              | (go_at_call 60; (with_reducible refine (put_c f X 1 _ uX).mono ?_); rintro _ w6 ⟨v6, rfl, ho6, hb6⟩; obtain ⟨A6, c6, rfl, _, _, r6, _⟩ := OwnB.form ho6; have H6 := Lib.hid (HD4.out.call hb6); have R6 := Lib.hid r6; have s6 : g8 + 1 ≤ w6.heap.size := Nat.le_trans s4 hb6.size; clear ho6 hb6 r6)
              | ((refine step_appB' rfl (.tmp 72) (.tmp 77) rfl (g8 + 1) _ _ rfl H6.out.own A6 _ c6 (putL f X 1) rfl rfl R6.out (by omega) s6 ?_); intro v7 w7 HO7 hk7 hg7 hv7; have H7 := Lib.hid (H6.out.app HO7.out hg7 hv7); have s7 : g8 + 1 ≤ w7.heap.size := Nat.le_trans s6 hk7.size; clear HO7 hk7 hg7 hv7)
              | (go_at_call 60; (with_reducible refine (put_c f Y 1 _ uY).mono ?_); rintro _ w8 ⟨v8, rfl, ho8, hb8⟩; obtain ⟨A8, c8', rfl, _, _, r8, _⟩ := OwnB.form ho8; have H8 := Lib.hid (H7.out.call hb8); have R8 := Lib.hid r8; have s8 : g8 + 1 ≤ w8.heap.size := Nat.le_trans s7 hb8.size; clear ho8 hb8 r8)
              | ((refine step_appB' rfl (.tmp 78) (.tmp 83) rfl (g8 + 1) _ _ rfl H8.out.own A8 _ c8' (putL f Y 1) rfl rfl R8.out (by rw [List.length_append]; omega) s8 ?_); intro v9 w9 HO9 hk9 hg9 hv9; have H9 := Lib.hid (H8.out.app HO9.out hg9 hv9); clear HO9 hk9 hg9 hv9))
            all_goals
              obtain ⟨P9, eP9⟩ : ∃ P9, P9 = P4 ++ putL f X 1 ++ putL f Y 1 := ⟨_, rfl⟩
              rw [← eP9] at H9
              have l9 : P9.length ≤ 2040 := by rw [eP9, List.length_append, List.length_append]; omega
              have hn9 : preL f base n (es.take (k + 1)) = P9 ++ (if (K0 : Int) = 3 then putL f Z 1 else []) := by
                rw [HN2.out, eP9]; simp only [List.append_assoc]
              have HN9 := Lib.hid hn9; clear hn9 eP9 HN2
              have s9 : g8 + 1 ≤ w9.heap.size := by have := H9.out.z; have := H9.out.hi; omega
              clear H6 H7 H8 R6 R8 s6 s7 s8 HD4 H4 s4
              obtain ⟨c8, e0, -, -, -, e4⟩ := H9.out.cells
              by_cases h3 : K0 = 3
              · have e3 : ((K0 : Int) == 3) = true := by rw [beq_iff_eq]; omega
                have hnx := HN9.out
                rw [if_pos (by omega)] at hnx
                have HNA := Lib.hid hnx; clear hnx HN9 h3
                go_wp2_with (fail)
                refine (put_c f Z 1 w9 uZ).mono ?_
                rintro r wb ⟨vb, rfl, hob, hbb⟩
                obtain ⟨Ab, cb, rfl, _, _, rb, _⟩ := OwnB.form hob
                have HB := Lib.hid (H9.out.call hbb)
                have RB := Lib.hid rb
                have sb : g8 + 1 ≤ wb.heap.size := Nat.le_trans s9 hbb.size
                clear hob hbb rb H9 c8 e0 e4
                go_wp2_with (first | (at_builtin; refine wpList_appB _ rfl (.tmp 88) (.tmp 93) rfl (g8 + 1) _ _ rfl HB.out.own Ab _ cb (putL f Z 1) rfl rfl RB.out (by omega) sb ?_; intro vd wd hd hgd hvd; have HDD := Lib.hid (HB.out.app hd hgd hvd); clear hd hgd hvd))
                have hfin : OwnB wd (g8 + 1) vd (preL f base n (es.take (k + 1))) := by
                  rw [HNA.out]; exact HDD.out.own
                have HFIN := Lib.hid hfin; clear hfin
                have s8 : g8 + 1 ≤ wd.heap.size := by have := HDD.out.z; have := HDD.out.hi; omega
                have C8 := Lib.hid HDD.out.c8
                have kb8 := HDD.out.kb
                go_roundw
                case rel => exact ⟨k + 1, by omega, by go_num, HFIN, C8, kb8, s8⟩
                case measure => simp [intOf]; omega
              · have e3 : ((K0 : Int) == 3) = false := by rw [beq_eq_false_iff_ne]; omega
                have hnx := HN9.out
                rw [if_neg (by omega), List.append_nil] at hnx
                have HNA := Lib.hid hnx; clear hnx HN9 h3
                have hfin : OwnB w9 (g8 + 1) v9 (preL f base n (es.take (k + 1))) := by
                  rw [HNA.out]; exact H9.out.own
                have HFIN := Lib.hid hfin; clear hfin
                have C8 := Lib.hid H9.out.c8
                have kb8 := H9.out.kb
                clear e4 c8
                go_wp2_with (fail)
                go_roundw
                case rel => exact ⟨k + 1, by omega, by go_num, HFIN, C8, kb8, s9⟩
                case measure => simp [intOf]; omega
          · have hMM : 0 ≤ MM := by
              rw [HM.out]
              split
              · decide
              · rw [if_pos (by omega)]; decide
            have hnx := HNX.out
            rw [if_pos (by omega)] at hnx
            have HN2 := Lib.hid hnx; clear hnx HNX HM
            go_wp2_with (fail)
            go_region_held3 (fun w' => w'.cell? ⟨g8, 0, none⟩ = some (.bool f) ∧ w'.cell? ⟨g11, 0, none⟩ = some (.int .i64 (K0 : Int)) ∧ w'.cell? ⟨g11, 1, none⟩ = some (.slice At m cm) ∧ w'.cell? ⟨g11, 2, none⟩ = some (.int .i64 (X : Int)) ∧ w'.cell? ⟨g11, 3, none⟩ = some (.int .i64 (Y : Int)) ∧ w'.cell? ⟨g11, 4, none⟩ = some (.int .i64 (Z : Int))) (first | exact ES.cellsH (by with_reducible assumption) | exact HD4.out.cells) (first
              | (go_at_call 60; (with_reducible refine (put_c f m 1 _ uM).mono ?_); rintro _ w6 ⟨v6, rfl, ho6, hb6⟩; obtain ⟨A6, c6, rfl, _, _, r6, _⟩ := OwnB.form ho6; have H6 := Lib.hid (HD4.out.call hb6); have R6 := Lib.hid r6; have s6 : g8 + 1 ≤ w6.heap.size := Nat.le_trans s4 hb6.size; clear ho6 hb6 r6)
              | ((refine step_appB' rfl (.tmp 61) (.tmp 67) rfl (g8 + 1) _ _ rfl H6.out.own A6 _ c6 (putL f m 1) rfl rfl R6.out (by omega) s6 ?_); intro v7 w7 HO7 hk7 hg7 hv7; have H7 := Lib.hid (H6.out.app HO7.out hg7 hv7); have s7 : g8 + 1 ≤ w7.heap.size := Nat.le_trans s6 hk7.size; clear HO7 hk7 hg7 hv7)
              | ((refine step_appB' rfl (.tmp 68) (.tmp 70) rfl (g8 + 1) _ _ rfl H7.out.own At m cm t rfl T1.out (T2.out.below H7.out.kb) (by rw [List.length_append]; omega) s7 ?_); intro v8 w8 HO8 hk8 hg8' hv8; have H8 := Lib.hid (H7.out.app HO8.out hg8' hv8); clear HO8 hk8 hg8' hv8))
            all_goals
              have hfin : OwnB w8 (g8 + 1) v8 (preL f base n (es.take (k + 1))) := by
                rw [HN2.out, ← List.append_assoc]; exact H8.out.own
              have HFIN := Lib.hid hfin; clear hfin
              have s8 : g8 + 1 ≤ w8.heap.size := by have := H8.out.z; have := H8.out.hi; omega
              have C8 := Lib.hid H8.out.c8
              have kb8 := H8.out.kb
              clear H6 H7 H8 R6 s6 s7 HD4 H4 s4 HN2
              go_wp2_with (fail)
              go_roundw
              case rel => exact ⟨k + 1, by omega, by go_num, HFIN, C8, kb8, s8⟩
              case measure => simp [intOf]; omega
        · obtain rfl : n = k := by omega
          have hfin : OwnB wr w.heap.size u9 L := by
            have h := HO.out
            rw [EP.out, ← HN.out, List.take_length] at h
            rw [R1.out]
            exact Own.low h (by omega)
          have HFIN := Lib.hid hfin; clear hfin HO EP hpl
          go_wp2_with (fail)
          go_ret2
          exact ⟨_, rfl, HFIN.out, kb⟩
end Go.Proofs.Ytgnciejbhaebeaa
