/- Parts one behind the other: What keys.Encode answers: a batch's bytes in a version, or an error; What the reference's Encode answers: a batch's bytes in a version, or an error; What fixed of the law of layer 24 answers: true; What great answers of events; What the reference's Same answers of the same events. Conditions: as told at each. -/
import Derived.Test.YtgnciejbhaebeaaPKeysPrefix2
import Derived.Deep.RegionHeld3
import Derived.Test.YtgnciejbhaebeaaPKeysPrefix3
import Derived.Test.YtgnciejbhaebeaaPKeysPrefix1

/- What keys.Encode answers: a batch's bytes in a version, or an error. Conditions: events that can be read; lengths that fit. -/
namespace Go.Proofs.Ytgnciejbhaebeaa
open Go Go.RowKit

theorem u64_wrap {n : Nat} (h : U64 n) : IntKind.u64.wrap (n : Int) = (n : Int) := by
  unfold U64 at h
  unfold IntKind.wrap
  simp [IntKind.bits, IntKind.signed]
  omega
/-- 'append(v, xs...)' on bytes, as a step of a region that draws. -/
theorem step_appB' {ops : Array Oper} {o : Oper} {a : Act} {w : World} {K : Act → World → Prop} {Q : Exit → Act → World → Prop} {E : Prop} (hgd : o.guard = none) (s x : Operand)
    (ho : o.op = .call { callee := .builtin .append, args := #[s, x], argTypes := #[27, 27] })
    (B : Nat) (v : Value) (bs : List UInt8) (hs : a.eval s = v) (hown : OwnB w B v bs)
    (A : Option Addr) (m c : Nat) (ns : List UInt8) (hx : a.eval x = .slice A m c) (hm : ns.length = m) (hr : Rd w A (ns.map bv))
    (hlen : bs.length + m ≤ 140737488355328) (hB : B ≤ w.heap.size)
    (h : ∀ v' w', Hid (OwnB w' B v' (bs ++ ns)) → Below B w w' → w.grownBy w' v.ownBlock → (v'.ownBlock = v.ownBlock ∨ v'.ownBlock = some w.heap.size) → K (a.put o.dst v') w') :
    if Region.wanted o (yielded ops a.tmps) = true then Oper.wp Try.prog o a w K Q else E := by
  rw [if_pos (wanted_none hgd)]
  obtain ⟨i0, hi, hz0, hz1, hz2⟩ := info_parts info_u8
  obtain ⟨v', w', hrun, h2, h3, h4⟩ := run_app (P := Try.prog) w B 27 o.type 5 i0 (.int .u8 0) 1 Try.underlying27 hi hz0 hz1 hz2 rfl v (bs.map bv) hown A m c (ns.map bv) (by simpa using hm) hr (bv_one _) (by simp only [List.length_map, maxLen]; omega) (by simp only [List.length_map]; omega) hB
  unfold Oper.wp execOp
  simp only [ho, resolve, invoke, builtin, Sem.run_bind, Sem.run_pure, Result.andThen_ok, List.map_toArray, List.map_cons, List.map_nil, hs, hx, hrun]
  exact h v' w' (Lib.hid (by simpa [OwnB] using h2)) ((Below.refl B w).grown h3 hB (fun k e => (Own.lt hown k e).1)) h3 h4

/-- Block g holds an event. -/
def Evx (w : World) (g K0 X Y Z : Nat) (At : Option Addr) (m cm : Nat) : Prop := w.heap[g]? = some (.cells #[.int .i64 (K0 : Int), .slice At m cm, .int .i64 (X : Int), .int .i64 (Y : Int), .int .i64 (Z : Int)] 36 (0, 0))
theorem Evx.five {w : World} {g K0 X Y Z m cm : Nat} {At : Option Addr} (h : Evx w g K0 X Y Z At m cm) : w.cell? ⟨g, 0, none⟩ = some (.int .i64 (K0 : Int)) ∧ w.cell? ⟨g, 1, none⟩ = some (.slice At m cm) ∧ w.cell? ⟨g, 2, none⟩ = some (.int .i64 (X : Int)) ∧ w.cell? ⟨g, 3, none⟩ = some (.int .i64 (Y : Int)) ∧ w.cell? ⟨g, 4, none⟩ = some (.int .i64 (Z : Int)) :=
  ⟨by rw [heap_cell h]; rfl, by rw [heap_cell h]; rfl, by rw [heap_cell h]; rfl, by rw [heap_cell h]; rfl, by rw [heap_cell h]; rfl⟩
theorem Evx.keep {w w' : World} {g K0 X Y Z m cm : Nat} {At : Option Addr} (h : Evx w g K0 X Y Z At m cm) (hb : w'.heap[g]? = w.heap[g]?) : Evx w' g K0 X Y Z At m cm := hb.trans h
theorem Evx.below {w w' : World} {g K0 X Y Z m cm : Nat} {At : Option Addr} (h : Evx w g K0 X Y Z At m cm) (hb : Below w.heap.size w w') : Evx w' g K0 X Y Z At m cm := h.keep (hb.block g (heap_lt h))
/-- The state of Encode's loop within a round: the bytes so far, the version's box, the event's box. -/
structure ES (w0 : World) (f : Bool) (g8 g11 K0 X Y Z : Nat) (At : Option Addr) (m cm : Nat) (w : World) (v : Value) (P : List UInt8) : Prop where
  own : OwnB w (g8 + 1) v P
  c8 : w.cell? ⟨g8, 0, none⟩ = some (.bool f)
  ev : Evx w g11 K0 X Y Z At m cm
  kb : Below w0.heap.size w0 w
  lo : w0.heap.size ≤ g8
  hi : g8 + 1 ≤ g11
  z : g11 + 1 ≤ w.heap.size
  ne : ∀ q, v.ownBlock = some q → q ≠ g11
section
variable {w0 w w' : World} {f : Bool} {g8 g11 K0 X Y Z m cm : Nat} {At : Option Addr} {v v' : Value} {P N : List UInt8}
theorem ES.call (h : ES w0 f g8 g11 K0 X Y Z At m cm w v P) (hb : Below w.heap.size w w') : ES w0 f g8 g11 K0 X Y Z At m cm w' v P :=
  ⟨Own.below h.own hb, (hb.cell (p := ⟨g8, 0, none⟩) (by have := h.hi; have := h.z; show g8 < _; omega)).trans h.c8, h.ev.below hb, h.kb.trans (hb.mono h.kb.size), h.lo, h.hi, Nat.le_trans h.z hb.size, h.ne⟩
theorem ES.drewN (h : ES w0 f g8 g11 K0 X Y Z At m cm w v P) (q : Nat) : ES w0 f g8 g11 K0 X Y Z At m cm (w.drewN q) v P :=
  ⟨h.own, h.c8, h.ev, below_drewN h.kb q, h.lo, h.hi, h.z, h.ne⟩
theorem ES.app (h : ES w0 f g8 g11 K0 X Y Z At m cm w v P) (ho : OwnB w' (g8 + 1) v' (P ++ N)) (hg : w.grownBy w' v.ownBlock) (hv : v'.ownBlock = v.ownBlock ∨ v'.ownBlock = some w.heap.size) : ES w0 f g8 g11 K0 X Y Z At m cm w' v' (P ++ N) := by
  have hlt := Own.lt h.own
  have hz := h.z
  have hh := h.hi
  have hlo := h.lo
  refine ⟨ho, hg.cell h.c8 (fun e => ?_), h.ev.keep (hg.block g11 (by omega) (fun e => ?_)), h.kb.grown hg h.kb.size (fun q e => ?_), h.lo, h.hi, Nat.le_trans hz hg.size, fun q e => ?_⟩
  · have := (hlt g8 e.symm).1; omega
  · exact h.ne g11 e.symm rfl
  · have := (hlt q e).1; omega
  · rcases hv with hv | hv
    · exact h.ne q (hv.symm.trans e)
    · rw [hv] at e; injection e with e; omega
theorem ES.cells (h : ES w0 f g8 g11 K0 X Y Z At m cm w v P) : w.cell? ⟨g8, 0, none⟩ = some (.bool f) ∧ w.cell? ⟨g11, 0, none⟩ = some (.int .i64 (K0 : Int)) ∧ w.cell? ⟨g11, 1, none⟩ = some (.slice At m cm) ∧ w.cell? ⟨g11, 2, none⟩ = some (.int .i64 (X : Int)) ∧ w.cell? ⟨g11, 3, none⟩ = some (.int .i64 (Y : Int)) ∧ w.cell? ⟨g11, 4, none⟩ = some (.int .i64 (Z : Int)) :=
  ⟨h.c8, h.ev.five⟩
theorem ES.cellsH (h : Hid (ES w0 f g8 g11 K0 X Y Z At m cm w v P)) : w.cell? ⟨g8, 0, none⟩ = some (.bool f) ∧ w.cell? ⟨g11, 0, none⟩ = some (.int .i64 (K0 : Int)) ∧ w.cell? ⟨g11, 1, none⟩ = some (.slice At m cm) ∧ w.cell? ⟨g11, 2, none⟩ = some (.int .i64 (X : Int)) ∧ w.cell? ⟨g11, 3, none⟩ = some (.int .i64 (Y : Int)) ∧ w.cell? ⟨g11, 4, none⟩ = some (.int .i64 (Z : Int)) := h.out.cells
end
theorem keep1 {g : Nat} {u : Value} {a b : World} (h : a.cell? ⟨g, 0, none⟩ = some u) (hb : Below (g + 1) a b) : b.cell? ⟨g, 0, none⟩ = some u :=
  (hb.cell (p := ⟨g, 0, none⟩) (Nat.lt_succ_self _)).trans h

set_option maxRecDepth 100000 in
set_option maxHeartbeats 4000000 in
theorem Encode_c (ok : Nat → Prop) (ver : Int) (base : Nat) (A : Option Addr) (n c : Nat) (ds : List EvV) (es : List Ev) (w : World) (hu : U64 base) (hn : es.length = n) (hr : EvsR ok w A ds es) (hl : n ≤ 140737488355328) :
    Calls Try.prog 19 #[.int .i64 ver, .int .u64 base, .slice A n c] w fun r w' => ∃ v, r = .returned (.tuple #[v, .int .i64 ((encE ver base es).2 : Int)]) ∧ OwnB w' w.heap.size v (encE ver base es).1 ∧ Below w.heap.size w w' := by
  have HN := Lib.hid hn; clear hn
  obtain ⟨L, er, eR⟩ : ∃ L er, encE ver base es = (L, er) := ⟨_, _, rfl⟩
  rw [eR]
  have ER := Lib.hid eR; clear eR
  show Calls _ _ _ _ fun r w' => ∃ v, r = .returned (.tuple #[v, .int .i64 (er : Int)]) ∧ OwnB w' w.heap.size v L ∧ Below w.heap.size w w'
  rcases Int.lt_or_le ver 1 with v1 | v1
  · have hR : encE ver base es = ([], 1) := by rw [encE, if_pos (.inl v1)]
    rw [ER.out] at hR
    injection hR with r1 r2
    subst r1 r2
    go_enter Try.func19, Try.ntmps19
    go_wp2_with (fail)
    go_ret2
    exact ⟨_, rfl, Own.nil_ _ _ _, Below.refl _ _⟩
  rcases Int.lt_or_le 3 ver with v3 | v3
  · have hR : encE ver base es = ([], 1) := by rw [encE, if_pos (.inr (.inl v3))]
    rw [ER.out] at hR
    injection hR with r1 r2
    subst r1 r2
    go_enter Try.func19, Try.ntmps19
    go_wp2_with (fail)
    go_ret2
    exact ⟨_, rfl, Own.nil_ _ _ _, Below.refl _ _⟩
  rcases Nat.eq_zero_or_pos n with h0 | h0
  · have hR : encE ver base es = ([], 1) := by rw [encE, if_pos (.inr (.inr (.inl (List.eq_nil_of_length_eq_zero (HN.out.trans h0)))))]
    rw [ER.out] at hR
    injection hR with r1 r2
    subst r1 r2 h0
    go_enter Try.func19, Try.ntmps19
    go_wp2_with (fail)
    go_ret2
    exact ⟨_, rfl, Own.nil_ _ _ _, Below.refl _ _⟩
  have hne : es ≠ [] := by intro e; have := HN.out; rw [e] at this; simp at this; omega
  have HNE := Lib.hid hne; clear hne
  have d1 : decide (ver < 1) = false := decide_eq_false (by omega)
  have d2 : decide (3 < ver) = false := decide_eq_false (by omega)
  have d3 : ((n : Int) == 0) = false := by rw [beq_eq_false_iff_ne]; omega
  obtain ⟨M, eM⟩ : ∃ M, M = es.all Ev.may := ⟨_, rfl⟩
  have EM := Lib.hid eM
  go_enter Try.func19, Try.ntmps19
  go_wp2_with (fail)
  refine (ContF_c ok A n c ds es w HN.out hr hl).mono ?_
  rintro r w1 ⟨rfl, kb1⟩
  rw [← eM]
  clear eM
  cases M with
  | false =>
    have hR : encE ver base es = ([], 1) := by rw [encE, if_pos (.inr (.inr (.inr EM.out.symm)))]
    rw [ER.out] at hR
    injection hR with r1 r2
    subst r1 r2
    go_wp2_with (fail)
    go_ret2
    exact ⟨_, rfl, Own.nil_ _ _ _, kb1⟩
  | true =>
    have hnb : ¬ (ver < 1 ∨ 3 < ver ∨ es = [] ∨ es.all Ev.may = false) := by
      rintro (h | h | h | h)
      · omega
      · omega
      · exact HNE.out h
      · rw [← EM.out] at h; cases h
    by_cases hbig : 16 < n
    · have hR : encE ver base es = ([], 4) := by rw [encE, if_neg hnb, if_pos (by rw [HN.out]; exact hbig)]
      rw [ER.out] at hR
      injection hR with r1 r2
      subst r1 r2
      have hbig' : (16 : Int) < (n : Int) := by omega
      clear hnb
      go_wp2_with (fail)
      go_ret2
      exact ⟨_, rfl, Own.nil_ _ _ _, kb1⟩
    · have hR : encE ver base es = (encL (decide (ver = 1)) base es, 0) := by rw [encE, if_neg hnb, if_neg (by rw [HN.out]; exact hbig)]
      rw [ER.out] at hR
      injection hR with r1 r2
      subst r2
      have hsm : n ≤ 16 := by omega
      have hsm' : (n : Int) ≤ 16 := by omega
      clear hbig hnb
      obtain ⟨f, ef⟩ : ∃ f, f = decide (ver = 1) := ⟨_, rfl⟩
      have efv : (ver == 1) = f := by rw [ef]; rfl
      rw [← ef] at r1
      have R1 := Lib.hid r1; clear r1 ef
      have wn := u64_wrap (u64_small (n := n) (by omega))
      have k2 := kb1.alloc kb1.size (.cells #[.bool f] 111)
      obtain ⟨w2, ew2⟩ : ∃ w2, w2 = w1.alloc (.cells #[.bool f] 111) := ⟨_, rfl⟩
      have c8 : w2.cell? ⟨w1.heap.size, 0, none⟩ = some (.bool f) := by rw [ew2, cell_of_row _ _ 0 _ _ (0, 0) (heap_alloc_new w1 _)]; rfl
      have s2 : w1.heap.size + 1 = w2.heap.size := by rw [ew2]; simp
      rw [← ew2] at k2
      obtain ⟨g8, eg8⟩ : ∃ g8, g8 = w1.heap.size := ⟨_, rfl⟩
      rw [← eg8] at c8 s2
      have hg8 : w.heap.size ≤ g8 := by rw [eg8]; exact kb1.size
      clear d1 d2 d3
      have HR := Lib.hid hr; clear hr
      go_wp2_with (fail)
      rw [← ew2, ← eg8]
      clear ew2 eg8
      have kr0 : Below w.heap.size w w2.drew := below_drewN k2 1
      have hu1 : U64 n := u64_small (by omega)
      go_region_held3 (fun w' => w'.cell? ⟨g8, 0, none⟩ = some (.bool f)) (first | exact c8 | exact keep1 (by with_reducible assumption) (by with_reducible assumption)) (first
        | (go_at_call 60; (with_reducible refine (put_c f base 8 _ hu).mono ?_); rintro _ w3 ⟨v3, rfl, ho3, hb3⟩; have hk3 : Below (g8 + 1) _ w3 := hb3.mono (Nat.le_of_eq s2); have HO3 : Hid (OwnB w3 (g8 + 1) v3 _) := Lib.hid (Own.low ho3 (Nat.le_of_eq s2)); have z3 : g8 + 1 ≤ w3.heap.size := Nat.le_trans (Nat.le_of_eq s2) hb3.size; clear ho3 hb3)
        | (go_at_call 60; (with_reducible refine (put_c f n 1 _ hu1).mono ?_); rintro _ w5 ⟨v5, rfl, ho5, hb5⟩; have hk5 : Below (g8 + 1) _ w5 := hb5.mono z3; have HO5 : Hid (OwnB w5 (g8 + 1) v3 _) := Lib.hid (Own.below (Own.drewN HO3.out 0) hb5); obtain ⟨A5, c5, rfl, _, _, r5, _⟩ := OwnB.form ho5; have R5 := Lib.hid r5; have z5 : g8 + 1 ≤ w5.heap.size := Nat.le_trans z3 hb5.size; clear ho5 hb5 r5)
        | ((refine step_appB' rfl (.tmp 37) (.tmp 42) rfl (g8 + 1) _ _ rfl HO5.out A5 _ c5 (putL f n 1) rfl rfl R5.out (by have := putL_le f base 8 hu; have := putL_le f n 1 hu1; omega) z5 ?_); intro v7 w7 HO7 hk7 hg7 _))
      have hlow : w.heap.size ≤ g8 + 1 := by omega
      have k7 : Below w.heap.size w w7 := ((kr0.trans (hk3.mono hlow)).trans (hk5.mono hlow)).trans (hk7.mono hlow)
      have c7 : w7.cell? ⟨g8, 0, none⟩ = some (.bool f) := keep1 (keep1 (keep1 (show w2.drew.cell? ⟨g8, 0, none⟩ = some (.bool f) from c8) hk3) hk5) hk7
      have z7 : g8 + 1 ≤ w7.heap.size := Nat.le_trans z5 hk7.size
      have HO : Hid (OwnB w7 (g8 + 1) v7 (preL f base n (es.take 0))) := by
        have : preL f base n (es.take 0) = putL f base 8 ++ putL f n 1 := by rw [List.take_zero, preL]; simp [evsL]
        rw [this]; exact HO7
      clear c8 kr0 hk3 HO3 z3 hk5 HO5 R5 z5 HO7 hk7 hg7 k2 s2 kb1
      have hr' : EvsR ok w A ds es := HR.out
      go_wp2_with (fail)
      go_loopw [9, 46] (fun vb i wr => ∃ (k : Nat), k ≤ n ∧ i = .int .i64 k ∧ Hid (OwnB wr (g8 + 1) vb (preL f base n (es.take k))) ∧ Hid (wr.cell? ⟨g8, 0, none⟩ = some (.bool f)) ∧ Below w.heap.size w wr ∧ g8 + 1 ≤ wr.heap.size) (fun _ i _ => n - (intOf i).toNat)
      case atStart => exact ⟨0, Nat.zero_le _, rfl, HO, Lib.hid c7, k7, z7⟩
      case round =>
        clear HO c7 k7 z7
        obtain ⟨k, hk, rfl, HO, C7, kb, z7⟩ := hrel
        have hpl := preL_le f base n (es.take k) hu hsm (all_take EM.out.symm k) (by rw [List.length_take]; omega)
        obtain ⟨P, eP⟩ : ∃ P, P = preL f base n (es.take k) := ⟨_, rfl⟩
        rw [← eP] at HO hpl
        have EP := Lib.hid eP; clear eP
        rcases Nat.lt_or_ge k n with hlt | hge
        · obtain ⟨e, b1, o1, At, m, cm, ee, rfl, hb1, -, tt, c0, ca, cb, cc, cd⟩ := hr'.at_ k (by rw [HN.out]; exact hlt)
          have hmay : e.may = true := by
            have := EM.out.symm
            rw [List.all_eq_true] at this
            rw [ee]
            exact this _ (List.getElem_mem _)
          obtain ⟨q0, q1, q2, q3, q4, q5, q6, q7⟩ := may_bounds hmay
          have hnext : preL f base n (es.take (k + 1)) = P ++ evL f e := by
            rw [EP.out, ee, preL, preL, evsL_take f es k (by rw [HN.out]; exact hlt)]; simp only [List.append_assoc]
          have HX := Lib.hid hnext; clear hnext ee hmay
          obtain ⟨t1, t2, t3, t4, -, t5⟩ := tt
          obtain ⟨z0, t, z2, z3, z4⟩ := e
          simp only at c0 ca cb cc cd t1 t2 q0 q1 q2 q3 q4 q5 q6 q7
          obtain ⟨K0, rfl⟩ : ∃ K0 : Nat, z0 = (K0 : Int) := ⟨z0.toNat, by omega⟩
          obtain ⟨X, rfl⟩ : ∃ X : Nat, z2 = (X : Int) := ⟨z2.toNat, by omega⟩
          obtain ⟨Y, rfl⟩ : ∃ Y : Nat, z3 = (Y : Int) := ⟨z3.toNat, by omega⟩
          obtain ⟨Z, rfl⟩ : ∃ Z : Nat, z4 = (Z : Int) := ⟨z4.toNat, by omega⟩
          rw [t1] at q1
          have T1 := Lib.hid t1; clear t1
          rw [← kb.cell (p := ⟨b1, _, none⟩) hb1] at c0 ca cb cc cd
          have uK : U64 K0 := u64_small (by omega)
          have uX : U64 X := u64_small (by omega)
          have uY : U64 Y := u64_small (by omega)
          have uZ : U64 Z := u64_small (by omega)
          have uM : U64 m := u64_small (by omega)
          have wK := u64_wrap uK
          have wX := u64_wrap uX
          have wY := u64_wrap uY
          have wZ := u64_wrap uZ
          have wM := u64_wrap uM
          have hlt' : (k : Int) < (n : Int) := by omega
          obtain ⟨wa, ewa⟩ : ∃ wa, wa = wr.alloc (.cells #[.int .i64 (K0 : Int), .slice At m cm, .int .i64 (X : Int), .int .i64 (Y : Int), .int .i64 (Z : Int)] 36) := ⟨_, rfl⟩
          obtain ⟨g11, eg⟩ : ∃ g11, g11 = wr.heap.size := ⟨_, rfl⟩
          have hga : wr.heap.size + 1 = wa.heap.size := by rw [ewa]; simp
          have ab : Below wr.heap.size wr wa := by rw [ewa]; exact (Below.refl _ _).alloc (Nat.le_refl _) _
          have ev : Evx wa g11 K0 X Y Z At m cm := by rw [ewa, eg]; exact heap_alloc_new wr _
          have c8 := (ab.cell (p := ⟨g8, 0, none⟩) (by show g8 < _; omega)).trans C7.out
          have HOa := Lib.hid (show OwnB wa (g8 + 1) _ P from Own.below HO.out ab)
          have ka := kb.trans (ab.mono kb.size)
          rw [← eg] at hga
          have hg11 : g8 + 1 ≤ g11 := by rw [eg]; exact z7
          have T2 := Lib.hid t2
          have EV := Lib.hid ev
          have EWA := Lib.hid ewa
          have EG := Lib.hid eg
          clear ab t2
          have c8a := c8
          rw [ewa] at c8a
          clear ewa eg ev
          go_wp2_with (fail)
          rw [← EG.out, ← EWA.out]
          have hES : ES w f g8 g11 K0 X Y Z At m cm wa u9 P := ⟨HOa.out, c8, EV.out, ka, hg8, hg11, Nat.le_of_eq hga, fun q eq => by have := (Own.lt HO.out q eq).2; have := EG.out; omega⟩
          have H2 := Lib.hid hES; clear hES
          clear c8a EWA EG HOa c8 EV ka hga hg11 HO
          refine (put_c f K0 1 wa uK).mono ?_
          rintro r w3 ⟨v3, rfl, ho3, hb3⟩
          obtain ⟨A3, c3, rfl, _, _, r3, _⟩ := OwnB.form ho3
          have H3 := Lib.hid (H2.out.call hb3)
          have R3 := Lib.hid r3
          have l3 := putL_le f K0 1 uK
          have s3 : g8 + 1 ≤ w3.heap.size := by have := H3.out.z; have := H3.out.hi; omega
          clear ho3 hb3 r3 H2
          go_wp2_with (first | (at_builtin; refine wpList_appB _ rfl (.tmp 50) (.tmp 55) rfl (g8 + 1) _ _ rfl H3.out.own A3 _ c3 (putL f K0 1) rfl rfl R3.out (by omega) s3 ?_; intro v4 w4 h4 hg4 hv4; have H4 := Lib.hid (H3.out.app h4 hg4 hv4); clear h4 hg4 hv4; obtain ⟨_, e0, -⟩ := H4.out.cells))
          refine (most_c (K0 : Int) w4).mono ?_
          rintro r w5 ⟨rfl, rfl⟩
          have HM : Hid (mostI (K0 : Int) = if (K0 : Int) = 1 then 8 else if (K0 : Int) = 2 then 64 else -1) := Lib.hid rfl
          have HEV : Hid (evL f ⟨(K0 : Int), t, (X : Int), (Y : Int), (Z : Int)⟩ = putL f K0 1 ++ (if (K0 : Int) = 1 ∨ (K0 : Int) = 2 then putL f m 1 ++ t else putL f X 1 ++ putL f Y 1 ++ (if (K0 : Int) = 3 then putL f Z 1 else []))) := Lib.hid (by unfold evL; simp only [Int.toNat_natCast, T1.out])
          generalize mostI (K0 : Int) = MM at HM ⊢
          have lM := putL_le f m 1 uM
          have lX := putL_le f X 1 uX
          have lY := putL_le f Y 1 uY
          have lZ := putL_le f Z 1 uZ
          have l4 : (P ++ putL f K0 1).length ≤ 2010 := by rw [List.length_append]; omega
          obtain ⟨P4, eP4⟩ : ∃ P4, P4 = P ++ putL f K0 1 := ⟨_, rfl⟩
          rw [← eP4] at H4 l4
          have hnx : preL f base n (es.take (k + 1)) = P4 ++ (if (K0 : Int) = 1 ∨ (K0 : Int) = 2 then putL f m 1 ++ t else putL f X 1 ++ putL f Y 1 ++ (if (K0 : Int) = 3 then putL f Z 1 else [])) := by rw [HX.out, HEV.out, eP4]; simp only [List.append_assoc]
          have HNX := Lib.hid hnx
          have HD4 := Lib.hid (H4.out.drewN 1)
          have s4 : g8 + 1 ≤ w4.heap.size := by have := H4.out.z; have := H4.out.hi; omega
          clear hnx eP4 HX HEV H3 R3 l3 s3 EP hpl e0 c0 ca cb cc cd
          rcases Nat.lt_or_ge 2 K0 with hK | hK
          · have hMM : MM = -1 := by rw [HM.out, if_neg (by omega), if_neg (by omega)]
            subst hMM
            have hnx := HNX.out
            rw [if_neg (by omega)] at hnx
            have HN2 := Lib.hid hnx; clear hnx HNX HM
            go_wp2_with (fail)
            go_region_held3 (fun w' => w'.cell? ⟨g8, 0, none⟩ = some (.bool f) ∧ w'.cell? ⟨g11, 0, none⟩ = some (.int .i64 (K0 : Int)) ∧ w'.cell? ⟨g11, 1, none⟩ = some (.slice At m cm) ∧ w'.cell? ⟨g11, 2, none⟩ = some (.int .i64 (X : Int)) ∧ w'.cell? ⟨g11, 3, none⟩ = some (.int .i64 (Y : Int)) ∧ w'.cell? ⟨g11, 4, none⟩ = some (.int .i64 (Z : Int))) (first | exact ES.cellsH (by with_reducible assumption) | exact HD4.out.cells) (first
              | (go_at_call 60; (with_reducible refine (put_c f X 1 _ uX).mono ?_); rintro _ w6 ⟨v6, rfl, ho6, hb6⟩; obtain ⟨A6, c6, rfl, _, _, r6, _⟩ := OwnB.form ho6; have H6 := Lib.hid (HD4.out.call hb6); have R6 := Lib.hid r6; have s6 : g8 + 1 ≤ w6.heap.size := Nat.le_trans s4 hb6.size; clear ho6 hb6 r6)
              | ((refine step_appB' rfl (.tmp 72) (.tmp 77) rfl (g8 + 1) _ _ rfl H6.out.own A6 _ c6 (putL f X 1) rfl rfl R6.out (by omega) s6 ?_); intro v7 w7 HO7 hk7 hg7 hv7; have H7 := Lib.hid (H6.out.app HO7.out hg7 hv7); have s7 : g8 + 1 ≤ w7.heap.size := Nat.le_trans s6 hk7.size; clear HO7 hk7 hg7 hv7)
              | (go_at_call 60; (with_reducible refine (put_c f Y 1 _ uY).mono ?_); rintro _ w8 ⟨v8, rfl, ho8, hb8⟩; obtain ⟨A8, c8', rfl, _, _, r8, _⟩ := OwnB.form ho8; have H8 := Lib.hid (H7.out.call hb8); have R8 := Lib.hid r8; have s8 : g8 + 1 ≤ w8.heap.size := Nat.le_trans s7 hb8.size; clear ho8 hb8 r8)
              | ((refine step_appB' rfl (.tmp 78) (.tmp 83) rfl (g8 + 1) _ _ rfl H8.out.own A8 _ c8' (putL f Y 1) rfl rfl R8.out (by rw [List.length_append]; omega) s8 ?_); intro v9 w9 HO9 hk9 hg9 hv9; have H9 := Lib.hid (H8.out.app HO9.out hg9 hv9); clear HO9 hk9 hg9 hv9))
            all_goals
              obtain ⟨P9, eP9⟩ : ∃ P9, P9 = P4 ++ putL f X 1 ++ putL f Y 1 := ⟨_, rfl⟩
              rw [← eP9] at H9
              have l9 : P9.length ≤ 2040 := by rw [eP9, List.length_append, List.length_append]; omega
              have hn9 : preL f base n (es.take (k + 1)) = P9 ++ (if (K0 : Int) = 3 then putL f Z 1 else []) := by
                rw [HN2.out, eP9]; simp only [List.append_assoc]
              have HN9 := Lib.hid hn9; clear hn9 eP9 HN2
              have s9 : g8 + 1 ≤ w9.heap.size := by have := H9.out.z; have := H9.out.hi; omega
              clear H6 H7 H8 R6 R8 s6 s7 s8 HD4 H4 s4
              obtain ⟨c8, e0, -, -, -, e4⟩ := H9.out.cells
              by_cases h3 : K0 = 3
              · have e3 : ((K0 : Int) == 3) = true := by rw [beq_iff_eq]; omega
                have hnx := HN9.out
                rw [if_pos (by omega)] at hnx
                have HNA := Lib.hid hnx; clear hnx HN9 h3
                go_wp2_with (fail)
                refine (put_c f Z 1 w9 uZ).mono ?_
                rintro r wb ⟨vb, rfl, hob, hbb⟩
                obtain ⟨Ab, cb, rfl, _, _, rb, _⟩ := OwnB.form hob
                have HB := Lib.hid (H9.out.call hbb)
                have RB := Lib.hid rb
                have sb : g8 + 1 ≤ wb.heap.size := Nat.le_trans s9 hbb.size
                clear hob hbb rb H9 c8 e0 e4
                go_wp2_with (first | (at_builtin; refine wpList_appB _ rfl (.tmp 88) (.tmp 93) rfl (g8 + 1) _ _ rfl HB.out.own Ab _ cb (putL f Z 1) rfl rfl RB.out (by omega) sb ?_; intro vd wd hd hgd hvd; have HDD := Lib.hid (HB.out.app hd hgd hvd); clear hd hgd hvd))
                have hfin : OwnB wd (g8 + 1) vd (preL f base n (es.take (k + 1))) := by
                  rw [HNA.out]; exact HDD.out.own
                have HFIN := Lib.hid hfin; clear hfin
                have s8 : g8 + 1 ≤ wd.heap.size := by have := HDD.out.z; have := HDD.out.hi; omega
                have C8 := Lib.hid HDD.out.c8
                have kb8 := HDD.out.kb
                go_roundw
                case rel => exact ⟨k + 1, by omega, by go_num, HFIN, C8, kb8, s8⟩
                case measure => simp [intOf]; omega
              · have e3 : ((K0 : Int) == 3) = false := by rw [beq_eq_false_iff_ne]; omega
                have hnx := HN9.out
                rw [if_neg (by omega), List.append_nil] at hnx
                have HNA := Lib.hid hnx; clear hnx HN9 h3
                have hfin : OwnB w9 (g8 + 1) v9 (preL f base n (es.take (k + 1))) := by
                  rw [HNA.out]; exact H9.out.own
                have HFIN := Lib.hid hfin; clear hfin
                have C8 := Lib.hid H9.out.c8
                have kb8 := H9.out.kb
                clear e4 c8
                go_wp2_with (fail)
                go_roundw
                case rel => exact ⟨k + 1, by omega, by go_num, HFIN, C8, kb8, s9⟩
                case measure => simp [intOf]; omega
          · have hMM : 0 ≤ MM := by
              rw [HM.out]
              split
              · decide
              · rw [if_pos (by omega)]; decide
            have hnx := HNX.out
            rw [if_pos (by omega)] at hnx
            have HN2 := Lib.hid hnx; clear hnx HNX HM
            go_wp2_with (fail)
            go_region_held3 (fun w' => w'.cell? ⟨g8, 0, none⟩ = some (.bool f) ∧ w'.cell? ⟨g11, 0, none⟩ = some (.int .i64 (K0 : Int)) ∧ w'.cell? ⟨g11, 1, none⟩ = some (.slice At m cm) ∧ w'.cell? ⟨g11, 2, none⟩ = some (.int .i64 (X : Int)) ∧ w'.cell? ⟨g11, 3, none⟩ = some (.int .i64 (Y : Int)) ∧ w'.cell? ⟨g11, 4, none⟩ = some (.int .i64 (Z : Int))) (first | exact ES.cellsH (by with_reducible assumption) | exact HD4.out.cells) (first
              | (go_at_call 60; (with_reducible refine (put_c f m 1 _ uM).mono ?_); rintro _ w6 ⟨v6, rfl, ho6, hb6⟩; obtain ⟨A6, c6, rfl, _, _, r6, _⟩ := OwnB.form ho6; have H6 := Lib.hid (HD4.out.call hb6); have R6 := Lib.hid r6; have s6 : g8 + 1 ≤ w6.heap.size := Nat.le_trans s4 hb6.size; clear ho6 hb6 r6)
              | ((refine step_appB' rfl (.tmp 61) (.tmp 67) rfl (g8 + 1) _ _ rfl H6.out.own A6 _ c6 (putL f m 1) rfl rfl R6.out (by omega) s6 ?_); intro v7 w7 HO7 hk7 hg7 hv7; have H7 := Lib.hid (H6.out.app HO7.out hg7 hv7); have s7 : g8 + 1 ≤ w7.heap.size := Nat.le_trans s6 hk7.size; clear HO7 hk7 hg7 hv7)
              | ((refine step_appB' rfl (.tmp 68) (.tmp 70) rfl (g8 + 1) _ _ rfl H7.out.own At m cm t rfl T1.out (T2.out.below H7.out.kb) (by rw [List.length_append]; omega) s7 ?_); intro v8 w8 HO8 hk8 hg8' hv8; have H8 := Lib.hid (H7.out.app HO8.out hg8' hv8); clear HO8 hk8 hg8' hv8))
            all_goals
              have hfin : OwnB w8 (g8 + 1) v8 (preL f base n (es.take (k + 1))) := by
                rw [HN2.out, ← List.append_assoc]; exact H8.out.own
              have HFIN := Lib.hid hfin; clear hfin
              have s8 : g8 + 1 ≤ w8.heap.size := by have := H8.out.z; have := H8.out.hi; omega
              have C8 := Lib.hid H8.out.c8
              have kb8 := H8.out.kb
              clear H6 H7 H8 R6 s6 s7 HD4 H4 s4 HN2
              go_wp2_with (fail)
              go_roundw
              case rel => exact ⟨k + 1, by omega, by go_num, HFIN, C8, kb8, s8⟩
              case measure => simp [intOf]; omega
        · obtain rfl : n = k := by omega
          have hfin : OwnB wr w.heap.size u9 L := by
            have h := HO.out
            rw [EP.out, ← HN.out, List.take_length] at h
            rw [R1.out]
            exact Own.low h (by omega)
          have HFIN := Lib.hid hfin; clear hfin HO EP hpl
          go_wp2_with (fail)
          go_ret2
          exact ⟨_, rfl, HFIN.out, kb⟩
end Go.Proofs.Ytgnciejbhaebeaa

/- What the reference's Encode answers: a batch's bytes in a version, or an error. Conditions: events that can be read; lengths that fit. -/
namespace Go.Proofs.Ytgnciejbhaebeaa
open Go Go.RowKit

theorem putL_small (f : Bool) (n : Nat) (h : n < 128) : putL f n 1 = [lo n] := by
  cases f
  · show varL n = _
    rw [varL, if_pos h]
  · show numLI n 1 = _
    unfold numLI
    rw [if_pos (by decide)]
    simp [numL]
theorem lo_bv {n : Nat} (h : n < 256) : Value.int .u8 (n : Int) = bv (lo n) := by unfold bv; rw [lo_nat, Nat.mod_eq_of_lt h]
theorem u8_wrap {n : Nat} (h : n < 256) : IntKind.u8.wrap (n : Int) = (n : Int) := by
  unfold IntKind.wrap
  simp [IntKind.bits, IntKind.signed]
  omega

set_option maxRecDepth 100000 in
set_option maxHeartbeats 4000000 in
theorem refEncode_c (ok : Nat → Prop) (ver : Int) (base : Nat) (A : Option Addr) (n c : Nat) (ds : List EvV) (es : List Ev) (w : World) (hu : U64 base) (hn : es.length = n) (hr : EvsR ok w A ds es) (hl : n ≤ 140737488355328) :
    Calls Try.prog 20 #[.int .i64 ver, .int .u64 base, .slice A n c] w fun r w' => ∃ v, r = .returned (.tuple #[v, .int .i64 ((encE ver base es).2 : Int)]) ∧ OwnB w' w.heap.size v (encE ver base es).1 ∧ Below w.heap.size w w' := by
  have HN := Lib.hid hn; clear hn
  obtain ⟨L, er, eR⟩ : ∃ L er, encE ver base es = (L, er) := ⟨_, _, rfl⟩
  rw [eR]
  have ER := Lib.hid eR; clear eR
  show Calls _ _ _ _ fun r w' => ∃ v, r = .returned (.tuple #[v, .int .i64 (er : Int)]) ∧ OwnB w' w.heap.size v L ∧ Below w.heap.size w w'
  rcases Int.lt_or_le ver 1 with v1 | v1
  · have hR : encE ver base es = ([], 1) := by rw [encE, if_pos (.inl v1)]
    rw [ER.out] at hR
    injection hR with r1 r2
    subst r1 r2
    go_enter Try.func20, Try.ntmps20
    go_wp2_with (fail)
    go_ret2
    exact ⟨_, rfl, Own.nil_ _ _ _, Below.refl _ _⟩
  rcases Int.lt_or_le 3 ver with v3 | v3
  · have hR : encE ver base es = ([], 1) := by rw [encE, if_pos (.inr (.inl v3))]
    rw [ER.out] at hR
    injection hR with r1 r2
    subst r1 r2
    go_enter Try.func20, Try.ntmps20
    go_wp2_with (fail)
    go_ret2
    exact ⟨_, rfl, Own.nil_ _ _ _, Below.refl _ _⟩
  rcases Nat.eq_zero_or_pos n with h0 | h0
  · have hR : encE ver base es = ([], 1) := by rw [encE, if_pos (.inr (.inr (.inl (List.eq_nil_of_length_eq_zero (HN.out.trans h0)))))]
    rw [ER.out] at hR
    injection hR with r1 r2
    subst r1 r2 h0
    go_enter Try.func20, Try.ntmps20
    go_wp2_with (fail)
    go_ret2
    exact ⟨_, rfl, Own.nil_ _ _ _, Below.refl _ _⟩
  have hne : es ≠ [] := by intro e; have := HN.out; rw [e] at this; simp at this; omega
  have HNE := Lib.hid hne; clear hne
  have d1 : decide (ver < 1) = false := decide_eq_false (by omega)
  have d2 : decide (3 < ver) = false := decide_eq_false (by omega)
  have d3 : ((n : Int) == 0) = false := by rw [beq_eq_false_iff_ne]; omega
  have V1 := Lib.hid v1; have V3 := Lib.hid v3
  clear v1 v3
  have HR := Lib.hid hr; clear hr
  go_enter Try.func20, Try.ntmps20
  go_wp2_with (fail)
  go_loopw [24] (fun i wr => ∃ (k : Nat), k ≤ n ∧ i = .int .i64 k ∧ Hid ((es.take k).all Ev.may = true) ∧ Below w.heap.size w wr) (fun i _ => n - (intOf i).toNat)
  case atStart => exact ⟨0, Nat.zero_le _, rfl, Lib.hid rfl, Below.refl _ _⟩
  case round =>
    obtain ⟨k, hk, rfl, HA, kb⟩ := hrel
    rcases Nat.lt_or_ge k n with hlt | hge
    · obtain ⟨e, b1, o1, At, m, cm, ee, rfl, hb1, -, tt, c0, ca, cb, cc, cd⟩ := HR.out.at_ k (by rw [HN.out]; exact hlt)
      have hmay : e.may = mayB e.k e.x e.y e.b m := by rw [Ev.may, tt.1]
      have hnx : (es.take (k + 1)).all Ev.may = ((es.take k).all Ev.may && mayB e.k e.x e.y e.b m) := by
        rw [List.take_succ_eq_append_getElem (by rw [HN.out]; exact hlt), List.all_append, ← ee, ← hmay]
        simp
      rw [HA.out, Bool.true_and] at hnx
      have HNX := Lib.hid hnx; clear hnx hmay ee tt HA
      obtain ⟨z0, t, z2, z3, z4⟩ := e
      simp only at c0 ca cb cc cd HNX
      rw [← kb.cell (p := ⟨b1, _, none⟩) hb1] at c0 ca cb cc cd
      have hlt' : (k : Int) < (n : Int) := by omega
      go_wp2_with (fail)
      refine (refMay_c z0 z2 z3 z4 At m cm wr).mono ?_
      rintro r w1 ⟨rfl, hb⟩
      have kb1 := kb.trans (hb.mono kb.size)
      clear c0 ca cb cc cd
      obtain ⟨M, eM⟩ : ∃ M, M = mayB z0 z2 z3 z4 m := ⟨_, rfl⟩
      rw [← eM]
      rw [← eM] at HNX
      clear eM
      cases M
      · have hall : es.all Ev.may = false := by
          cases h : es.all Ev.may
          · rfl
          · have := all_take h (k + 1)
            rw [HNX.out] at this; cases this
        have hR : encE ver base es = ([], 1) := by rw [encE, if_pos (.inr (.inr (.inr hall)))]
        rw [ER.out] at hR
        injection hR with r1 r2
        subst r1 r2
        clear hall
        go_wp2_with (fail)
        go_ret2
        exact ⟨_, rfl, Own.nil_ _ _ _, kb1⟩
      · go_wp2_with (fail)
        go_roundw
        case rel => exact ⟨k + 1, by omega, by go_num, HNX, kb1⟩
        case measure => simp [intOf]; omega
    · obtain rfl : n = k := by omega
      have hall : es.all Ev.may = true := by have := HA.out; rwa [← HN.out, List.take_length] at this
      have HALL := Lib.hid hall
      have hnb : ¬ (ver < 1 ∨ 3 < ver ∨ es = [] ∨ es.all Ev.may = false) := by
        have := V1.out; have := V3.out
        rintro (h | h | h | h)
        · omega
        · omega
        · exact HNE.out h
        · rw [hall] at h; cases h
      clear hall HA
      by_cases hbig : 16 < n
      · have hR : encE ver base es = ([], 4) := by rw [encE, if_neg hnb, if_pos (by rw [HN.out]; exact hbig)]
        rw [ER.out] at hR
        injection hR with r1 r2
        subst r1 r2
        have hbig' : (16 : Int) < (n : Int) := by omega
        clear hnb
        go_wp2_with (fail)
        go_ret2
        exact ⟨_, rfl, Own.nil_ _ _ _, kb⟩
      · have hR : encE ver base es = (encL (decide (ver = 1)) base es, 0) := by rw [encE, if_neg hnb, if_neg (by rw [HN.out]; exact hbig)]
        rw [ER.out] at hR
        injection hR with r1 r2
        subst r2
        have hsm : n ≤ 16 := by omega
        have hsm' : (n : Int) ≤ 16 := by omega
        obtain ⟨f, ef⟩ : ∃ f, f = decide (ver = 1) := ⟨_, rfl⟩
        rw [← ef] at r1
        have R1 := Lib.hid r1; clear r1
        have EF := Lib.hid ef; clear ef
        have hu1 : U64 n := u64_small (by omega)
        have wn := u64_wrap hu1
        clear hbig hnb
        go_wp2_with (fail)
        refine (lay24_c ver base 8 wr hu).mono ?_
        rintro r w3 ⟨v3, rfl, ho3, hb3⟩
        rw [← EF.out] at ho3
        have k3 := kb.trans (hb3.mono kb.size)
        have HO3 := Lib.hid (Own.low ho3 kb.size)
        clear ho3 hb3
        go_wp2_with (fail)
        refine (lay24_c ver n 1 w3 hu1).mono ?_
        rintro r w5 ⟨v5, rfl, ho5, hb5⟩
        rw [← EF.out] at ho5
        obtain ⟨A5, c5, rfl, _, _, r5, _⟩ := OwnB.form ho5
        have k5 := k3.trans (hb5.mono k3.size)
        have HO5 : Hid (OwnB w5 w.heap.size v3 _) := Lib.hid (Own.below HO3.out hb5)
        have R5 := Lib.hid r5
        have l0 := putL_le f base 8 hu
        have l1 := putL_le f n 1 hu1
        clear ho5 hb5 r5 HO3
        go_wp2_with (first | (at_builtin; refine wpList_appB _ rfl (.tmp 40) (.tmp 45) rfl w.heap.size _ _ rfl HO5.out A5 _ c5 (putL f n 1) rfl rfl R5.out (by omega) k5.size ?_; intro v7 w7 h7 hg7 _; have HO7 := Lib.hid h7; clear h7; have k7 := k5.grown hg7 k5.size (fun q e => (Own.lt HO5.out q e).1)))
        have HO : Hid (OwnB w7 w.heap.size v7 (preL f base n (es.take 0))) := by
          have : preL f base n (es.take 0) = putL f base 8 ++ putL f n 1 := by rw [List.take_zero, preL]; simp [evsL]
          rw [this]; exact HO7
        clear HO7 HO5 R5 hg7 kb k3 k5 l0 l1
        go_loopw [9, 49] (fun vb i wr => ∃ (k : Nat), k ≤ n ∧ i = .int .i64 k ∧ Hid (OwnB wr w.heap.size vb (preL f base n (es.take k))) ∧ Below w.heap.size w wr) (fun _ i _ => n - (intOf i).toNat)
        case atStart => exact ⟨0, Nat.zero_le _, rfl, HO, k7⟩
        case round =>
          clear HO k7
          obtain ⟨k, hk, rfl, HO, kb⟩ := hrel
          have hpl := preL_le f base n (es.take k) hu hsm (all_take HALL.out k) (by rw [List.length_take]; omega)
          obtain ⟨P, eP⟩ : ∃ P, P = preL f base n (es.take k) := ⟨_, rfl⟩
          rw [← eP] at HO hpl
          have EP := Lib.hid eP; clear eP
          rcases Nat.lt_or_ge k n with hlt | hge
          · obtain ⟨e, b1, o1, At, m, cm, ee, rfl, hb1, -, tt, c0, ca, cb, cc, cd⟩ := HR.out.at_ k (by rw [HN.out]; exact hlt)
            have hmay : e.may = true := by
              have := HALL.out
              rw [List.all_eq_true] at this
              rw [ee]
              exact this _ (List.getElem_mem _)
            obtain ⟨q0, q1, q2, q3, q4, q5, q6, q7⟩ := may_bounds hmay
            have hnext : preL f base n (es.take (k + 1)) = P ++ evL f e := by
              rw [EP.out, ee, preL, preL, evsL_take f es k (by rw [HN.out]; exact hlt)]; simp only [List.append_assoc]
            have HX := Lib.hid hnext; clear hnext ee hmay
            obtain ⟨t1, t2, t3, t4, -, t5⟩ := tt
            obtain ⟨z0, t, z2, z3, z4⟩ := e
            simp only at c0 ca cb cc cd t1 t2 q0 q1 q2 q3 q4 q5 q6 q7
            obtain ⟨K0, rfl⟩ : ∃ K0 : Nat, z0 = (K0 : Int) := ⟨z0.toNat, by omega⟩
            obtain ⟨X, rfl⟩ : ∃ X : Nat, z2 = (X : Int) := ⟨z2.toNat, by omega⟩
            obtain ⟨Y, rfl⟩ : ∃ Y : Nat, z3 = (Y : Int) := ⟨z3.toNat, by omega⟩
            obtain ⟨Z, rfl⟩ : ∃ Z : Nat, z4 = (Z : Int) := ⟨z4.toNat, by omega⟩
            rw [t1] at q1
            have T1 := Lib.hid t1; clear t1
            have T2 := Lib.hid t2; clear t2
            have CC := Lib.hid (And.intro c0 (And.intro ca (And.intro cb (And.intro cc cd))))
            have uZ : U64 Z := u64_small (by omega)
            have bK := u8_wrap (n := K0) (by omega)
            have bX := u8_wrap (n := X) (by omega)
            have bY := u8_wrap (n := Y) (by omega)
            have bM := u8_wrap (n := m) (by omega)
            have wZ := u64_wrap uZ
            have KV := Lib.hid (lo_bv (n := K0) (by omega))
            have XV := Lib.hid (lo_bv (n := X) (by omega))
            have YV := Lib.hid (lo_bv (n := Y) (by omega))
            have MV := Lib.hid (lo_bv (n := m) (by omega))
            have hlt' : (k : Int) < (n : Int) := by omega
            rw [← kb.cell (p := ⟨b1, _, none⟩) hb1] at c0 ca cb cc cd
            have EVL : Hid (evL f ⟨(K0 : Int), t, (X : Int), (Y : Int), (Z : Int)⟩ = [lo K0] ++ (if (K0 : Int) = 1 ∨ (K0 : Int) = 2 then [lo m] ++ t else [lo X, lo Y] ++ (if (K0 : Int) = 3 then putL f Z 1 else []))) := Lib.hid (by
              unfold evL
              simp only [Int.toNat_natCast, T1.out]
              rw [putL_small f K0 (by omega), putL_small f m (by omega), putL_small f X (by omega), putL_small f Y (by omega)]
              rfl)
            obtain ⟨P1, eP1⟩ : ∃ P1, P1 = P ++ [lo K0] := ⟨_, rfl⟩
            have hp1 : P1.length ≤ 2001 := by rw [eP1, List.length_append]; simp; omega
            have hnx : preL f base n (es.take (k + 1)) = P1 ++ (if (K0 : Int) = 1 ∨ (K0 : Int) = 2 then [lo m] ++ t else [lo X, lo Y] ++ (if (K0 : Int) = 3 then putL f Z 1 else [])) := by
              rw [HX.out, EVL.out, eP1]; simp only [List.append_assoc]
            have HNX := Lib.hid hnx
            have lZ := putL_le f Z 1 uZ
            clear hnx EVL HX
            have al := kb.alloc kb.size (.cells #[.int .u8 (K0 : Int)] 5)
            by_cases hK1 : K0 = 1
            · skip
              have e1 : ((K0 : Int) == 1) = true := by rw [beq_iff_eq]; omega
              have hnx := HNX.out
              rw [if_pos (by omega)] at hnx
              have HN2 := Lib.hid hnx; clear hnx HNX
              clear hK1
              go_wp2_with (first
                | (at_builtin; refine wpList_appB1 _ rfl (.tmp 52) (.tmp 59) rfl w.heap.size _ _ rfl HO.out _ rfl (lo K0) KV.out (by omega) kb.size ?_; intro v1 w1 h1 hg1 _; have H1 : Hid (OwnB w1 w.heap.size v1 P1) := Lib.hid (by rw [eP1]; exact h1); clear h1; have k1 := al.grown hg1 al.size (fun q e => (Own.lt HO.out q e).1); obtain ⟨c0, ca, cb, cc, cd⟩ := CC.out; rw [← k1.cell (p := ⟨b1, _, none⟩) hb1] at c0 ca cb cc cd; have al1 := k1.alloc k1.size (.cells #[.int .u8 (m : Int)] 5); clear hg1)
                | (at_builtin; refine wpList_appB1 _ rfl (.tmp 69) (.tmp 77) rfl w.heap.size _ _ rfl H1.out _ rfl (lo m) MV.out (by omega) k1.size ?_; intro v2 w2 h2 hg2 _; have H2 := Lib.hid h2; clear h2; have k2 := al1.grown hg2 al1.size (fun q e => (Own.lt H1.out q e).1); obtain ⟨c0, ca, cb, cc, cd⟩ := CC.out; rw [← k2.cell (p := ⟨b1, _, none⟩) hb1] at c0 ca cb cc cd; clear hg2)
                | (at_builtin; refine wpList_appB _ rfl (.tmp 79) (.tmp 84) rfl w.heap.size _ _ rfl H2.out At m cm t rfl T1.out (T2.out.below k2) (by rw [List.length_append, List.length_singleton]; omega) k2.size ?_; intro vd wd hd hgd _; have HD := Lib.hid (show OwnB wd w.heap.size vd (P1 ++ [lo m] ++ t) from hd); clear hd; have kd := k2.grown hgd k2.size (fun q e => (Own.lt H2.out q e).1); clear hgd))
              have HD2 : Hid (OwnB wd w.heap.size vd (P1 ++ ([lo m] ++ t))) := Lib.hid (by rw [← List.append_assoc]; exact HD.out)
              clear HD H1 H2 MV KV XV YV
              have hfin : OwnB wd w.heap.size vd (preL f base n (es.take (k + 1))) := by
                rw [HN2.out]; exact HD2.out
              have HFIN := Lib.hid hfin; clear hfin
              go_roundw
              case rel => exact ⟨k + 1, by omega, by go_num, HFIN, kd⟩
              case measure => simp [intOf]; omega
            have f1 : ((K0 : Int) == 1) = false := by rw [beq_eq_false_iff_ne]; omega
            by_cases hK2 : K0 = 2
            · skip
              have e2 : ((K0 : Int) == 2) = true := by rw [beq_iff_eq]; omega
              have hnx := HNX.out
              rw [if_pos (by omega)] at hnx
              have HN2 := Lib.hid hnx; clear hnx HNX
              clear hK1 hK2
              go_wp2_with (first
                | (at_builtin; refine wpList_appB1 _ rfl (.tmp 52) (.tmp 59) rfl w.heap.size _ _ rfl HO.out _ rfl (lo K0) KV.out (by omega) kb.size ?_; intro v1 w1 h1 hg1 _; have H1 : Hid (OwnB w1 w.heap.size v1 P1) := Lib.hid (by rw [eP1]; exact h1); clear h1; have k1 := al.grown hg1 al.size (fun q e => (Own.lt HO.out q e).1); obtain ⟨c0, ca, cb, cc, cd⟩ := CC.out; rw [← k1.cell (p := ⟨b1, _, none⟩) hb1] at c0 ca cb cc cd; have al1 := k1.alloc k1.size (.cells #[.int .u8 (m : Int)] 5); clear hg1)
                | (at_builtin; refine wpList_appB1 _ rfl (.tmp 69) (.tmp 77) rfl w.heap.size _ _ rfl H1.out _ rfl (lo m) MV.out (by omega) k1.size ?_; intro v2 w2 h2 hg2 _; have H2 := Lib.hid h2; clear h2; have k2 := al1.grown hg2 al1.size (fun q e => (Own.lt H1.out q e).1); obtain ⟨c0, ca, cb, cc, cd⟩ := CC.out; rw [← k2.cell (p := ⟨b1, _, none⟩) hb1] at c0 ca cb cc cd; clear hg2)
                | (at_builtin; refine wpList_appB _ rfl (.tmp 79) (.tmp 84) rfl w.heap.size _ _ rfl H2.out At m cm t rfl T1.out (T2.out.below k2) (by rw [List.length_append, List.length_singleton]; omega) k2.size ?_; intro vd wd hd hgd _; have HD := Lib.hid (show OwnB wd w.heap.size vd (P1 ++ [lo m] ++ t) from hd); clear hd; have kd := k2.grown hgd k2.size (fun q e => (Own.lt H2.out q e).1); clear hgd))
              have HD2 : Hid (OwnB wd w.heap.size vd (P1 ++ ([lo m] ++ t))) := Lib.hid (by rw [← List.append_assoc]; exact HD.out)
              clear HD H1 H2 MV KV XV YV
              have hfin : OwnB wd w.heap.size vd (preL f base n (es.take (k + 1))) := by
                rw [HN2.out]; exact HD2.out
              have HFIN := Lib.hid hfin; clear hfin
              go_roundw
              case rel => exact ⟨k + 1, by omega, by go_num, HFIN, kd⟩
              case measure => simp [intOf]; omega
            have f2 : ((K0 : Int) == 2) = false := by rw [beq_eq_false_iff_ne]; omega
            by_cases hK3 : K0 = 3
            · skip
              have e3 : ((K0 : Int) == 3) = true := by rw [beq_iff_eq]; omega
              have hnx := HNX.out
              rw [if_neg (by omega), if_pos (by omega)] at hnx
              have HN2 := Lib.hid hnx; clear hnx HNX
              clear hK1 hK2 hK3
              go_wp2_with ((at_builtin; refine wpList_appB1 _ rfl (.tmp 52) (.tmp 59) rfl w.heap.size _ _ rfl HO.out _ rfl (lo K0) KV.out (by omega) kb.size ?_; intro v1 w1 h1 hg1 _; have H1 : Hid (OwnB w1 w.heap.size v1 P1) := Lib.hid (by rw [eP1]; exact h1); clear h1; have k1 := al.grown hg1 al.size (fun q e => (Own.lt HO.out q e).1); obtain ⟨c0, ca, cb, cc, cd⟩ := CC.out; rw [← k1.cell (p := ⟨b1, _, none⟩) hb1] at c0 ca cb cc cd; have al1 := k1.alloc k1.size (.cells #[.int .u8 (m : Int)] 5); clear hg1))
              have kk := below_drewN k1 1
              refine wp_region_rt 132 14 [Rl.eq (v1), Rl.eq (.slice (some ⟨b1, o1, none⟩) n c), Rl.eq (.int .i64 (k : Int)), Rl.eq (.pointer (some ⟨b1, o1 + k * 5, none⟩)), Rl.eq (.pointer (some ⟨b1, o1 + k * 5 + 2, none⟩)), Rl.eq (.int .i64 (X : Int)), Rl.eq (.int .u8 (X : Int)), Rl.eq (.slice (some ⟨b1, o1, none⟩) n c), Rl.eq (.int .i64 (k : Int)), Rl.eq (.pointer (some ⟨b1, o1 + k * 5, none⟩)), Rl.eq (.pointer (some ⟨b1, o1 + k * 5 + 3, none⟩)), Rl.eq (.int .i64 (Y : Int)), Rl.eq (.int .u8 (Y : Int)), Rl.rdb 2 [lo X, lo Y]] [88, 89, 90, 91, 92, 93, 94, 95, 96, 97, 98, 99, 100, 101, 102, 9] (by kernel_rfl) rfl (by kernel_rfl) (by kernel_rfl) (by decide) (by kernel_rfl) (by kernel_rfl) ?_ ?_
              · simp only [List.take_succ_cons, List.take_zero]
                repeat (first | exact AllFrom.nil_ | (refine AllFrom.cons_ (by rfl) ?_ ?_; rotate_left))
                · intro f w' g hF hD
                  have h9 : f 9 = v1 := hF 9 (by kernel_rfl)
                  rw [if_pos (wanted_none rfl)]
                  clear hF hD
                  exact gives_val (by simp only [execOp, evF, h9]; first | rfl | go_simp) ⟨Gr.refl _, rfl⟩
                · intro f w' g hF hD
                  have h2 : f 2 = .slice (some ⟨b1, o1, none⟩) n c := hF 2 (by kernel_rfl)
                  rw [if_pos (wanted_none rfl)]
                  clear hF hD
                  exact gives_val (by simp only [execOp, evF, h2]; first | rfl | go_simp) ⟨Gr.refl _, rfl⟩
                · intro f w' g hF hD
                  have h10 : f 10 = .int .i64 (k : Int) := hF 10 (by kernel_rfl)
                  rw [if_pos (wanted_none rfl)]
                  clear hF hD
                  exact gives_val (by simp only [execOp, evF, h10]; first | rfl | go_simp) ⟨Gr.refl _, rfl⟩
                · intro f w' g hF hD
                  have h89 : f 89 = (.slice (some ⟨b1, o1, none⟩) n c) := hD 1 89 (by kernel_rfl) rfl
                  have h90 : f 90 = (.int .i64 (k : Int)) := hD 2 90 (by kernel_rfl) rfl
                  rw [if_pos (wanted_none rfl)]
                  clear hF hD
                  exact gives_val (by simp only [execOp, evF, h89, h90]; first | rfl | go_simp) ⟨Gr.refl _, rfl⟩
                · intro f w' g hF hD
                  have h91 : f 91 = (.pointer (some ⟨b1, o1 + k * 5, none⟩)) := hD 3 91 (by kernel_rfl) rfl
                  rw [if_pos (wanted_none rfl)]
                  clear hF hD
                  exact gives_val (by simp only [execOp, evF, h91]; first | rfl | go_simp) ⟨Gr.refl _, rfl⟩
                · intro f w' g hF hD
                  have h92 : f 92 = (.pointer (some ⟨b1, o1 + k * 5 + 2, none⟩)) := hD 4 92 (by kernel_rfl) rfl
                  rw [if_pos (wanted_none rfl)]
                  clear hF hD
                  have cl : w'.cell? ⟨b1, o1 + k * 5 + 2, none⟩ = some (.int .i64 (X : Int)) := ((kk.trans (g.mono kk.size)).cell (p := ⟨b1, _, none⟩) hb1).trans CC.out.2.2.1
                  exact gives_val (by simp only [execOp, evF, h92]; go_simp) ⟨Gr.refl _, rfl⟩
                · intro f w' g hF hD
                  have h93 : f 93 = (.int .i64 (X : Int)) := hD 5 93 (by kernel_rfl) rfl
                  rw [if_pos (wanted_none rfl)]
                  clear hF hD
                  exact gives_val (by simp only [execOp, evF, h93]; first | rfl | go_simp) ⟨Gr.refl _, rfl⟩
                · intro f w' g hF hD
                  have h2 : f 2 = .slice (some ⟨b1, o1, none⟩) n c := hF 2 (by kernel_rfl)
                  rw [if_pos (wanted_none rfl)]
                  clear hF hD
                  exact gives_val (by simp only [execOp, evF, h2]; first | rfl | go_simp) ⟨Gr.refl _, rfl⟩
                · intro f w' g hF hD
                  have h10 : f 10 = .int .i64 (k : Int) := hF 10 (by kernel_rfl)
                  rw [if_pos (wanted_none rfl)]
                  clear hF hD
                  exact gives_val (by simp only [execOp, evF, h10]; first | rfl | go_simp) ⟨Gr.refl _, rfl⟩
                · intro f w' g hF hD
                  have h95 : f 95 = (.slice (some ⟨b1, o1, none⟩) n c) := hD 7 95 (by kernel_rfl) rfl
                  have h96 : f 96 = (.int .i64 (k : Int)) := hD 8 96 (by kernel_rfl) rfl
                  rw [if_pos (wanted_none rfl)]
                  clear hF hD
                  exact gives_val (by simp only [execOp, evF, h95, h96]; first | rfl | go_simp) ⟨Gr.refl _, rfl⟩
                · intro f w' g hF hD
                  have h97 : f 97 = (.pointer (some ⟨b1, o1 + k * 5, none⟩)) := hD 9 97 (by kernel_rfl) rfl
                  rw [if_pos (wanted_none rfl)]
                  clear hF hD
                  exact gives_val (by simp only [execOp, evF, h97]; first | rfl | go_simp) ⟨Gr.refl _, rfl⟩
                · intro f w' g hF hD
                  have h98 : f 98 = (.pointer (some ⟨b1, o1 + k * 5 + 3, none⟩)) := hD 10 98 (by kernel_rfl) rfl
                  rw [if_pos (wanted_none rfl)]
                  clear hF hD
                  have cl : w'.cell? ⟨b1, o1 + k * 5 + 3, none⟩ = some (.int .i64 (Y : Int)) := ((kk.trans (g.mono kk.size)).cell (p := ⟨b1, _, none⟩) hb1).trans CC.out.2.2.2.1
                  exact gives_val (by simp only [execOp, evF, h98]; go_simp) ⟨Gr.refl _, rfl⟩
                · intro f w' g hF hD
                  have h99 : f 99 = (.int .i64 (Y : Int)) := hD 11 99 (by kernel_rfl) rfl
                  rw [if_pos (wanted_none rfl)]
                  clear hF hD
                  exact gives_val (by simp only [execOp, evF, h99]; first | rfl | go_simp) ⟨Gr.refl _, rfl⟩
                · intro f w' g hF hD
                  have h94 : f 94 = (.int .u8 (X : Int)) := hD 6 94 (by kernel_rfl) rfl
                  have h100 : f 100 = (.int .u8 (Y : Int)) := hD 12 100 (by kernel_rfl) rfl
                  rw [if_pos (wanted_none rfl)]
                  clear hF hD
                  have r1 := rdb_lit w' [lo X, lo Y] 2 5
                  simp only [List.map_cons, List.map_nil] at r1
                  rw [← XV.out, ← YV.out] at r1
                  exact gives_val (by simp only [execOp, evF, h94, h100]; first | rfl | go_simp) ⟨(Below.refl _ _).alloc (Nat.le_refl _) _, r1⟩
              intro f' w' g hD
              have h0 : f' 88 = v1 := hD 0 88 (by decide) rfl
              obtain ⟨g1, h13, r13⟩ : ∃ g, f' 101 = .slice (some ⟨g, 0, none⟩) 2 2 ∧ Rd w' (some ⟨g, 0, none⟩) ([lo X, lo Y].map bv) := hD 13 101 (by decide) rfl
              have kw := kk.trans (g.mono kk.size)
              have HW : Hid (OwnB w' w.heap.size v1 P1) := Lib.hid (Own.below (Own.drewN H1.out 1) g)
              clear hD g H1
              simp only [List.drop_succ_cons, List.drop_zero, putAll, List.setIfInBounds_toArray, List.set_cons_zero, List.set_cons_succ, h0, h13]
              refine wpList_appB _ rfl (.tmp 88) (.tmp 101) rfl w.heap.size _ _ rfl HW.out _ 2 2 [lo X, lo Y] rfl rfl r13 (by omega) kw.size ?_
              intro vd wd hd hgd _
              have HD := Lib.hid hd; clear hd
              have kd := kw.grown hgd kw.size (fun q e => (Own.lt HW.out q e).1)
              clear hgd HW r13
              have ld : (P1 ++ [lo X, lo Y]).length ≤ 2003 := by rw [List.length_append]; simp; omega
              obtain ⟨c0, ca, cb, cc, cd⟩ := CC.out
              rw [← kd.cell (p := ⟨b1, _, none⟩) hb1] at c0 ca cb cc cd
              go_wp2_with (fail)
              refine (lay24_c ver Z 1 wd uZ).mono ?_
              rintro r wb ⟨vb, rfl, hob, hbb⟩
              rw [← EF.out] at hob
              obtain ⟨Ab, cb', rfl, _, _, rb, _⟩ := OwnB.form hob
              have HB : Hid (OwnB wb w.heap.size vd (P1 ++ [lo X, lo Y])) := Lib.hid (Own.below HD.out hbb)
              have RB := Lib.hid rb
              have kb2 := kd.trans (hbb.mono kd.size)
              clear hob hbb rb HD c0 ca cb cc cd
              go_wp2_with (first
                | (at_builtin; refine wpList_appB _ rfl (.tmp 103) (.tmp 111) rfl w.heap.size _ _ rfl HB.out Ab _ cb' (putL f Z 1) rfl rfl RB.out (by omega) kb2.size ?_; intro ve we he hge' _; have HE := Lib.hid he; clear he; have ke := kb2.grown hge' kb2.size (fun q e => (Own.lt HB.out q e).1); clear hge'))
              have HE2 : Hid (OwnB we w.heap.size ve (P1 ++ ([lo X, lo Y] ++ putL f Z 1))) := Lib.hid (by rw [← List.append_assoc]; exact HE.out)
              have hfin : OwnB we w.heap.size ve (preL f base n (es.take (k + 1))) := by
                rw [HN2.out]; exact HE2.out
              have HFIN := Lib.hid hfin; clear hfin
              go_roundw
              case rel => exact ⟨k + 1, by omega, by go_num, HFIN, ke⟩
              case measure => simp [intOf]; omega
            have f3 : ((K0 : Int) == 3) = false := by rw [beq_eq_false_iff_ne]; omega
            have hK4 : K0 = 4 := by omega
            have e4 : ((K0 : Int) == 4) = true := by rw [beq_iff_eq]; omega
            have hnx := HNX.out
            rw [if_neg (by omega), if_neg (by omega)] at hnx
            have HN2 := Lib.hid hnx; clear hnx HNX
            clear hK1 hK2 hK3 hK4
            go_wp2_with ((at_builtin; refine wpList_appB1 _ rfl (.tmp 52) (.tmp 59) rfl w.heap.size _ _ rfl HO.out _ rfl (lo K0) KV.out (by omega) kb.size ?_; intro v1 w1 h1 hg1 _; have H1 : Hid (OwnB w1 w.heap.size v1 P1) := Lib.hid (by rw [eP1]; exact h1); clear h1; have k1 := al.grown hg1 al.size (fun q e => (Own.lt HO.out q e).1); obtain ⟨c0, ca, cb, cc, cd⟩ := CC.out; rw [← k1.cell (p := ⟨b1, _, none⟩) hb1] at c0 ca cb cc cd; have al1 := k1.alloc k1.size (.cells #[.int .u8 (m : Int)] 5); clear hg1))
            have kk := below_drewN k1 1
            refine wp_region_rt 132 14 [Rl.eq (v1), Rl.eq (.slice (some ⟨b1, o1, none⟩) n c), Rl.eq (.int .i64 (k : Int)), Rl.eq (.pointer (some ⟨b1, o1 + k * 5, none⟩)), Rl.eq (.pointer (some ⟨b1, o1 + k * 5 + 2, none⟩)), Rl.eq (.int .i64 (X : Int)), Rl.eq (.int .u8 (X : Int)), Rl.eq (.slice (some ⟨b1, o1, none⟩) n c), Rl.eq (.int .i64 (k : Int)), Rl.eq (.pointer (some ⟨b1, o1 + k * 5, none⟩)), Rl.eq (.pointer (some ⟨b1, o1 + k * 5 + 3, none⟩)), Rl.eq (.int .i64 (Y : Int)), Rl.eq (.int .u8 (Y : Int)), Rl.rdb 2 [lo X, lo Y]] [115, 116, 117, 118, 119, 120, 121, 122, 123, 124, 125, 126, 127, 128, 129, 9] (by kernel_rfl) rfl (by kernel_rfl) (by kernel_rfl) (by decide) (by kernel_rfl) (by kernel_rfl) ?_ ?_
            · simp only [List.take_succ_cons, List.take_zero]
              repeat (first | exact AllFrom.nil_ | (refine AllFrom.cons_ (by rfl) ?_ ?_; rotate_left))
              · intro f w' g hF hD
                have h9 : f 9 = v1 := hF 9 (by kernel_rfl)
                rw [if_pos (wanted_none rfl)]
                clear hF hD
                exact gives_val (by simp only [execOp, evF, h9]; first | rfl | go_simp) ⟨Gr.refl _, rfl⟩
              · intro f w' g hF hD
                have h2 : f 2 = .slice (some ⟨b1, o1, none⟩) n c := hF 2 (by kernel_rfl)
                rw [if_pos (wanted_none rfl)]
                clear hF hD
                exact gives_val (by simp only [execOp, evF, h2]; first | rfl | go_simp) ⟨Gr.refl _, rfl⟩
              · intro f w' g hF hD
                have h10 : f 10 = .int .i64 (k : Int) := hF 10 (by kernel_rfl)
                rw [if_pos (wanted_none rfl)]
                clear hF hD
                exact gives_val (by simp only [execOp, evF, h10]; first | rfl | go_simp) ⟨Gr.refl _, rfl⟩
              · intro f w' g hF hD
                have h116 : f 116 = (.slice (some ⟨b1, o1, none⟩) n c) := hD 1 116 (by kernel_rfl) rfl
                have h117 : f 117 = (.int .i64 (k : Int)) := hD 2 117 (by kernel_rfl) rfl
                rw [if_pos (wanted_none rfl)]
                clear hF hD
                exact gives_val (by simp only [execOp, evF, h116, h117]; first | rfl | go_simp) ⟨Gr.refl _, rfl⟩
              · intro f w' g hF hD
                have h118 : f 118 = (.pointer (some ⟨b1, o1 + k * 5, none⟩)) := hD 3 118 (by kernel_rfl) rfl
                rw [if_pos (wanted_none rfl)]
                clear hF hD
                exact gives_val (by simp only [execOp, evF, h118]; first | rfl | go_simp) ⟨Gr.refl _, rfl⟩
              · intro f w' g hF hD
                have h119 : f 119 = (.pointer (some ⟨b1, o1 + k * 5 + 2, none⟩)) := hD 4 119 (by kernel_rfl) rfl
                rw [if_pos (wanted_none rfl)]
                clear hF hD
                have cl : w'.cell? ⟨b1, o1 + k * 5 + 2, none⟩ = some (.int .i64 (X : Int)) := ((kk.trans (g.mono kk.size)).cell (p := ⟨b1, _, none⟩) hb1).trans CC.out.2.2.1
                exact gives_val (by simp only [execOp, evF, h119]; go_simp) ⟨Gr.refl _, rfl⟩
              · intro f w' g hF hD
                have h120 : f 120 = (.int .i64 (X : Int)) := hD 5 120 (by kernel_rfl) rfl
                rw [if_pos (wanted_none rfl)]
                clear hF hD
                exact gives_val (by simp only [execOp, evF, h120]; first | rfl | go_simp) ⟨Gr.refl _, rfl⟩
              · intro f w' g hF hD
                have h2 : f 2 = .slice (some ⟨b1, o1, none⟩) n c := hF 2 (by kernel_rfl)
                rw [if_pos (wanted_none rfl)]
                clear hF hD
                exact gives_val (by simp only [execOp, evF, h2]; first | rfl | go_simp) ⟨Gr.refl _, rfl⟩
              · intro f w' g hF hD
                have h10 : f 10 = .int .i64 (k : Int) := hF 10 (by kernel_rfl)
                rw [if_pos (wanted_none rfl)]
                clear hF hD
                exact gives_val (by simp only [execOp, evF, h10]; first | rfl | go_simp) ⟨Gr.refl _, rfl⟩
              · intro f w' g hF hD
                have h122 : f 122 = (.slice (some ⟨b1, o1, none⟩) n c) := hD 7 122 (by kernel_rfl) rfl
                have h123 : f 123 = (.int .i64 (k : Int)) := hD 8 123 (by kernel_rfl) rfl
                rw [if_pos (wanted_none rfl)]
                clear hF hD
                exact gives_val (by simp only [execOp, evF, h122, h123]; first | rfl | go_simp) ⟨Gr.refl _, rfl⟩
              · intro f w' g hF hD
                have h124 : f 124 = (.pointer (some ⟨b1, o1 + k * 5, none⟩)) := hD 9 124 (by kernel_rfl) rfl
                rw [if_pos (wanted_none rfl)]
                clear hF hD
                exact gives_val (by simp only [execOp, evF, h124]; first | rfl | go_simp) ⟨Gr.refl _, rfl⟩
              · intro f w' g hF hD
                have h125 : f 125 = (.pointer (some ⟨b1, o1 + k * 5 + 3, none⟩)) := hD 10 125 (by kernel_rfl) rfl
                rw [if_pos (wanted_none rfl)]
                clear hF hD
                have cl : w'.cell? ⟨b1, o1 + k * 5 + 3, none⟩ = some (.int .i64 (Y : Int)) := ((kk.trans (g.mono kk.size)).cell (p := ⟨b1, _, none⟩) hb1).trans CC.out.2.2.2.1
                exact gives_val (by simp only [execOp, evF, h125]; go_simp) ⟨Gr.refl _, rfl⟩
              · intro f w' g hF hD
                have h126 : f 126 = (.int .i64 (Y : Int)) := hD 11 126 (by kernel_rfl) rfl
                rw [if_pos (wanted_none rfl)]
                clear hF hD
                exact gives_val (by simp only [execOp, evF, h126]; first | rfl | go_simp) ⟨Gr.refl _, rfl⟩
              · intro f w' g hF hD
                have h121 : f 121 = (.int .u8 (X : Int)) := hD 6 121 (by kernel_rfl) rfl
                have h127 : f 127 = (.int .u8 (Y : Int)) := hD 12 127 (by kernel_rfl) rfl
                rw [if_pos (wanted_none rfl)]
                clear hF hD
                have r1 := rdb_lit w' [lo X, lo Y] 2 5
                simp only [List.map_cons, List.map_nil] at r1
                rw [← XV.out, ← YV.out] at r1
                exact gives_val (by simp only [execOp, evF, h121, h127]; first | rfl | go_simp) ⟨(Below.refl _ _).alloc (Nat.le_refl _) _, r1⟩
            intro f' w' g hD
            have h0 : f' 115 = v1 := hD 0 115 (by decide) rfl
            obtain ⟨g1, h13, r13⟩ : ∃ g, f' 128 = .slice (some ⟨g, 0, none⟩) 2 2 ∧ Rd w' (some ⟨g, 0, none⟩) ([lo X, lo Y].map bv) := hD 13 128 (by decide) rfl
            have kw := kk.trans (g.mono kk.size)
            have HW : Hid (OwnB w' w.heap.size v1 P1) := Lib.hid (Own.below (Own.drewN H1.out 1) g)
            clear hD g H1
            simp only [List.drop_succ_cons, List.drop_zero, putAll, List.setIfInBounds_toArray, List.set_cons_zero, List.set_cons_succ, h0, h13]
            refine wpList_appB _ rfl (.tmp 115) (.tmp 128) rfl w.heap.size _ _ rfl HW.out _ 2 2 [lo X, lo Y] rfl rfl r13 (by omega) kw.size ?_
            intro vd wd hd hgd _
            have HD := Lib.hid hd; clear hd
            have kd := kw.grown hgd kw.size (fun q e => (Own.lt HW.out q e).1)
            clear hgd HW r13
            rw [List.append_nil] at HN2
            go_wp2_with (fail)
            have hfin : OwnB wd w.heap.size vd (preL f base n (es.take (k + 1))) := by
              rw [HN2.out]; exact HD.out
            have HFIN := Lib.hid hfin; clear hfin
            go_roundw
            case rel => exact ⟨k + 1, by omega, by go_num, HFIN, kd⟩
            case measure => simp [intOf]; omega
          · obtain rfl : n = k := by omega
            have hfin : OwnB wr w.heap.size u9 L := by
              have h := HO.out
              rw [EP.out, ← HN.out, List.take_length] at h
              rw [R1.out]
              exact h
            have HFIN := Lib.hid hfin; clear hfin HO EP hpl
            go_wp2_with (fail)
            go_ret2
            exact ⟨_, rfl, HFIN.out, kb⟩
end Go.Proofs.Ytgnciejbhaebeaa

/- What fixed of the law of layer 24 answers: true. Conditions: none. -/
namespace Go.Proofs.Ytgnciejbhaebeaa
open Go Go.RowKit
attribute [local go_sem] conv_const

def e97 : Ev := ⟨1, [97], 0, 0, 0⟩
def d97 (g : Nat) : EvV := ⟨1, some ⟨g, 0, none⟩, 1, 1, 0, 0, 0⟩
theorem num28 : putL true 2 8 = [0, 0, 0, 0, 0, 0, 0, 2] := by
  show numLI 2 8 = _
  unfold numLI
  rw [if_pos (by decide)]
  decide
theorem fix_enc1 : encE 1 2 [e97] = ([0, 0, 0, 0, 0, 0, 0, 2, 1, 1, 1, 97], 0) := by
  rw [encE, if_neg (by decide), if_neg (by decide), encL, show decide ((1 : Int) = 1) = true from rfl, num28]
  show ([0, 0, 0, 0, 0, 0, 0, 2] ++ putL true 1 1 ++ evsL true [e97], 0) = _
  rw [putL_small true 1 (by decide)]
  have : evsL true [e97] = putL true 1 1 ++ (putL true 1 1 ++ [97]) := rfl
  rw [this, putL_small true 1 (by decide)]
  rfl
theorem fix_enc3 : encE 3 2 [e97] = ([2, 1, 1, 1, 97], 0) := by
  rw [encE, if_neg (by decide), if_neg (by decide), encL, show decide ((3 : Int) = 1) = false from rfl]
  have h2 : putL false 2 8 = [2] := by
    show varL 2 = _
    rw [varL, if_pos (by decide)]
    rfl
  rw [h2]
  show ([2] ++ putL false 1 1 ++ evsL false [e97], 0) = _
  rw [putL_small false 1 (by decide)]
  have : evsL false [e97] = putL false 1 1 ++ (putL false 1 1 ++ [97]) := by
    simp [evsL, evL, e97]
  rw [this, putL_small false 1 (by decide)]
  rfl

set_option maxRecDepth 100000 in
set_option maxHeartbeats 4000000 in
theorem fixed24_c (w : World) : Calls Try.prog 17 #[] w fun e w' => e = .returned (.bool true) ∧ Below w.heap.size w w' := by
  obtain ⟨w1, ew1⟩ : ∃ w1, w1 = (w.alloc (.cells #[.int .u8 97] 5 (1, 2))).alloc (.cells #[.int .i64 1, .slice (some ⟨w.heap.size, 0, none⟩) 1 1, .int .i64 0, .int .i64 0, .int .i64 0] 36) := ⟨_, rfl⟩
  have k1 : Below w.heap.size w w1 := by rw [ew1]; exact ((Below.refl _ _).alloc (Nat.le_refl _) _).alloc (by simp) _
  have r1 : EvsR (· < w1.heap.size) w1 (some ⟨w.heap.size + 1, 0, none⟩) [d97 w.heap.size] [e97] := by
    have hsz : w1.heap.size = w.heap.size + 2 := by rw [ew1]; simp
    refine ⟨rfl, ?_, fun _ a e => (by injection e with e; rw [← e, hsz]; show w.heap.size + 1 < _; omega), fun i h1 h2 => ?_⟩
    · have := Rd.lit (w.alloc (.cells #[.int .u8 97] 5 (1, 2))) (cellsV [d97 w.heap.size]) 36
      rw [ew1]
      simpa [cellsV, EvV.cells, d97] using this
    · have hi : i = 0 := by simpa using h1
      subst hi
      have := (Rd.litM w (([97] : List UInt8).map bv) 5 (1, 2)).alloc (.cells #[.int .i64 1, .slice (some ⟨w.heap.size, 0, none⟩) 1 1, .int .i64 0, .int .i64 0, .int .i64 0] 36)
      refine ⟨rfl, rfl, rfl, rfl, rfl, ?_, Nat.le_refl _, (by decide : (1 : Nat) ≤ maxLen), fun _ a e => (by injection e with e; rw [← e, hsz]; show w.heap.size < _; omega), (by decide : (1 : Nat) ≤ 140737488355328)⟩
      rw [ew1]
      exact this
  have R1 := Lib.hid r1; clear r1
  have EW := Lib.hid ew1; clear ew1
  go_enter Try.func17, Try.ntmps17
  go_wp2_with (fail)
  rw [← EW.out]
  refine (Encode_c (· < w1.heap.size) 1 2 _ 1 1 _ _ w1 (by unfold U64; decide) rfl R1.out (by decide)).mono ?_
  rintro r w2 ⟨v2, rfl, ho2, hb2⟩
  rw [fix_enc1] at ho2 ⊢
  obtain ⟨A2, c2, rfl, p2, q2, rd2, bl2⟩ := OwnB.form ho2
  have z2 := hb2.size
  have k2 := k1.trans (hb2.mono k1.size)
  have HA2 := Lib.hid rd2
  have R2 := Lib.hid (R1.out.below hb2)
  clear ho2 hb2 rd2 R1
  go_wp2_with (fail)
  refine (Encode_c (· < w1.heap.size) 3 2 _ 1 1 _ _ w2 (by unfold U64; decide) rfl R2.out (by decide)).mono ?_
  rintro r w3 ⟨v3, rfl, ho3, hb3⟩
  rw [fix_enc3] at ho3 ⊢
  obtain ⟨A3, c3, rfl, p3, q3, rd3, bl3⟩ := OwnB.form ho3
  have z3 := hb3.size
  have k3 := k2.trans (hb3.mono k2.size)
  have HA3 := Lib.hid rd3
  have HA2' := Lib.hid (HA2.out.below hb3)
  have R3 := Lib.hid (R2.out.below hb3)
  clear ho3 hb3 rd3 R2 HA2
  go_wp2_with (fail)
  refine (NewInbox_c w3).mono ?_
  rintro r w4 ⟨rfl, hi4, hb4⟩
  have k4 := k3.trans (hb4.mono k3.size)
  have HA3' := Lib.hid (HA3.out.below hb4)
  have HA2 := Lib.hid (HA2'.out.below hb4)
  have R4 := Lib.hid (R3.out.below hb4)
  have I4 := Lib.hid hi4
  clear hb4 R3 HA3 HA2' hi4
  go_wp2_with (fail)
  refine (NewQueue_c w4).mono ?_
  rintro r w5 ⟨rfl, -, hb5, -⟩
  have k5 := k4.trans (hb5.mono k4.size)
  have HA3 := Lib.hid (HA3'.out.below hb5)
  have HA2' := Lib.hid (HA2.out.below hb5)
  have R5 := Lib.hid (R4.out.below hb5)
  have I5 := Lib.hid (I4.out.below hb5)
  clear hb5 R4 HA3' HA2 I4
  go_wp2_with (fail)
  refine (Take24_c (· < w1.heap.size) w3.heap.size 0 1 _ 1 1 _ _ w5 (by unfold U63; decide) (by unfold U64; decide) I5.out rfl R5.out (Nat.le_refl _) (by decide) (by decide)).mono ?_
  rintro r w6 ⟨v6, rfl, -, hi6, hg6⟩
  have t6 : takeR 0 1 [e97] = ([], 15, 0) := rfl
  rw [t6] at hi6 ⊢
  obtain ⟨g, eg⟩ : ∃ g, g = w3.heap.size := ⟨_, rfl⟩
  have n2 : ∀ b off, A2 = some ⟨b, off, none⟩ → (some g : Option Nat) ≠ some b := by
    intro b off e e2
    have := (bl2 _ e).2.1
    injection e2 with e2
    simp only at this; omega
  have n3 : ∀ b off, A3 = some ⟨b, off, none⟩ → (some g : Option Nat) ≠ some b := by
    intro b off e e2
    have := (bl3 _ e).2.1
    injection e2 with e2
    simp only at this; omega
  have hgw : w.heap.size ≤ g := by rw [eg]; exact k3.size
  have hg1 : w1.heap.size ≤ g := by omega
  rw [← eg] at hi6 hg6 I5
  rw [← eg]
  have k6 := k5.grown hg6 k5.size (fun k e => by injection e with e; rw [← e]; exact hgw)
  have H2 := Lib.hid (HA2'.out.grown hg6 n2)
  have H3 := Lib.hid (HA3.out.grown hg6 n3)
  have R6 := Lib.hid (R5.out.frame (fun k hk hkw => hg6.block k hkw (fun e => by injection e with e; have : k < w1.heap.size := hk; omega)) hg6.size)
  have I6 := Lib.hid hi6
  clear hi6 hg6 bl2 bl3 HA2' HA3 R5 I5 eg t6
  go_wp2_with (fail)
  refine (Take24_c (· < w1.heap.size) g 0 0 _ 1 1 _ _ w6 (by unfold U63; decide) (by unfold U64; decide) I6.out rfl R6.out (Nat.le_refl _) (by decide) (by decide)).mono ?_
  rintro r w7 ⟨v7, rfl, ⟨ds7, hv7⟩, hi7, hg7⟩
  have t7 : takeR 0 0 [e97] = ([e97], 0, 1) := rfl
  rw [t7] at hi7 hv7 ⊢
  obtain ⟨A7, c7, rfl, -, -, -⟩ := hv7.form
  have k7 := k6.grown hg7 k6.size (fun k e => by injection e with e; rw [← e]; exact hgw)
  have HH2 := Lib.hid (H2.out.grown hg7 n2)
  have HH3 := Lib.hid (H3.out.grown hg7 n3)
  have I7 := Lib.hid hi7
  clear hi7 hg7 hv7 n2 n3 H2 H3 R6 I6 t7
  have a7 : Below w7.heap.size w7 (w7.alloc (.cells #[.int .u8 0, .int .u8 0, .int .u8 0, .int .u8 0, .int .u8 0, .int .u8 0, .int .u8 0, .int .u8 2, .int .u8 1, .int .u8 1, .int .u8 1, .int .u8 97] 5)) := (Below.refl _ _).alloc (Nat.le_refl _) _
  have l7 := Rd.lit w7 (([0, 0, 0, 0, 0, 0, 0, 2, 1, 1, 1, 97] : List UInt8).map bv) 5
  go_wp2_with (fail)
  refine (Same_t A2 (some ⟨w7.heap.size, 0, none⟩) 12 12 c2 12 [0, 0, 0, 0, 0, 0, 0, 2, 1, 1, 1, 97] _ rfl rfl (HH2.out.below a7) l7 (by decide)).mono ?_
  rintro r w8 ⟨rfl, q8, rfl⟩
  obtain ⟨w8, ew8⟩ : ∃ w8, w8 = (w7.alloc (.cells #[.int .u8 0, .int .u8 0, .int .u8 0, .int .u8 0, .int .u8 0, .int .u8 0, .int .u8 0, .int .u8 2, .int .u8 1, .int .u8 1, .int .u8 1, .int .u8 97] 5)).drewN q8 := ⟨_, rfl⟩
  have b8 : Below w7.heap.size w7 w8 := by rw [ew8]; exact below_drewN a7 _
  rw [← ew8]
  have k8 := k7.trans (b8.mono k7.size)
  have h3 := HH3.out.below b8
  have i8 := I7.out.below b8
  have a8 : Below w8.heap.size w8 (w8.alloc (.cells #[.int .u8 2, .int .u8 1, .int .u8 1, .int .u8 1, .int .u8 97] 5)) := (Below.refl _ _).alloc (Nat.le_refl _) _
  have l8 := Rd.lit w8 (([2, 1, 1, 1, 97] : List UInt8).map bv) 5
  have H3 := Lib.hid h3
  have I8 := Lib.hid i8
  clear ew8 l7 a7 HH2 HH3 I7 b8 k7 h3 i8
  go_wp2_with (fail)
  refine (Same_t A3 (some ⟨w8.heap.size, 0, none⟩) 5 5 c3 5 [2, 1, 1, 1, 97] _ rfl rfl (H3.out.below a8) l8 (by decide)).mono ?_
  rintro r w9 ⟨rfl, q9, rfl⟩
  have b9 := below_drewN a8 q9
  have k9 := k8.trans (b9.mono k8.size)
  have i9 := I8.out.below b9
  have I9 := Lib.hid i9
  clear i9 b9 a8 l8 k8 I8 H3
  go_wp2_with (fail)
  refine (Got_c g 1 _ I9.out).mono ?_
  rintro r wz ⟨rfl, rfl⟩
  go_wp2_with (fail)
  go_ret
  exact ⟨rfl, k9⟩
end Go.Proofs.Ytgnciejbhaebeaa

/- What great answers of events. Conditions: events that can be read. -/
namespace Go.Proofs.Ytgnciejbhaebeaa
open Go Go.RowKit

def greatGo : Nat → List Ev → Bool
  | _, [] => false
  | s, e :: es => if s + (1 + e.t.length) > 16384 then true else greatGo (s + (1 + e.t.length)) es
def greatB (es : List Ev) : Bool := greatGo 0 es
theorem greatGo_sum : ∀ (es : List Ev) (s : Nat), s ≤ 16384 → greatGo s es = false → s + es.length + (es.map (fun e => e.t.length)).sum ≤ 16384
  | [], s, h, _ => by simpa using h
  | e :: es, s, h, hg => by
    rw [greatGo] at hg
    split at hg
    · cases hg
    · have := greatGo_sum es _ (by omega) hg
      simp only [List.length_cons, List.map_cons, List.sum_cons]
      omega

set_option maxRecDepth 100000 in
set_option maxHeartbeats 1000000 in
theorem great_c (ok : Nat → Prop) (A : Option Addr) (n c : Nat) (ds : List EvV) (es : List Ev) (w : World) (hn : es.length = n) (hr : EvsR ok w A ds es) (hc : n ≤ c) (hm : c ≤ maxLen) :
    Calls Try.prog 16 #[.slice A n c] w fun r w' => r = .returned (.bool (greatB es)) ∧ ∃ q, w' = w.drewN q := by
  have hlen := hr.len
  unfold maxLen at hm
  have HN := Lib.hid hn; clear hn
  have HL := Lib.hid hlen; clear hlen
  have HR := Lib.hid hr; clear hr
  obtain ⟨R, eR⟩ : ∃ R, R = greatB es := ⟨_, rfl⟩
  rw [← eR]
  have ER := Lib.hid eR; clear eR
  go_enter Try.func16, Try.ntmps16
  go_wp2
  go_loopw [3, 7] (fun s i wr => ∃ (S k : Nat), k ≤ n ∧ S ≤ 16384 ∧ s = .int .i64 S ∧ i = .int .i64 k ∧ Hid (greatB es = greatGo S (es.drop k)) ∧ ∃ q, wr = w.drewN q) (fun _ i _ => n - (intOf i).toNat)
  case atStart => exact ⟨0, 0, Nat.zero_le _, Nat.zero_le _, rfl, rfl, Lib.hid (by rw [List.drop_zero]; rfl), 0, rfl⟩
  case round =>
    obtain ⟨S, k, hk, hS, rfl, rfl, HG, q, rfl⟩ := hrel
    rcases Nat.lt_or_ge k n with hlt | hge
    · obtain ⟨b, off, rfl, hb, _, hcell⟩ := HR.out.five (by rw [HN.out]; omega)
      have hke : k < es.length := by rw [HN.out]; exact hlt
      have hkd : k < ds.length := by rw [HL.out]; exact hke
      obtain ⟨c0, c1, c2, c3, c4⟩ := hcell k hkd
      obtain ⟨-, -, -, -, t1, -, t3, t4, -, t5⟩ := HR.out.each k hkd hke
      obtain ⟨m, em⟩ : ∃ m, m = ds[k].n := ⟨_, rfl⟩
      rw [← em] at t1 t3 t5 c1
      unfold maxLen at t4
      obtain ⟨cm, ecm⟩ : ∃ cm, cm = ds[k].c := ⟨_, rfl⟩
      rw [← ecm] at t3 t4 c1
      obtain ⟨Am, eAm⟩ : ∃ Am, Am = ds[k].A := ⟨_, rfl⟩
      rw [← eAm] at c1
      have hd : es.drop k = es[k] :: es.drop (k + 1) := List.drop_eq_getElem_cons hke
      have hg := HG.out
      rw [hd, greatGo, t1] at hg
      have HG2 := Lib.hid hg; clear hg hd t1 em ecm eAm c0 c2 c3 c4 hcell HG
      have hlt' : (k : Int) < (n : Int) := by omega
      by_cases hgt : S + (1 + m) > 16384
      · have hgt' : (16384 : Int) < (S : Int) + (1 + (m : Int)) := by omega
        have hR : R = true := by rw [ER.out, HG2.out, if_pos hgt]
        have HRR := Lib.hid hR; clear hR hgt
        go_wp2
        go_ret
        exact ⟨by rw [HRR.out] <;> rfl, _, rfl⟩
      · have hgt' : (S : Int) + (1 + (m : Int)) ≤ 16384 := by omega
        have hG3 : greatB es = greatGo (S + (1 + m)) (es.drop (k + 1)) := by rw [HG2.out, if_neg hgt]
        have HG3 := Lib.hid hG3; clear hG3 HG2
        have hS2 : S + (1 + m) ≤ 16384 := by omega
        clear hgt
        go_wp2
        go_roundw
        case rel => exact ⟨S + (1 + m), k + 1, by omega, hS2, by go_num, by go_num, HG3, _, rfl⟩
        case measure => simp [intOf]; omega
    · obtain rfl : n = k := by omega
      have hR : R = false := by rw [ER.out, HG.out, ← HN.out, List.drop_length]; rfl
      have HRR := Lib.hid hR; clear hR
      go_wp2
      go_ret
      exact ⟨by rw [HRR.out] <;> rfl, _, rfl⟩
end Go.Proofs.Ytgnciejbhaebeaa

/- What the reference's Same answers of the same events. Conditions: events that can be read. -/
namespace Go.Proofs.Ytgnciejbhaebeaa
open Go Go.RowKit

set_option maxRecDepth 100000 in
set_option maxHeartbeats 4000000 in
theorem Same24_t (ok1 ok2 : Nat → Prop) (A1 A2 : Option Addr) (n c1 c2 : Nat) (ds1 ds2 : List EvV) (es : List Ev) (w : World) (hn : es.length = n) (h1 : EvsR ok1 w A1 ds1 es) (h2 : EvsR ok2 w A2 ds2 es) (hm : n ≤ 140737488355328) :
    Calls Try.prog 24 #[.slice A1 n c1, .slice A2 n c2] w fun r w' => r = .returned (.bool true) ∧ ∃ q, w' = w.drewN q := by
  have HN := Lib.hid hn; clear hn
  have hnn : ((n : Int) != (n : Int)) = false := by simp
  go_enter Try.func24, Try.ntmps24
  go_wp2
  go_loopw [13] (fun i wr => ∃ (k : Nat), k ≤ n ∧ i = .int .i64 k ∧ ∃ q, wr = w.drewN q) (fun i _ => n - (intOf i).toNat)
  case atStart => exact ⟨0, Nat.zero_le _, rfl, 0, rfl⟩
  case round =>
    obtain ⟨k, hk, rfl, q, rfl⟩ := hrel
    rcases Nat.lt_or_ge k n with hlt | hge
    · obtain ⟨e, b1, o1, At1, m1, cm1, ee, rfl, hb1, -, t1, c0, ca, cb, cc, cd⟩ := h1.at_ k (by rw [HN.out]; exact hlt)
      obtain ⟨e', b2, o2, At2, m2, cm2, ee', rfl, hb2, -, t2, d0, da, db, dc, dd⟩ := h2.at_ k (by rw [HN.out]; exact hlt)
      obtain rfl : e = e' := ee.trans ee'.symm
      clear ee ee'
      obtain ⟨z0, t, z2, z3, z4⟩ := e
      obtain ⟨l1, r1, l3, l4, -, l5⟩ := t1
      obtain ⟨g1, r2, g3, g4, -, g5⟩ := t2
      simp only at c0 ca cb cc cd d0 da db dc dd l1 g1 r1 r2
      obtain rfl : m1 = m2 := l1.symm.trans g1
      have L1 := Lib.hid l1; clear l1 g1
      have hlt' : (k : Int) < (n : Int) := by omega
      have n0 : (z0 != z0) = false := by simp
      have n2 : (z2 != z2) = false := by simp
      have n3 : (z3 != z3) = false := by simp
      have n4 : (z4 != z4) = false := by simp
      go_wp2
      go_quiet ((go_at_call 21; exact Same_q At1 At2 m1 cm1 cm2 t _ L1.out r1 r2 (by omega) _ _))
      go_wp2
      go_roundw
      case rel => exact ⟨k + 1, by omega, by go_num, _, rfl⟩
      case measure => simp [intOf]; omega
    · obtain rfl : k = n := by omega
      go_wp2
      go_ret
      exact ⟨rfl, _, rfl⟩
end Go.Proofs.Ytgnciejbhaebeaa
