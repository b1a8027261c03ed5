/- What keys.numbers.put and the reference's lay answer: a number in a version's way; and which event may not be. Conditions: events that can be read. -/
import Derived.Test.YtgnciejbhaebeaaKe1
import Derived.Test.YtgnciejbhaebeaaKe2
import Derived.Test.YtgnciejbhaebeaaNm
import Derived.Test.YtgnciejbhaebeaaVa
namespace Go.Proofs.Ytgnciejbhaebeaa
open Go Go.RowKit

def putL (f : Bool) (n : Nat) (size : Int) : List UInt8 := if f then numLI n size else varL n

set_option maxRecDepth 100000 in
set_option maxHeartbeats 1000000 in
theorem put_c (f : Bool) (n : Nat) (size : Int) (w : World) (hn : U64 n) :
    Calls Try.prog 60 #[.agg #[.bool f], .int .u64 n, .int .i64 size] w fun r w' => ∃ v, r = .returned v ∧ OwnB w' w.heap.size v (putL f n size) ∧ Below w.heap.size w w' := by
  have k0 : Below w.heap.size w (w.alloc (.cells #[.bool f] 111)) := (Below.refl _ _).alloc (Nat.le_refl _) _
  cases f
  · go_enter Try.func60, Try.ntmps60
    go_wp2_with (fail)
    refine (Var_c n _ hn).mono ?_
    rintro r w1 ⟨v, rfl, ho, hb⟩
    have HO := Lib.hid ho; clear ho
    go_wp2_with (fail)
    go_ret
    exact ⟨_, rfl, Own.low HO.out k0.size, k0.trans (hb.mono k0.size)⟩
  · go_enter Try.func60, Try.ntmps60
    go_wp2_with (fail)
    refine (Num_c n size _ hn).mono ?_
    rintro r w1 ⟨v, rfl, ho, hb⟩
    have HO := Lib.hid ho; clear ho
    go_wp2_with (fail)
    go_ret
    exact ⟨_, rfl, Own.low HO.out k0.size, k0.trans (hb.mono k0.size)⟩

set_option maxRecDepth 100000 in
set_option maxHeartbeats 1000000 in
theorem lay24_c (ver : Int) (n : Nat) (size : Int) (w : World) (hn : U64 n) :
    Calls Try.prog 62 #[.int .i64 ver, .int .u64 n, .int .i64 size] w fun r w' => ∃ v, r = .returned v ∧ OwnB w' w.heap.size v (putL (decide (ver = 1)) n size) ∧ Below w.heap.size w w' := by
  by_cases h1 : ver = 1
  · subst h1
    go_enter Try.func62, Try.ntmps62
    go_wp2_with (fail)
    refine (refNum_c n size _ hn).mono ?_
    rintro r w1 ⟨v, rfl, ho, hb⟩
    have HO := Lib.hid ho; clear ho
    go_wp2_with (fail)
    go_ret
    exact ⟨_, rfl, HO.out, hb⟩
  · have e1 : (ver == 1) = false := by rw [beq_eq_false_iff_ne]; exact h1
    have e2 : decide (ver = 1) = false := decide_eq_false h1
    have E2 := Lib.hid e2; clear e2 h1
    go_enter Try.func62, Try.ntmps62
    go_wp2_with (fail)
    refine (refVar_c n _ hn).mono ?_
    rintro r w1 ⟨v, rfl, ho, hb⟩
    have HO := Lib.hid ho; clear ho
    go_wp2_with (fail)
    go_ret
    exact ⟨_, rfl, by rw [E2.out]; exact HO.out, hb⟩

def mostI (k : Int) : Int := if k = 1 then 8 else if k = 2 then 64 else -1
set_option maxRecDepth 100000 in
theorem most_c (k : Int) (w : World) : Calls Try.prog 61 #[.int .i64 k] w fun r w' => r = .returned (.int .i64 (mostI k)) ∧ w = w' := by
  by_cases h1 : k = 1
  · subst h1
    go_enter Try.func61, Try.ntmps61
    go_wp2
    go_ret
    exact ⟨rfl, rfl⟩
  · by_cases h2 : k = 2
    · subst h2
      go_enter Try.func61, Try.ntmps61
      go_wp2
      go_ret
      exact ⟨rfl, rfl⟩
    · have e1 : (k == 1) = false := by rw [beq_eq_false_iff_ne]; exact h1
      have e2 : (k == 2) = false := by rw [beq_eq_false_iff_ne]; exact h2
      have e3 : mostI k = -1 := by rw [mostI, if_neg h1, if_neg h2]
      rw [e3]
      clear e3 h1 h2
      go_enter Try.func61, Try.ntmps61
      go_wp2
      go_ret
      exact ⟨rfl, rfl⟩

set_option maxRecDepth 100000 in
theorem Enc1_c (k x y b : Int) (A : Option Addr) (n c : Nat) (w : World) :
    Calls Try.prog 59 #[.agg #[.int .i64 k, .slice A n c, .int .i64 x, .int .i64 y, .int .i64 b]] w fun r w' => r = .returned (.bool (!(mayB k x y b n))) ∧ Below w.heap.size w w' := by
  have k0 : Below w.heap.size w (w.alloc (.cells #[.int .i64 k, .slice A n c, .int .i64 x, .int .i64 y, .int .i64 b] 36)) := (Below.refl _ _).alloc (Nat.le_refl _) _
  go_enter Try.func59, Try.ntmps59
  go_wp2_with (fail)
  refine (May_c k x y b A n c _).mono ?_
  rintro r w1 ⟨rfl, hb⟩
  obtain ⟨m, em⟩ : ∃ m, m = mayB k x y b n := ⟨_, rfl⟩
  rw [← em]
  have EM := Lib.hid em; clear em
  cases m <;> (go_wp2_with (fail); go_ret; exact ⟨by rw [← EM.out] <;> rfl, k0.trans (hb.mono k0.size)⟩)

/-- The first event that may not be; -1: there is none. -/
def badGo : Nat → List Ev → Int
  | _, [] => -1
  | k, e :: es => if e.may then badGo (k + 1) es else k
theorem badGo_neg : ∀ (es : List Ev) (k : Nat), (0 ≤ badGo k es) ↔ es.all Ev.may = false
  | [], k => by simp [badGo]
  | e :: es, k => by
    rw [badGo, List.all_cons]
    cases h : e.may
    · simp
    · simpa using badGo_neg es (k + 1)

set_option maxRecDepth 100000 in
set_option maxHeartbeats 2000000 in
theorem IndexF_c (ok : Nat → Prop) (A : Option Addr) (n c : Nat) (ds : List EvV) (es : List Ev) (w : World) (hn : es.length = n) (hr : EvsR ok w A ds es) (hl : n ≤ 140737488355328) :
    Calls Try.prog 82 #[.slice A n c, .func (.func 59) #[] #[]] w fun r w' => r = .returned (.int .i64 (badGo 0 es)) ∧ Below w.heap.size w w' := by
  have HN := Lib.hid hn; clear hn
  obtain ⟨R, eR⟩ : ∃ R, R = badGo 0 es := ⟨_, rfl⟩
  rw [← eR]
  have ER := Lib.hid eR; clear eR
  go_enter Try.func82, Try.ntmps82
  go_wp2_with (fail)
  go_loopw [8] (fun i wr => ∃ (k : Nat), k ≤ n ∧ i = .int .i64 k ∧ Hid (badGo 0 es = badGo k (es.drop k)) ∧ Below w.heap.size w wr) (fun i _ => n - (intOf i).toNat)
  case atStart => exact ⟨0, Nat.zero_le _, rfl, Lib.hid (by rw [List.drop_zero]), Below.refl _ _⟩
  case round =>
    obtain ⟨k, hk, rfl, HG, kb⟩ := hrel
    rcases Nat.lt_or_ge k n with hlt | hge
    · obtain ⟨e, b1, o1, At, m, cm, ee, rfl, hb1, -, tt, c0, ca, cb, cc, cd⟩ := hr.at_ k (by rw [HN.out]; exact hlt)
      obtain ⟨t1, -⟩ := tt
      have hd : es.drop k = es[k]'(by rw [HN.out]; exact hlt) :: es.drop (k + 1) := List.drop_eq_getElem_cons (by rw [HN.out]; exact hlt)
      rw [← ee] at hd
      have hmay : e.may = mayB e.k e.x e.y e.b m := by rw [Ev.may, t1]
      have hg := HG.out
      rw [hd, badGo, hmay] at hg
      have HG2 := Lib.hid hg; clear hg HG hd hmay ee t1
      obtain ⟨z0, t, z2, z3, z4⟩ := e
      simp only at c0 ca cb cc cd HG2
      rw [← kb.cell (p := ⟨b1, _, none⟩) hb1] at c0 ca cb cc cd
      have hlt' : (k : Int) < (n : Int) := by omega
      go_wp2_with (fail)
      refine (Enc1_c z0 z2 z3 z4 At m cm wr).mono ?_
      rintro r w1 ⟨rfl, hb⟩
      have kb1 := kb.trans (hb.mono kb.size)
      clear c0 ca cb cc cd
      obtain ⟨M, eM⟩ : ∃ M, M = mayB z0 z2 z3 z4 m := ⟨_, rfl⟩
      rw [← eM]
      rw [← eM] at HG2
      clear eM
      cases M
      · have hR : R = k := by rw [ER.out, HG2.out]; rfl
        have HRR := Lib.hid hR; clear hR HG2
        go_wp2_with (fail)
        go_ret
        exact ⟨by rw [HRR.out] <;> rfl, kb1⟩
      · have hR : badGo 0 es = badGo (k + 1) (es.drop (k + 1)) := by rw [HG2.out]; rfl
        have HRR := Lib.hid hR; clear hR HG2
        go_wp2_with (fail)
        go_roundw
        case rel => exact ⟨k + 1, by omega, by go_num, HRR, kb1⟩
        case measure => simp [intOf]; omega
    · obtain rfl : n = k := by omega
      have hR : R = -1 := by rw [ER.out, HG.out, ← HN.out, List.drop_length]; rfl
      have HRR := Lib.hid hR; clear hR
      go_wp2_with (fail)
      go_ret
      exact ⟨by rw [HRR.out] <;> rfl, kb⟩
set_option maxRecDepth 100000 in
theorem ContF_c (ok : Nat → Prop) (A : Option Addr) (n c : Nat) (ds : List EvV) (es : List Ev) (w : World) (hn : es.length = n) (hr : EvsR ok w A ds es) (hl : n ≤ 140737488355328) :
    Calls Try.prog 58 #[.slice A n c, .func (.func 59) #[] #[]] w fun r w' => r = .returned (.bool (!es.all Ev.may)) ∧ Below w.heap.size w w' := by
  have hb := badGo_neg es 0
  obtain ⟨R, eR⟩ : ∃ R, R = badGo 0 es := ⟨_, rfl⟩
  rw [← eR] at hb
  have e1 : decide (0 ≤ R) = (!es.all Ev.may) := by
    cases h : es.all Ev.may
    · exact decide_eq_true (hb.2 h)
    · refine decide_eq_false (fun h2 => ?_)
      rw [hb.1 h2] at h; cases h
  have E1 := Lib.hid e1
  have ER := Lib.hid eR
  clear e1 eR hb
  go_enter Try.func58, Try.ntmps58
  go_wp2_with (fail)
  refine (IndexF_c ok A n c ds es w hn hr hl).mono ?_
  rintro r w1 ⟨rfl, hb⟩
  rw [← ER.out]
  go_wp2_with (fail)
  go_ret
  exact ⟨by rw [← E1.out] <;> rfl, hb⟩
end Go.Proofs.Ytgnciejbhaebeaa
