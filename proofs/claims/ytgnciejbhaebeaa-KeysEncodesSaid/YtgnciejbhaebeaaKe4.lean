/- What the reference's Same answers of the same events. Conditions: events that can be read. -/
import Derived.Test.YtgnciejbhaebeaaKe2
import Derived.Test.YtgnciejbhaebeaaCp
import Derived.Test.YtgnciejbhaebeaaSl
namespace Go.Proofs.Ytgnciejbhaebeaa
open Go Go.RowKit

set_option maxRecDepth 100000 in
set_option maxHeartbeats 4000000 in
theorem Same24_t (ok1 ok2 : Nat → Prop) (A1 A2 : Option Addr) (n c1 c2 : Nat) (ds1 ds2 : List EvV) (es : List Ev) (w : World) (hn : es.length = n) (h1 : EvsR ok1 w A1 ds1 es) (h2 : EvsR ok2 w A2 ds2 es) (hm : n ≤ 140737488355328) :
    Calls Try.prog 24 #[.slice A1 n c1, .slice A2 n c2] w fun r w' => r = .returned (.bool true) ∧ ∃ q, w' = w.drewN q := by
  have HN := Lib.hid hn; clear hn
  have hnn : ((n : Int) != (n : Int)) = false := by simp
  go_enter Try.func24, Try.ntmps24
  go_wp2
  go_loopw [13] (fun i wr => ∃ (k : Nat), k ≤ n ∧ i = .int .i64 k ∧ ∃ q, wr = w.drewN q) (fun i _ => n - (intOf i).toNat)
  case atStart => exact ⟨0, Nat.zero_le _, rfl, 0, rfl⟩
  case round =>
    obtain ⟨k, hk, rfl, q, rfl⟩ := hrel
    rcases Nat.lt_or_ge k n with hlt | hge
    · obtain ⟨e, b1, o1, At1, m1, cm1, ee, rfl, hb1, -, t1, c0, ca, cb, cc, cd⟩ := h1.at_ k (by rw [HN.out]; exact hlt)
      obtain ⟨e', b2, o2, At2, m2, cm2, ee', rfl, hb2, -, t2, d0, da, db, dc, dd⟩ := h2.at_ k (by rw [HN.out]; exact hlt)
      obtain rfl : e = e' := ee.trans ee'.symm
      clear ee ee'
      obtain ⟨z0, t, z2, z3, z4⟩ := e
      obtain ⟨l1, r1, l3, l4, -, l5⟩ := t1
      obtain ⟨g1, r2, g3, g4, -, g5⟩ := t2
      simp only at c0 ca cb cc cd d0 da db dc dd l1 g1 r1 r2
      obtain rfl : m1 = m2 := l1.symm.trans g1
      have L1 := Lib.hid l1; clear l1 g1
      have hlt' : (k : Int) < (n : Int) := by omega
      have n0 : (z0 != z0) = false := by simp
      have n2 : (z2 != z2) = false := by simp
      have n3 : (z3 != z3) = false := by simp
      have n4 : (z4 != z4) = false := by simp
      go_wp2
      go_quiet ((go_at_call 21; exact Same_q At1 At2 m1 cm1 cm2 t _ L1.out r1 r2 (by omega) _ _))
      go_wp2
      go_roundw
      case rel => exact ⟨k + 1, by omega, by go_num, _, rfl⟩
      case measure => simp [intOf]; omega
    · obtain rfl : k = n := by omega
      go_wp2
      go_ret
      exact ⟨rfl, _, rfl⟩
end Go.Proofs.Ytgnciejbhaebeaa
