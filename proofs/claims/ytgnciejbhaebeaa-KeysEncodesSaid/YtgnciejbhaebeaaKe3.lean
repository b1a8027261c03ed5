/- What great answers of events. Conditions: events that can be read. -/
import Derived.Test.YtgnciejbhaebeaaKe2
namespace Go.Proofs.Ytgnciejbhaebeaa
open Go Go.RowKit

def greatGo : Nat → List Ev → Bool
  | _, [] => false
  | s, e :: es => if s + (1 + e.t.length) > 16384 then true else greatGo (s + (1 + e.t.length)) es
def greatB (es : List Ev) : Bool := greatGo 0 es
theorem greatGo_sum : ∀ (es : List Ev) (s : Nat), s ≤ 16384 → greatGo s es = false → s + es.length + (es.map (fun e => e.t.length)).sum ≤ 16384
  | [], s, h, _ => by simpa using h
  | e :: es, s, h, hg => by
    rw [greatGo] at hg
    split at hg
    · cases hg
    · have := greatGo_sum es _ (by omega) hg
      simp only [List.length_cons, List.map_cons, List.sum_cons]
      omega

set_option maxRecDepth 100000 in
set_option maxHeartbeats 1000000 in
theorem great_c (ok : Nat → Prop) (A : Option Addr) (n c : Nat) (ds : List EvV) (es : List Ev) (w : World) (hn : es.length = n) (hr : EvsR ok w A ds es) (hc : n ≤ c) (hm : c ≤ maxLen) :
    Calls Try.prog 16 #[.slice A n c] w fun r w' => r = .returned (.bool (greatB es)) ∧ ∃ q, w' = w.drewN q := by
  have hlen := hr.len
  unfold maxLen at hm
  have HN := Lib.hid hn; clear hn
  have HL := Lib.hid hlen; clear hlen
  have HR := Lib.hid hr; clear hr
  obtain ⟨R, eR⟩ : ∃ R, R = greatB es := ⟨_, rfl⟩
  rw [← eR]
  have ER := Lib.hid eR; clear eR
  go_enter Try.func16, Try.ntmps16
  go_wp2
  go_loopw [3, 7] (fun s i wr => ∃ (S k : Nat), k ≤ n ∧ S ≤ 16384 ∧ s = .int .i64 S ∧ i = .int .i64 k ∧ Hid (greatB es = greatGo S (es.drop k)) ∧ ∃ q, wr = w.drewN q) (fun _ i _ => n - (intOf i).toNat)
  case atStart => exact ⟨0, 0, Nat.zero_le _, Nat.zero_le _, rfl, rfl, Lib.hid (by rw [List.drop_zero]; rfl), 0, rfl⟩
  case round =>
    obtain ⟨S, k, hk, hS, rfl, rfl, HG, q, rfl⟩ := hrel
    rcases Nat.lt_or_ge k n with hlt | hge
    · obtain ⟨b, off, rfl, hb, _, hcell⟩ := HR.out.five (by rw [HN.out]; omega)
      have hke : k < es.length := by rw [HN.out]; exact hlt
      have hkd : k < ds.length := by rw [HL.out]; exact hke
      obtain ⟨c0, c1, c2, c3, c4⟩ := hcell k hkd
      obtain ⟨-, -, -, -, t1, -, t3, t4, -, t5⟩ := HR.out.each k hkd hke
      obtain ⟨m, em⟩ : ∃ m, m = ds[k].n := ⟨_, rfl⟩
      rw [← em] at t1 t3 t5 c1
      unfold maxLen at t4
      obtain ⟨cm, ecm⟩ : ∃ cm, cm = ds[k].c := ⟨_, rfl⟩
      rw [← ecm] at t3 t4 c1
      obtain ⟨Am, eAm⟩ : ∃ Am, Am = ds[k].A := ⟨_, rfl⟩
      rw [← eAm] at c1
      have hd : es.drop k = es[k] :: es.drop (k + 1) := List.drop_eq_getElem_cons hke
      have hg := HG.out
      rw [hd, greatGo, t1] at hg
      have HG2 := Lib.hid hg; clear hg hd t1 em ecm eAm c0 c2 c3 c4 hcell HG
      have hlt' : (k : Int) < (n : Int) := by omega
      by_cases hgt : S + (1 + m) > 16384
      · have hgt' : (16384 : Int) < (S : Int) + (1 + (m : Int)) := by omega
        have hR : R = true := by rw [ER.out, HG2.out, if_pos hgt]
        have HRR := Lib.hid hR; clear hR hgt
        go_wp2
        go_ret
        exact ⟨by rw [HRR.out] <;> rfl, _, rfl⟩
      · have hgt' : (S : Int) + (1 + (m : Int)) ≤ 16384 := by omega
        have hG3 : greatB es = greatGo (S + (1 + m)) (es.drop (k + 1)) := by rw [HG2.out, if_neg hgt]
        have HG3 := Lib.hid hG3; clear hG3 HG2
        have hS2 : S + (1 + m) ≤ 16384 := by omega
        clear hgt
        go_wp2
        go_roundw
        case rel => exact ⟨S + (1 + m), k + 1, by omega, hS2, by go_num, by go_num, HG3, _, rfl⟩
        case measure => simp [intOf]; omega
    · obtain rfl : n = k := by omega
      have hR : R = false := by rw [ER.out, HG.out, ← HN.out, List.drop_length]; rfl
      have HRR := Lib.hid hR; clear hR
      go_wp2
      go_ret
      exact ⟨by rw [HRR.out] <;> rfl, _, rfl⟩
end Go.Proofs.Ytgnciejbhaebeaa
