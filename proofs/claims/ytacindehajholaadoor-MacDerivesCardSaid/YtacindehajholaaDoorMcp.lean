/- What the law's copies answers: the same slices in memory of their own. Conditions: lengths that fit. -/
import Derived.Test.YtacindehajholaaDoorMl
import Derived.Test.YtacindehajholaaDoorMr
namespace Go.Proofs.YtacindehajholaaDoor
open Go Go.RowKit

set_option maxRecDepth 100000 in
set_option maxHeartbeats 2000000 in
theorem copies_c (A : Option Addr) (n c : Nat) (bss : List (List UInt8)) (w : World) (hn : bss.length = n) (hr : RdS w A bss) (hl : n * 24 ≤ 140737488351232) (hbs : ∀ b ∈ bss, b.length ≤ 140737488351232) :
    Calls Tryd.prog 20 #[.slice A n c] w fun e w' => ∃ A', e = .returned (.slice A' n n) ∧ RdS w' A' bss ∧ Below w.heap.size w w' := by
  have HN := Lib.hid hn; clear hn
  have HBS := Lib.hid hbs; clear hbs
  go_enter Tryd.func20, Tryd.ntmps20
  go_wp2_with (first | (at_make; refine wpList_makeS _ rfl (.tmp 6) (.tmp 6) rfl _ _ _ _ n rfl rfl rfl rfl (by omega) ?_; intro w1 h1 h2 h3; clear h3; have H1 := Lib.hid (Cps.zero (bss := bss) h1); clear h1))
  go_loopw [10] (fun i wr => ∃ k : Nat, k ≤ n ∧ i = .int .i64 k ∧ Hid (Cps wr w.heap.size n bss k) ∧ Below w.heap.size w wr ∧ w.heap.size < wr.heap.size) (fun i _ => n - (intOf i).toNat)
  case atStart =>
    refine ⟨0, Nat.zero_le _, rfl, H1, h2, ?_⟩
    obtain ⟨vs, _, g2, _⟩ := H1.out
    exact ((Own.form g2).choose_spec.choose_spec.2.2.2.2.1 _ (by have := (Own.form g2).choose_spec.choose_spec.1; injection this with e1 _ _; exact e1.symm)).2.1
  case round =>
    clear H1 h2
    obtain ⟨k, hk, rfl, H1, h2, h3⟩ := hrel
    rcases Nat.lt_or_ge k n with hlt | hge
    · obtain ⟨b, off, rfl, hblt, hcc⟩ := hr.addr (by rw [HN.out]; omega)
      obtain ⟨Ak, ck, g1, g2, g3, g4⟩ := hcc k (by rw [HN.out]; exact hlt)
      rw [← h2.cell (p := ⟨b, _, none⟩) hblt] at g1
      have g5 := HBS.out _ (List.getElem_mem (by rw [HN.out]; exact hlt : k < bss.length))
      have g2' := g2.below h2
      obtain ⟨x, ex⟩ : ∃ x, x = bss[k]'(by rw [HN.out]; exact hlt) := ⟨_, rfl⟩
      rw [← ex] at g1 g2' g3 g5
      obtain ⟨m, em⟩ : ∃ m, m = x.length := ⟨_, rfl⟩
      rw [← em] at g1 g3 g5
      clear hcc g2 g4
      have EX := Lib.hid ex; clear ex
      have EM := Lib.hid em; clear em
      have hlt' : (k : Int) < (n : Int) := by omega
      go_wp2_with (fail)
      refine (Copy_c Ak m ck x wr EM.out.symm g2' (by omega)).mono ?_
      rintro e w3 ⟨v, rfl, ho, hb3⟩
      have H2 := Lib.hid (H1.out.below hb3)
      have f0 := H2.out.free k
      obtain ⟨u, c0⟩ := H2.out.cell k hlt hk
      have k2 := h2.trans (hb3.mono h2.size)
      have k3 := hb3.size
      have hs := SlV.own (B := w.heap.size) ho h3
      have hs2 := hs
      obtain ⟨A9, c9, e9, _, _, _, _⟩ := hs2
      subst e9
      have HS := Lib.hid hs; clear hs
      have k4 : w.heap.size < w3.heap.size := by omega
      clear ho hb3 h2 h3 H1
      have hkk : k < n := hlt
      go_wp2
      go_roundw
      case rel =>
        refine ⟨k + 1, by omega, by go_num, Lib.hid (H2.out.put hlt _ (fun _ => ?_)), k2.setCell (by simp) _, by simp [World.setCell]; omega⟩
        rw [← EX.out]
        exact HS.out
      case measure => simp [intOf]; omega
    · obtain rfl : n = k := by omega
      have ho := H1.out.rds HN.out
      have HO := Lib.hid ho; clear ho
      clear H1
      go_wp2
      go_ret
      exact ⟨_, rfl, HO.out, h2⟩
end Go.Proofs.YtacindehajholaaDoor
