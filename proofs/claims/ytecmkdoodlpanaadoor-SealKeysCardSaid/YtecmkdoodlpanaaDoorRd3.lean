/- What the reader of the layer wire does: Num and Take. Conditions: a reader that lies in a block of its own. -/
import Derived.Test.YtecmkdoodlpanaaDoorRd2
namespace Go.Proofs.YtecmkdoodlpanaaDoor
open Go Go.RowKit

def numR (s : RS) (size : Int) : Nat × RS :=
  if s.err ≠ 0 then (0, s) else if size < 1 ∨ 8 < size then (0, { s with err := 1 })
  else if (s.b.length : Int) - (s.at_ : Int) < size then (0, { s with err := 2 })
  else (beN ((s.b.drop s.at_).take size.toNat), { s with at_ := s.at_ + size.toNat })

theorem setErr_only {w : World} {r : Nat} {s : RS} (h : Rdr w r s) (q e : Nat) : Rdr ((w.drewN q).setCell ⟨r, 2, none⟩ (.int .i64 (e : Int))) r { s with err := e } ∧ w.grownBy ((w.drewN q).setCell ⟨r, 2, none⟩ (.int .i64 (e : Int))) (some r) :=
  ⟨(h.drewN q).setErr e, only_setD q r 2 _⟩

set_option maxRecDepth 100000 in
set_option maxHeartbeats 400000 in
theorem Rnum_c (r : Nat) (s : RS) (size : Int) (w : World) (h : Rdr w r s) (hs : (Lit.int .i64 size).wf = true) :
    Calls Tryd.prog 29 #[.pointer (some ⟨r, 0, none⟩), .int .i64 size] w fun e w' => e = .returned (.int .u64 ((numR s size).1 : Int)) ∧ Rdr w' r (numR s size).2 ∧ w.grownBy w' (some r) := by
  obtain ⟨A, c, ⟨c0, c1, c2⟩, ⟨f0, f1, f2⟩, hrd, hlc, hcm, hk, hl⟩ := h.open_
  by_cases h0 : s.err = 0
  · have hb : (((s.err : Nat) : Int) != 0) = false := by rw [bne_eq_false_iff_eq]; omega
    by_cases hsz : size < 1 ∨ 8 < size
    · have e1 : numR s size = (0, { s with err := 1 }) := by rw [numR, if_neg (by omega), if_pos hsz]
      rw [e1]
      clear e1
      have H0 := Lib.hid h0; clear h0
      rcases hsz with h1 | h1
      · go_enter Tryd.func29, Tryd.ntmps29
        go_wp2
        go_ret
        exact ⟨rfl, setErr_only h 0 1⟩
      · go_enter Tryd.func29, Tryd.ntmps29
        go_wp2
        go_ret
        exact ⟨rfl, setErr_only h 0 1⟩
    · obtain ⟨n, rfl⟩ := Int.eq_ofNat_of_zero_le (show 0 ≤ size by omega)
      have hn1 : 1 ≤ (n : Int) := by omega
      have hn8 : (n : Int) ≤ 8 := by omega
      by_cases hsh : (s.b.length : Int) - (s.at_ : Int) < (n : Int)
      · have e1 : numR s n = (0, { s with err := 2 }) := by rw [numR, if_neg (by omega), if_neg (by omega), if_pos hsh]
        rw [e1]
        clear e1
        have H0 := Lib.hid h0; clear h0
        have HS := Lib.hid hsz; clear hsz
        go_enter Tryd.func29, Tryd.ntmps29
        go_wp2
        go_quiet (fail)
        go_wp2
        go_ret
        exact ⟨rfl, setErr_only h _ 2⟩
      · obtain ⟨l, el⟩ : ∃ l, l = s.b.drop s.at_ := ⟨_, rfl⟩
        have e1 : numR s n = (beN (l.take n), { s with at_ := s.at_ + n }) := by rw [numR, if_neg (by omega), if_neg (by omega), if_neg hsh, el]; rfl
        have hll : l.length + s.at_ = s.b.length := by rw [el, List.length_drop]; omega
        have hsh' : (n : Int) ≤ (s.b.length : Int) - (s.at_ : Int) := by omega
        have H1 := Lib.hid e1; clear e1
        have H0 := Lib.hid h0; clear h0
        have HS := Lib.hid hsz; clear hsz
        have EL := Lib.hid el; clear el
        clear hsh
        go_enter Tryd.func29, Tryd.ntmps29
        go_wp2
        go_quiet (fail)
        go_wp2
        go_loopw [5, 43] (fun x i wr => ∃ k : Nat, k ≤ n ∧ i = .int .i64 k ∧ x = .int .u64 ((beN (l.take k) : Nat) : Int) ∧ Rdr wr r { s with at_ := s.at_ + k } ∧ w.grownBy wr (some r)) (fun x i _ => n - (intOf i).toNat)
        case atStart => exact ⟨0, Nat.zero_le _, rfl, rfl, h, ⟨rfl, rfl, rfl, Nat.le_refl _, fun _ _ _ => rfl⟩⟩
        case round =>
          obtain ⟨k, hkn, rfl, rfl, hw, hg⟩ := hrel
          rcases Nat.lt_or_ge k n with hlt | hge
          · have hkl : k < l.length := by omega
            obtain ⟨A', c', ⟨d0, d1, d2⟩, ⟨g0, g1, g2⟩, hrd', hlc', _, _, _⟩ := hw.open_
            simp only [] at d0 d1 d2 hrd' hlc'
            obtain ⟨b, off, rfl, _, hc⟩ := hrd'.addrB (by omega)
            obtain ⟨d, ed⟩ : ∃ d, d = (l[k]).toNat := ⟨_, rfl⟩
            have hcell : wr.cell? ⟨b, off + (s.at_ + k), none⟩ = some (.int .u8 (d : Int)) := by
              rw [hc (s.at_ + k) (by omega), ed]
              have := EL.out
              subst this
              simp [bv]
            have hd : d < 256 := by rw [ed]; exact UInt8.toNat_lt _
            obtain ⟨x, hx⟩ : ∃ x, x = beN (l.take k) := ⟨_, rfl⟩
            have hx1 : beN (l.take (k + 1)) = x * 256 + d := by
              rw [List.take_succ_eq_append_getElem hkl, beN_snoc, hx, ed]
            have hx2 : x < 256 ^ 7 := by
              rw [hx]
              exact Nat.lt_of_lt_of_le (beN_lt _) (Nat.pow_le_pow_right (by decide) (by rw [List.length_take]; omega))
            rw [← hx]
            have hxm : x * 256 < 18446744073709551616 := by omega
            have hor := or_walk8 hxm hd
            have HX1 := Lib.hid hx1; clear hx1
            have HX2 := Lib.hid hx2; clear hx2
            have hwx : IntKind.u64.wrap ((x : Int) * 256) = (x : Int) * 256 := IntWalk.u64_in _ ⟨by omega, by omega⟩
            rw [← hwx] at hor
            have fin : ∀ q' : Nat, ∃ y : Nat, Value.int .i64 ((s.at_ : Int) + (k : Int) + 1) = .int .i64 (y : Int) ∧ Rdr ((wr.drewN q').setCell ⟨r, 1, none⟩ (.int .i64 (y : Int))) r { s with at_ := s.at_ + (k + 1) } ∧ w.grownBy ((wr.drewN q').setCell ⟨r, 1, none⟩ (.int .i64 (y : Int))) (some r) := fun q' =>
              ⟨s.at_ + (k + 1), by congr 1, (hw.drewN q').setAt _ (by show _ ≤ s.b.length; omega), only_trans hg (only_setD q' r 1 _)⟩
            have FIN := Lib.hid fin; clear fin
            have HOR := Lib.hid hor; clear hor
            clear hwx
            have HXM := Lib.hid hxm; clear hxm
            have HX := Lib.hid hx; clear hx
            have ED := Lib.hid ed; clear ed
            have hsk : (s.at_ : Int) + (k : Int) < (s.b.length : Int) := by omega
            clear hc c0 c1 c2 f0 f1 f2
            go_wp2
            go_quiet (fail)
            go_wp2
            go_roundw
            case rel =>
              obtain ⟨y, e1, e2, e3⟩ := FIN.out nq
              refine ⟨k + 1, by omega, by go_num, by rw [HOR.out, HX1.out], ?_, ?_⟩
              · rw [← e1] at e2; exact e2
              · rw [← e1] at e3; exact e3
            case measure => simp [intOf]; omega
          · obtain rfl : k = n := by omega
            go_wp2
            go_ret
            rw [H1.out]
            exact ⟨rfl, hw, hg⟩
  · have hb : (((s.err : Nat) : Int) != 0) = true := by rw [bne_iff_ne]; omega
    have e1 : numR s size = (0, s) := if_pos h0
    rw [e1]
    clear e1
    have H0 := Lib.hid h0; clear h0
    go_enter Tryd.func29, Tryd.ntmps29
    go_wp2
    go_ret
    exact ⟨rfl, h, World.grownBy.refl _ _⟩
end Go.Proofs.YtecmkdoodlpanaaDoor
