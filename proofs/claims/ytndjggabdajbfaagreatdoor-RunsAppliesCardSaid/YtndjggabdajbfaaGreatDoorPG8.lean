/- Parts one behind the other: What links.Right answers; What the reference's Leads and Same (of texts, of cells) answer; What the reference's Same of cells answers; What the reference's Canon answers: cells whose links have numbers in the order in which they come; What the reference's Right of links answers; Operations on strings: bytes out of one, bytes of one put behind others. Conditions: as told at each. -/
import Derived.Test.YtndjggabdajbfaaGreatDoorPG7
import Derived.Deep.QuietTactic
import Derived.Test.YtndjggabdajbfaaGreatDoorPG1
import Derived.Lib.AppendStr
import Derived.Lib.ConvBytes

set_option linter.unusedVariables false
set_option linter.unusedSimpArgs false
/- What links.Right answers. Conditions: cells and texts that can be read; numbers that fit. -/
namespace Go.Proofs.YtndjggabdajbfaaGreatDoor
open Go Go.RowKit

theorem wpList_sliceToT (w : World) {ops : Array Oper} {rest : List Oper} {o : Oper} {a : Act} {Q : Exit → Act → World → Prop} (hgd : o.guard = none) (x y : Operand) (ho : o.op = .slice 23 x none (some y) none)
    (A : Option Addr) (m c : Nat) (hx : a.eval x = .slice A m c) (V : Int) (hy : a.eval y = .int .i64 V) (k : Nat) (hV : V = (k : Int)) (hk : k ≤ c)
    (h : wpList Tryz.prog ops Q rest (a.put o.dst (.slice A k c)) w) : wpList Tryz.prog ops Q (o :: rest) a w := by
  subst hV
  refine wpList_plain hgd fun K hK => ?_
  have hk' : (k : Int) ≤ (c : Int) := by omega
  unfold Oper.wp execOp
  simp only [ho, Option.map_some, Option.map_none, hx, hy]
  go_simp
  exact hK _ _ h
theorem lksGo_round {ls : List ByteArray} {k : Nat} {u : ByteArray} (hk : k < ls.length) (hu : u = ls[k]) : lksGo (ls.take k) (ls.drop k) = (uriMay u && (!memT u (ls.take k) && lksGo (ls.take (k + 1)) (ls.drop (k + 1)))) := by
  rw [List.drop_eq_getElem_cons hk, lksGo, List.take_succ_eq_append_getElem hk, hu]
theorem wpList_openG {P : Program} {ops : Array Oper} {Q : Exit → Act → World → Prop} {a : Act} {w : World} {rest : List Oper} {o : Oper} (hw : Region.wanted o (yielded ops a.tmps) = true)
    (h : wpList P ops Q ({ o with guard := none } :: rest) a w) : wpList P ops Q (o :: rest) a w := by
  unfold wpList at h ⊢
  rw [if_pos hw]
  rw [if_pos (by simp [Region.wanted])] at h
  exact h
def okLn (ds : List CeD) : Prop := ∀ d ∈ ds, 0 ≤ d.ln ∧ d.ln < 65536
set_option maxRecDepth 100000 in
set_option maxHeartbeats 8000000 in
theorem lnkRight_c (A : Option Addr) (n c : Nat) (ds : List CeD) (L : Option Addr) (m cm : Nat) (ls : List ByteArray) (w : World) (hn : ds.length = n) (hr : RdC w A ds) (hl : n ≤ 140737488355328) (hm : ls.length = m) (hrt : RdT w L ls) (hmc : m ≤ cm) (hu : ∀ u ∈ ls, u.size ≤ 140737488355328) (hln : okLn ds) :
    Calls Tryz.prog 53 #[.slice A n c, .slice L m cm] w fun e w' => e = .returned (.bool (lnkP ds ls)) ∧ Below w.heap.size w w' := by
  obtain ⟨R, eR⟩ : ∃ R, lnkP ds ls = R := ⟨_, rfl⟩
  rw [eR]
  rcases Nat.lt_or_ge 16 m with h0 | h0
  · have hR : R = false := by rw [← eR, lnkP, decide_eq_false (by omega)]; rfl
    have HR := Lib.hid hR
    have d1 : decide (16 < (m : Int)) = true := decide_eq_true (by omega)
    clear hR eR h0
    go_enter Tryz.func53, Tryz.ntmps53
    go_wp2_with (fail)
    go_ret
    exact ⟨by rw [HR.out] <;> rfl, Below.refl _ _⟩
  have ER : Hid (R = (lksGo [] ls && decide (topGo m 0 ds = some (m : Int)))) := Lib.hid (by rw [← eR, lnkP, decide_eq_true (by omega), hm]; rfl)
  have d1 : decide (16 < (m : Int)) = false := decide_eq_false (by omega)
  have HN := Lib.hid hn
  have HRD := Lib.hid hr
  have HM := Lib.hid hm
  have HRT := Lib.hid hrt
  have HU := Lib.hid hu
  have HLN := Lib.hid hln
  clear eR hn hr hm hrt hu hln
  go_enter Tryz.func53, Tryz.ntmps53
  go_wp2_with (fail)
  go_loopw [16] (fun i wr => ∃ k : Nat, k ≤ m ∧ i = .int .i64 k ∧ Hid (lksGo [] ls = lksGo (ls.take k) (ls.drop k)) ∧ wr = w) (fun i _ => m - (intOf i).toNat)
  case atStart => exact ⟨0, Nat.zero_le _, rfl, Lib.hid (by simp), rfl⟩
  case round =>
    obtain ⟨k, hk, rfl, HG, rfl⟩ := hrel
    rcases Nat.lt_or_ge k m with hlt | hge
    · have hlt' : (k : Int) < (m : Int) := by omega
      have hkl : k < ls.length := by rw [HM.out]; exact hlt
      obtain ⟨b, off, rfl, hb, hc⟩ := HRT.out.addr (by omega)
      have c0 := hc k hkl
      obtain ⟨x, ex⟩ : ∃ x, x = ls[k] := ⟨_, rfl⟩
      have hro := lksGo_round hkl ex
      rw [← ex] at c0
      have hux := HU.out x (by rw [ex]; exact List.getElem_mem _)
      obtain ⟨U, eU⟩ : ∃ U, uriMay x = U := ⟨_, rfl⟩
      obtain ⟨MT, eMT⟩ : ∃ MT, memT x (ls.take k) = MT := ⟨_, rfl⟩
      rw [eU, eMT] at hro
      have HRO := Lib.hid hro
      have EU := Lib.hid eU
      have EMT := Lib.hid eMT
      have hct := ContainsT_c (some ⟨b, off, none⟩) k cm (ls.take k) x wr (by rw [List.length_take]; omega) (by
        have := HRT.out
        unfold RdT strV at this ⊢
        rw [List.map_take]
        exact Rd.take this k) (by omega)
      rw [eMT] at hct
      have HCT := Lib.hid hct
      have hum := uriMay_c x wr hux
      rw [eU] at hum
      have HUM := Lib.hid hum
      clear hro eU eMT hct hum hux hc ex
      cases U
      · have HRR : Hid (R = false) := Lib.hid (by rw [ER.out, HG.out, HRO.out]; rfl)
        go_wp2_with (go_at_call 74; (with_reducible refine HUM.out.mono ?_); rintro _ _ ⟨rfl, rfl⟩)
        go_ret
        exact ⟨by rw [HRR.out] <;> rfl, Below.refl _ _⟩
      cases MT
      · go_wp2_with (first
          | (go_at_call 74; (with_reducible refine HUM.out.mono ?_); rintro _ _ ⟨rfl, rfl⟩)
          | (refine wpList_openG (o := ⟨some 27, _, _, _, _, _⟩) (by rfl) ?_; refine wpList_sliceToT _ rfl (.tmp 25) (.tmp 26) rfl _ m cm rfl _ rfl k rfl (by omega) ?_)
          | (go_at_call 75; (with_reducible refine HCT.out.mono ?_); rintro _ _ ⟨rfl, rfl⟩))
        go_roundw
        case rel => exact ⟨k + 1, by omega, by go_num, Lib.hid (by rw [HG.out, HRO.out]; rfl), trivial⟩
        case measure => simp [intOf]; omega
      · have HRR : Hid (R = false) := Lib.hid (by rw [ER.out, HG.out, HRO.out]; rfl)
        go_wp2_with (first
          | (go_at_call 74; (with_reducible refine HUM.out.mono ?_); rintro _ _ ⟨rfl, rfl⟩)
          | (refine wpList_openG (o := ⟨some 27, _, _, _, _, _⟩) (by rfl) ?_; refine wpList_sliceToT _ rfl (.tmp 25) (.tmp 26) rfl _ m cm rfl _ rfl k rfl (by omega) ?_)
          | (go_at_call 75; (with_reducible refine HCT.out.mono ?_); rintro _ _ ⟨rfl, rfl⟩))
        go_ret
        exact ⟨by rw [HRR.out] <;> rfl, Below.refl _ _⟩
    · obtain rfl : m = k := by omega
      have hge' : ¬ ((m : Int) < (m : Int)) := by omega
      have hlk : lksGo [] ls = true := by rw [HG.out, List.drop_of_length_le (by rw [HM.out]; omega), lksGo]
      have ER2 : Hid (R = decide (topGo m 0 ds = some (m : Int))) := Lib.hid (by rw [ER.out, hlk]; rfl)
      clear hlk hge
      obtain ⟨w0, hw0⟩ : ∃ w0, w0 = wr := ⟨_, rfl⟩
      subst hw0
      go_wp2_with (fail)
      go_loopw [7, 34] (fun tv i w2 => ∃ (k : Nat) (t : Int), k ≤ n ∧ i = .int .i64 k ∧ tv = .int .i64 t ∧ 0 ≤ t ∧ t ≤ m ∧ Hid (topGo m 0 ds = topGo m t (ds.drop k)) ∧ Hid (Below w0.heap.size w0 w2)) (fun _ i _ => n - (intOf i).toNat)
      case atStart => exact ⟨0, 0, Nat.zero_le _, rfl, rfl, by omega, by omega, Lib.hid rfl, Lib.hid (Below.refl _ _)⟩
      case round =>
        obtain ⟨k, t, hk, rfl, rfl, ht0, htm, HT, HB⟩ := hrel
        rcases Nat.lt_or_ge k n with hlt | hge
        · have hlt' : (k : Int) < (n : Int) := by omega
          have hkl : k < ds.length := by rw [HN.out]; exact hlt
          obtain ⟨b, off, rfl, hb, hc0⟩ := HRD.out.cellsAt k hkl
          obtain ⟨d, ed⟩ : ∃ d, d = ds[k] := ⟨_, rfl⟩
          obtain ⟨ln0, ln1⟩ := HLN.out d (by rw [ed]; exact List.getElem_mem _)
          rw [← ed] at hc0
          obtain ⟨c0, c1, c2, c3, c4, c5⟩ := hc0.below HB.out hb
          have hst : topGo m t (ds.drop k) = topGo m t (d :: ds.drop (k + 1)) := by rw [List.drop_eq_getElem_cons hkl, ed]
          have k2 : Below w0.heap.size w0 (wr.alloc (.cells #[.int .i32 d.r, .int .u8 d.w, .int .u32 d.fg, .int .u32 d.bg, .int .u8 d.at_, .int .u16 d.ln] 43)) := HB.out.alloc HB.out.size _
          have HST := Lib.hid hst
          clear hst hc0 ed
          rcases Int.lt_or_le (t + 1) d.ln with q1 | q1
          · have HRR : Hid (R = false) := Lib.hid (by rw [ER2.out, HT.out, HST.out, topGo, if_pos (.inl q1)]; rfl)
            have e1 : decide (t + 1 < d.ln) = true := decide_eq_true q1
            go_wp2_with (fail)
            go_ret
            exact ⟨by rw [HRR.out] <;> rfl, k2⟩
          · have e1 : decide (t + 1 < d.ln) = false := decide_eq_false (by omega)
            rcases Int.lt_or_le (m : Int) d.ln with q2 | q2
            · have HRR : Hid (R = false) := Lib.hid (by rw [ER2.out, HT.out, HST.out, topGo, if_pos (.inr q2)]; rfl)
              have e2 : decide ((m : Int) < d.ln) = true := decide_eq_true q2
              go_wp2_with (fail)
              go_ret
              exact ⟨by rw [HRR.out] <;> rfl, k2⟩
            · have e2 : decide ((m : Int) < d.ln) = false := decide_eq_false (by omega)
              rcases Int.lt_or_le t d.ln with q3 | q3
              · have HT2 : Hid (topGo m 0 ds = topGo m d.ln (ds.drop (k + 1))) := Lib.hid (by rw [HT.out, HST.out, topGo, if_neg (by omega), if_pos q3])
                have e3 : decide (t < d.ln) = true := decide_eq_true q3
                go_wp2_with (fail)
                go_roundw
                case rel => exact ⟨k + 1, d.ln, by omega, by go_num, by go_num, ln0, q2, HT2, Lib.hid k2⟩
                case measure => simp [intOf]; omega
              · have HT2 : Hid (topGo m 0 ds = topGo m t (ds.drop (k + 1))) := Lib.hid (by rw [HT.out, HST.out, topGo, if_neg (by omega), if_neg (by omega)])
                have e3 : decide (t < d.ln) = false := decide_eq_false (by omega)
                go_wp2_with (fail)
                go_roundw
                case rel => exact ⟨k + 1, t, by omega, by go_num, by go_num, ht0, htm, HT2, Lib.hid k2⟩
                case measure => simp [intOf]; omega
        · obtain rfl : n = k := by omega
          have hge' : ¬ ((n : Int) < (n : Int)) := by omega
          have ht2 : topGo m 0 ds = some t := by rw [HT.out, List.drop_of_length_le (by rw [HN.out]; omega), topGo]
          have HRR : Hid (R = (t == (m : Int))) := Lib.hid (by rw [ER2.out, ht2, beq_int]; exact decide_eq_decide.2 ⟨fun h => by injection h, fun h => by rw [h]⟩)
          clear ht2
          go_wp2_with (fail)
          go_ret
          exact ⟨by rw [HRR.out] <;> rfl, HB.out⟩
end Go.Proofs.YtndjggabdajbfaaGreatDoor



/- What the reference's Leads and Same (of texts, of cells) answer. Conditions: memory that can be read. -/
namespace Go.Proofs.YtndjggabdajbfaaGreatDoor
open Go Go.RowKit

set_option maxRecDepth 100000 in
set_option maxHeartbeats 8000000 in
theorem leads_c (L : Option Addr) (m cm : Nat) (ls : List ByteArray) (ln : Int) (w : World) (hm : ls.length = m) (hrt : RdT w L ls) (hl : m ≤ 140737488355328) (hu : ∀ u ∈ ls, u.size ≤ 140737488355328) (h0 : 0 ≤ ln) (h1 : ln < 65536) :
    Calls Tryz.prog 94 #[.slice L m cm, .int .u16 ln] w fun e w' => e = .returned (.string (leadsL ls ln)) ∧ w' = w := by
  obtain ⟨R, eR⟩ : ∃ R, leadsL ls ln = R := ⟨_, rfl⟩
  rw [eR]
  rcases Int.lt_or_le ln 1 with q0 | q0
  · have hz : ln = 0 := by omega
    have HR : Hid (R = ⟨#[]⟩) := Lib.hid (by rw [← eR, hz]; rfl)
    have d0 : (ln == 0) = true := by rw [hz]; rfl
    clear eR q0 h0 h1 hz
    go_enter Tryz.func94, Tryz.ntmps94
    go_wp2_with (fail)
    go_ret
    exact ⟨by rw [HR.out] <;> rfl, rfl⟩
  obtain ⟨k, rfl⟩ : ∃ k : Nat, ln = (k : Int) + 1 := ⟨(ln - 1).toNat, by omega⟩
  have d0 : ((k : Int) + 1 == 0) = false := by rw [beq_eq_false_iff_ne]; omega
  rcases Nat.lt_or_ge k m with hk | hk
  rotate_left
  · have HR : Hid (R = ⟨#[]⟩) := Lib.hid (by
      rw [← eR, leadsL, if_neg (by omega), show ((k : Int) + 1 - 1).toNat = k by omega, List.getElem?_eq_none (by omega)])
    have d1 : decide ((m : Int) < (k : Int) + 1) = true := decide_eq_true (by omega)
    clear eR
    go_enter Tryz.func94, Tryz.ntmps94
    go_wp2_with (fail)
    go_ret
    exact ⟨by rw [HR.out] <;> rfl, rfl⟩
  have d1 : decide ((m : Int) < (k : Int) + 1) = false := decide_eq_false (by omega)
  have hkl : k < ls.length := by omega
  obtain ⟨b, off, rfl, hb, hc⟩ := hrt.addr (by omega)
  have c0 := hc k hkl
  obtain ⟨x, ex⟩ : ∃ x, x = ls[k] := ⟨_, rfl⟩
  rw [← ex] at c0
  have hux := hu x (by rw [ex]; exact List.getElem_mem _)
  obtain ⟨U, eU⟩ : ∃ U, uriMay x = U := ⟨_, rfl⟩
  have HR : Hid (R = if U then x else ⟨#[]⟩) := Lib.hid (by
    rw [← eR, leadsL, if_neg (by omega), show ((k : Int) + 1 - 1).toNat = k by omega, List.getElem?_eq_getElem hkl, ← ex]
    simp only [eU])
  have hum : ∀ w, Calls Tryz.prog 98 #[.string x] w fun e w' => e = .returned (.bool U) ∧ w' = w := fun w => by rw [← eU]; exact refUri_c x w hux
  have HUM := Lib.hid hum
  have hk' : (k : Int) < (m : Int) := by omega
  clear eR eU hum hux hc ex hu hm hrt
  cases U
  · go_enter Tryz.func94, Tryz.ntmps94
    go_wp2_with (go_at_call 98; (with_reducible refine (HUM.out _).mono ?_); rintro _ _ ⟨rfl, rfl⟩)
    go_ret
    exact ⟨by rw [HR.out] <;> rfl, rfl⟩
  · go_enter Tryz.func94, Tryz.ntmps94
    go_wp2_with (go_at_call 98; (with_reducible refine (HUM.out _).mono ?_); rintro _ _ ⟨rfl, rfl⟩)
    go_ret
    exact ⟨by rw [HR.out] <;> rfl, rfl⟩
def sameT : List ByteArray → List ByteArray → Bool
  | [], [] => true
  | x :: a, y :: b => decide (x = y) && sameT a b
  | _, _ => false
theorem sameT_iff : ∀ a b, sameT a b = decide (a = b)
  | [], [] => rfl
  | [], _ :: _ => rfl
  | _ :: _, [] => rfl
  | x :: a, y :: b => by
    rw [sameT, sameT_iff a b, Bool.eq_iff_iff]
    simp
theorem sameT_len : ∀ a b : List ByteArray, a.length ≠ b.length → sameT a b = false
  | [], [], h => absurd rfl h
  | [], _ :: _, _ => rfl
  | _ :: _, [], _ => rfl
  | x :: a, y :: b, h => by rw [sameT, sameT_len a b (by simpa using h)]; simp
def sameC : List CeD → List CeD → Bool
  | [], [] => true
  | x :: a, y :: b => cellEq x y && sameC a b
  | _, _ => false
theorem sameC_len : ∀ a b : List CeD, a.length ≠ b.length → sameC a b = false
  | [], [], h => absurd rfl h
  | [], _ :: _, _ => rfl
  | _ :: _, [], _ => rfl
  | x :: a, y :: b, h => by rw [sameC, sameC_len a b (by simpa using h)]; simp
set_option maxRecDepth 100000 in
set_option maxHeartbeats 8000000 in
theorem refSameT_c (A : Option Addr) (n c : Nat) (a : List ByteArray) (B : Option Addr) (m d : Nat) (b : List ByteArray) (w : World) (hn : a.length = n) (hra : RdT w A a) (hm : b.length = m) (hrb : RdT w B b) (hl : n ≤ 140737488355328) :
    Calls Tryz.prog 27 #[.slice A n c, .slice B m d] w fun e w' => e = .returned (.bool (sameT a b)) ∧ Below w.heap.size w w' := by
  obtain ⟨R, eR⟩ : ∃ R, sameT a b = R := ⟨_, rfl⟩
  rw [eR]
  by_cases hnm : n = m
  rotate_left
  · have HR : Hid (R = false) := Lib.hid (by rw [← eR]; exact sameT_len _ _ (by omega))
    have d0 : ((n : Int) != (m : Int)) = true := by rw [bne_iff_ne]; omega
    have d0' : (n != m) = true := by rw [bne_iff_ne]; omega
    clear eR hnm
    go_enter Tryz.func27, Tryz.ntmps27
    go_wp2_with (fail)
    go_ret
    exact ⟨by rw [HR.out] <;> rfl, Below.refl _ _⟩
  subst hnm
  have ER := Lib.hid eR
  have HN := Lib.hid hn
  have HM := Lib.hid hm
  have HA := Lib.hid hra
  have HB := Lib.hid hrb
  clear eR hn hm hra hrb
  go_enter Tryz.func27, Tryz.ntmps27
  go_wp2_with (fail)
  go_loopw [13] (fun i wr => ∃ k : Nat, k ≤ n ∧ i = .int .i64 k ∧ Hid (sameT a b = sameT (a.drop k) (b.drop k)) ∧ Hid (Below w.heap.size w wr)) (fun i _ => n - (intOf i).toNat)
  case atStart => exact ⟨0, Nat.zero_le _, rfl, Lib.hid rfl, Lib.hid (Below.refl _ _)⟩
  case round =>
    obtain ⟨k, hk, rfl, HG, HBW⟩ := hrel
    rcases Nat.lt_or_ge k n with hlt | hge
    · have hlt' : (k : Int) < (n : Int) := by omega
      have ha : k < a.length := by rw [HN.out]; exact hlt
      have hb : k < b.length := by rw [HM.out]; exact hlt
      obtain ⟨g, o, rfl, hg, hc⟩ := HA.out.addr (by omega)
      obtain ⟨g2, o2, rfl, hg2, hc2⟩ := HB.out.addr (by omega)
      have c0 := (HBW.out.cell (p := ⟨g, _, none⟩) hg).trans (hc k ha)
      have c1 := (HBW.out.cell (p := ⟨g2, _, none⟩) hg2).trans (hc2 k hb)
      obtain ⟨x, ex⟩ : ∃ x, x = a[k] := ⟨_, rfl⟩
      obtain ⟨y, ey⟩ : ∃ y, y = b[k] := ⟨_, rfl⟩
      have hst : Hid (sameT a b = (decide (x = y) && sameT (a.drop (k + 1)) (b.drop (k + 1)))) := Lib.hid (by
        rw [HG.out, List.drop_eq_getElem_cons ha, List.drop_eq_getElem_cons hb, sameT, ex, ey])
      rw [← ex] at c0
      rw [← ey] at c1
      clear hc hc2 ex ey
      by_cases he : x = y
      · subst he
        have hst2 : Hid (sameT a b = sameT (a.drop (k + 1)) (b.drop (k + 1))) := Lib.hid (by rw [hst.out, decide_eq_true rfl]; rfl)
        have e1 : (x.toList == x.toList) = true := beq_self_eq_true _
        clear hst
        go_wp2_with (fail)
        go_quiet (fail)
        go_wp2_with (fail)
        go_roundw
        case rel => exact ⟨k + 1, by omega, by go_num, hst2, Lib.hid (below_drewN HBW.out _)⟩
        case measure => simp [intOf]; omega
      · have HRR : Hid (R = false) := Lib.hid (by rw [← ER.out, hst.out, decide_eq_false he]; rfl)
        have e1 : (x.toList == y.toList) = false := by rw [← beq_toListBytes]; exact txt_ne he
        have e2 : (x.toList != y.toList) = true := by rw [bne, e1]; rfl
        clear hst he
        go_wp2_with (fail)
        go_quiet (fail)
        go_wp2_with (fail)
        go_ret
        exact ⟨by rw [HRR.out] <;> rfl, below_drewN HBW.out _⟩
    · obtain rfl : n = k := by omega
      have hge' : ¬ ((n : Int) < (n : Int)) := by omega
      have HRR : Hid (R = true) := Lib.hid (by
        rw [← ER.out, HG.out, List.drop_of_length_le (by rw [HN.out]; omega), List.drop_of_length_le (by rw [HM.out]; omega)]; rfl)
      go_wp2_with (fail)
      go_ret
      exact ⟨by rw [HRR.out] <;> rfl, HBW.out⟩
end Go.Proofs.YtndjggabdajbfaaGreatDoor



/- What the reference's Same of cells answers. Conditions: cells that can be read. -/
namespace Go.Proofs.YtndjggabdajbfaaGreatDoor
open Go Go.RowKit

set_option maxRecDepth 100000 in
set_option maxHeartbeats 8000000 in
theorem refSameC_c (A : Option Addr) (n c : Nat) (a : List CeD) (B : Option Addr) (m d : Nat) (b : List CeD) (w : World) (hn : a.length = n) (hra : RdC w A a) (hm : b.length = m) (hrb : RdC w B b) (hl : n ≤ 140737488355328) :
    Calls Tryz.prog 46 #[.slice A n c, .slice B m d] w fun e w' => e = .returned (.bool (sameC a b)) ∧ Below w.heap.size w w' := by
  obtain ⟨R, eR⟩ : ∃ R, sameC a b = R := ⟨_, rfl⟩; rw [eR]
  by_cases hnm : n = m
  rotate_left
  · have HR : Hid (R = false) := Lib.hid (by rw [← eR]; exact sameC_len _ _ (by omega))
    have d0 : ((n : Int) != (m : Int)) = true := by rw [bne_iff_ne]; omega
    have d0' : (n != m) = true := by rw [bne_iff_ne]; omega
    clear eR hnm
    go_enter Tryz.func46, Tryz.ntmps46
    go_wp2_with (fail)
    go_ret
    exact ⟨by rw [HR.out] <;> rfl, Below.refl _ _⟩
  subst hnm
  have ER := Lib.hid eR
  have HN := Lib.hid hn
  have HM := Lib.hid hm
  have HA := Lib.hid hra
  have HB := Lib.hid hrb
  clear eR hn hm hra hrb
  go_enter Tryz.func46, Tryz.ntmps46
  go_wp2_with (fail)
  go_loopw [13] (fun i wr => ∃ k : Nat, k ≤ n ∧ i = .int .i64 k ∧ Hid (sameC a b = sameC (a.drop k) (b.drop k)) ∧ Hid (Below w.heap.size w wr)) (fun i _ => n - (intOf i).toNat)
  case atStart => exact ⟨0, Nat.zero_le _, rfl, Lib.hid rfl, Lib.hid (Below.refl _ _)⟩
  case round =>
    obtain ⟨k, hk, rfl, HG, HBW⟩ := hrel
    rcases Nat.lt_or_ge k n with hlt | hge
    · have hlt' : (k : Int) < (n : Int) := by omega
      have ha : k < a.length := by rw [HN.out]; exact hlt
      have hb : k < b.length := by rw [HM.out]; exact hlt
      obtain ⟨g, o, rfl, hg, hc⟩ := HA.out.cellsAt k ha; obtain ⟨g2, o2, rfl, hg2, hc2⟩ := HB.out.cellsAt k hb
      have HC := Lib.hid (hc.below HBW.out hg)
      have HC2 := Lib.hid (hc2.below HBW.out hg2)
      have HGS : Hid (g < wr.heap.size) := Lib.hid (Nat.lt_of_lt_of_le hg HBW.out.size)
      have HGS2 : Hid (g2 < wr.heap.size) := Lib.hid (Nat.lt_of_lt_of_le hg2 HBW.out.size)
      obtain ⟨x, ex⟩ : ∃ x, x = a[k] := ⟨_, rfl⟩; obtain ⟨y, ey⟩ : ∃ y, y = b[k] := ⟨_, rfl⟩; obtain ⟨E, eE⟩ : ∃ E, cellEq x y = E := ⟨_, rfl⟩
      have hst : Hid (sameC a b = (E && sameC (a.drop (k + 1)) (b.drop (k + 1)))) := Lib.hid (by
        rw [HG.out, List.drop_eq_getElem_cons ha, List.drop_eq_getElem_cons hb, sameC, ← eE, ex, ey])
      rw [← ex] at HC; rw [← ey] at HC2
      have EE := Lib.hid eE
      clear hc hc2 ex ey eE
      cases E
      · have HRR : Hid (R = false) := Lib.hid (by rw [← ER.out, hst.out]; rfl)
        go_wp2_with (fail)
        refine wp_region_rw 26 [Rl.eq (.slice (some ⟨g, o, none⟩) n c), Rl.eq (.int .i64 (k : Int)), Rl.eq (.pointer (some ⟨g, o + k * 6, none⟩)), Rl.eq (.agg #[.int .i32 x.r, .int .u8 x.w, .int .u32 x.fg, .int .u32 x.bg, .int .u8 x.at_, .int .u16 x.ln]), Rl.eq (.slice (some ⟨g2, o2, none⟩) n d), Rl.eq (.int .i64 (k : Int)), Rl.eq (.pointer (some ⟨g2, o2 + k * 6, none⟩)), Rl.eq (.agg #[.int .i32 y.r, .int .u8 y.w, .int .u32 y.fg, .int .u32 y.bg, .int .u8 y.at_, .int .u16 y.ln]), Rl.eq (.bool true)] [16, 17, 18, 19, 20, 21, 22, 23, 24] (by kernel_rfl) rfl (by kernel_rfl) (by kernel_rfl) ?_ ?_
        · repeat (first | exact AllFrom.nil_ | (refine AllFrom.cons_ (by rfl) ?_ ?_; rotate_left))
          · intro f w' gG hF hD; have h0 : f 0 = .slice (some ⟨g, o, none⟩) n c := hF 0 (by kernel_rfl); rw [if_pos (wanted_none rfl)]; clear hF hD; exact gives_val (by simp only [execOp, evF, h0]; first | rfl | go_simp) ⟨Gr.refl _, rfl⟩
          · intro f w' gG hF hD; have h5 : f 5 = .int .i64 (k : Int) := hF 5 (by kernel_rfl); rw [if_pos (wanted_none rfl)]; clear hF hD; exact gives_val (by simp only [execOp, evF, h5]; first | rfl | go_simp) ⟨Gr.refl _, rfl⟩
          · intro f w' gG hF hD; have h16 : f 16 = .slice (some ⟨g, o, none⟩) n c := hD 0 16 (by kernel_rfl) rfl; have h17 : f 17 = .int .i64 (k : Int) := hD 1 17 (by kernel_rfl) rfl; rw [if_pos (wanted_none rfl)]; clear hF hD; exact gives_val (by simp only [execOp, evF, h16, h17]; first | rfl | go_simp) ⟨Gr.refl _, rfl⟩
          · intro f w' gG hF hD; have h18 : f 18 = .pointer (some ⟨g, o + k * 6, none⟩) := hD 2 18 (by kernel_rfl) rfl; rw [if_pos (wanted_none rfl)]; clear hF hD; obtain ⟨z0, z1, z2, z3, z4, z5⟩ := HC.out.below ((below_drewN (Below.refl wr.heap.size wr) 1).trans gG) HGS.out; exact gives_val (by simp only [execOp, evF, h18]; go_simp) ⟨Gr.refl _, rfl⟩
          · intro f w' gG hF hD; have h1 : f 1 = .slice (some ⟨g2, o2, none⟩) n d := hF 1 (by kernel_rfl); rw [if_pos (wanted_none rfl)]; clear hF hD; exact gives_val (by simp only [execOp, evF, h1]; first | rfl | go_simp) ⟨Gr.refl _, rfl⟩
          · intro f w' gG hF hD; have h5 : f 5 = .int .i64 (k : Int) := hF 5 (by kernel_rfl); rw [if_pos (wanted_none rfl)]; clear hF hD; exact gives_val (by simp only [execOp, evF, h5]; first | rfl | go_simp) ⟨Gr.refl _, rfl⟩
          · intro f w' gG hF hD; have h20 : f 20 = .slice (some ⟨g2, o2, none⟩) n d := hD 4 20 (by kernel_rfl) rfl; have h21 : f 21 = .int .i64 (k : Int) := hD 5 21 (by kernel_rfl) rfl; rw [if_pos (wanted_none rfl)]; clear hF hD; exact gives_val (by simp only [execOp, evF, h20, h21]; first | rfl | go_simp) ⟨Gr.refl _, rfl⟩
          · intro f w' gG hF hD; have h22 : f 22 = .pointer (some ⟨g2, o2 + k * 6, none⟩) := hD 6 22 (by kernel_rfl) rfl; rw [if_pos (wanted_none rfl)]; clear hF hD; obtain ⟨z0, z1, z2, z3, z4, z5⟩ := HC2.out.below ((below_drewN (Below.refl wr.heap.size wr) 1).trans gG) HGS2.out; exact gives_val (by simp only [execOp, evF, h22]; go_simp) ⟨Gr.refl _, rfl⟩
          · intro f w' gG hF hD; have h19 : f 19 = .agg #[.int .i32 x.r, .int .u8 x.w, .int .u32 x.fg, .int .u32 x.bg, .int .u8 x.at_, .int .u16 x.ln] := hD 3 19 (by kernel_rfl) rfl; have h23 : f 23 = .agg #[.int .i32 y.r, .int .u8 y.w, .int .u32 y.fg, .int .u32 y.bg, .int .u8 y.at_, .int .u16 y.ln] := hD 7 23 (by kernel_rfl) rfl; rw [if_pos (wanted_none rfl)]; clear hF hD
            have hpe := run_cellNe x y
            unfold CeD.val at hpe
            exact gives_val (by simp only [execOp, evF, h19, h23, hpe, EE.out]; go_simp; exact EE.out) ⟨Gr.refl _, rfl⟩
        · intro f w' gG hD; have h24 : f 24 = .bool true := hD 8 24 rfl; simp only [putAll, List.setIfInBounds_toArray, List.set_cons_zero, List.set_cons_succ, h24]; clear hD
          have HFIN : Hid (Below w.heap.size w w') := Lib.hid (HBW.out.trans (Below.mono ((below_drewN (Below.refl wr.heap.size wr) 1).trans gG) HBW.out.size))
          clear gG
          go_wp2_with (fail)
          go_ret
          exact ⟨by rw [HRR.out] <;> rfl, HFIN.out⟩
      · have hst2 : Hid (sameC a b = sameC (a.drop (k + 1)) (b.drop (k + 1))) := Lib.hid (by rw [hst.out]; rfl)
        go_wp2_with (fail)
        refine wp_region_rw 26 [Rl.eq (.slice (some ⟨g, o, none⟩) n c), Rl.eq (.int .i64 (k : Int)), Rl.eq (.pointer (some ⟨g, o + k * 6, none⟩)), Rl.eq (.agg #[.int .i32 x.r, .int .u8 x.w, .int .u32 x.fg, .int .u32 x.bg, .int .u8 x.at_, .int .u16 x.ln]), Rl.eq (.slice (some ⟨g2, o2, none⟩) n d), Rl.eq (.int .i64 (k : Int)), Rl.eq (.pointer (some ⟨g2, o2 + k * 6, none⟩)), Rl.eq (.agg #[.int .i32 y.r, .int .u8 y.w, .int .u32 y.fg, .int .u32 y.bg, .int .u8 y.at_, .int .u16 y.ln]), Rl.eq (.bool false)] [16, 17, 18, 19, 20, 21, 22, 23, 24] (by kernel_rfl) rfl (by kernel_rfl) (by kernel_rfl) ?_ ?_
        · repeat (first | exact AllFrom.nil_ | (refine AllFrom.cons_ (by rfl) ?_ ?_; rotate_left))
          · intro f w' gG hF hD; have h0 : f 0 = .slice (some ⟨g, o, none⟩) n c := hF 0 (by kernel_rfl); rw [if_pos (wanted_none rfl)]; clear hF hD; exact gives_val (by simp only [execOp, evF, h0]; first | rfl | go_simp) ⟨Gr.refl _, rfl⟩
          · intro f w' gG hF hD; have h5 : f 5 = .int .i64 (k : Int) := hF 5 (by kernel_rfl); rw [if_pos (wanted_none rfl)]; clear hF hD; exact gives_val (by simp only [execOp, evF, h5]; first | rfl | go_simp) ⟨Gr.refl _, rfl⟩
          · intro f w' gG hF hD; have h16 : f 16 = .slice (some ⟨g, o, none⟩) n c := hD 0 16 (by kernel_rfl) rfl; have h17 : f 17 = .int .i64 (k : Int) := hD 1 17 (by kernel_rfl) rfl; rw [if_pos (wanted_none rfl)]; clear hF hD; exact gives_val (by simp only [execOp, evF, h16, h17]; first | rfl | go_simp) ⟨Gr.refl _, rfl⟩
          · intro f w' gG hF hD; have h18 : f 18 = .pointer (some ⟨g, o + k * 6, none⟩) := hD 2 18 (by kernel_rfl) rfl; rw [if_pos (wanted_none rfl)]; clear hF hD; obtain ⟨z0, z1, z2, z3, z4, z5⟩ := HC.out.below ((below_drewN (Below.refl wr.heap.size wr) 1).trans gG) HGS.out; exact gives_val (by simp only [execOp, evF, h18]; go_simp) ⟨Gr.refl _, rfl⟩
          · intro f w' gG hF hD; have h1 : f 1 = .slice (some ⟨g2, o2, none⟩) n d := hF 1 (by kernel_rfl); rw [if_pos (wanted_none rfl)]; clear hF hD; exact gives_val (by simp only [execOp, evF, h1]; first | rfl | go_simp) ⟨Gr.refl _, rfl⟩
          · intro f w' gG hF hD; have h5 : f 5 = .int .i64 (k : Int) := hF 5 (by kernel_rfl); rw [if_pos (wanted_none rfl)]; clear hF hD; exact gives_val (by simp only [execOp, evF, h5]; first | rfl | go_simp) ⟨Gr.refl _, rfl⟩
          · intro f w' gG hF hD; have h20 : f 20 = .slice (some ⟨g2, o2, none⟩) n d := hD 4 20 (by kernel_rfl) rfl; have h21 : f 21 = .int .i64 (k : Int) := hD 5 21 (by kernel_rfl) rfl; rw [if_pos (wanted_none rfl)]; clear hF hD; exact gives_val (by simp only [execOp, evF, h20, h21]; first | rfl | go_simp) ⟨Gr.refl _, rfl⟩
          · intro f w' gG hF hD; have h22 : f 22 = .pointer (some ⟨g2, o2 + k * 6, none⟩) := hD 6 22 (by kernel_rfl) rfl; rw [if_pos (wanted_none rfl)]; clear hF hD; obtain ⟨z0, z1, z2, z3, z4, z5⟩ := HC2.out.below ((below_drewN (Below.refl wr.heap.size wr) 1).trans gG) HGS2.out; exact gives_val (by simp only [execOp, evF, h22]; go_simp) ⟨Gr.refl _, rfl⟩
          · intro f w' gG hF hD; have h19 : f 19 = .agg #[.int .i32 x.r, .int .u8 x.w, .int .u32 x.fg, .int .u32 x.bg, .int .u8 x.at_, .int .u16 x.ln] := hD 3 19 (by kernel_rfl) rfl; have h23 : f 23 = .agg #[.int .i32 y.r, .int .u8 y.w, .int .u32 y.fg, .int .u32 y.bg, .int .u8 y.at_, .int .u16 y.ln] := hD 7 23 (by kernel_rfl) rfl; rw [if_pos (wanted_none rfl)]; clear hF hD
            have hpe := run_cellNe x y
            unfold CeD.val at hpe
            exact gives_val (by simp only [execOp, evF, h19, h23, hpe, EE.out]; go_simp; exact EE.out) ⟨Gr.refl _, rfl⟩
        · intro f w' gG hD; have h24 : f 24 = .bool false := hD 8 24 rfl; simp only [putAll, List.setIfInBounds_toArray, List.set_cons_zero, List.set_cons_succ, h24]; clear hD
          have HFIN : Hid (Below w.heap.size w w') := Lib.hid (HBW.out.trans (Below.mono ((below_drewN (Below.refl wr.heap.size wr) 1).trans gG) HBW.out.size))
          clear gG hst
          go_wp2_with (fail)
          go_roundw
          case rel => exact ⟨k + 1, by omega, by go_num, hst2, HFIN⟩
          case measure => simp [intOf]; omega
    · obtain rfl : n = k := by omega
      have hge' : ¬ ((n : Int) < (n : Int)) := by omega
      have HRR : Hid (R = true) := Lib.hid (by
        rw [← ER.out, HG.out, List.drop_of_length_le (by rw [HN.out]; omega), List.drop_of_length_le (by rw [HM.out]; omega)]; rfl)
      go_wp2_with (fail)
      go_ret
      exact ⟨by rw [HRR.out] <;> rfl, HBW.out⟩
end Go.Proofs.YtndjggabdajbfaaGreatDoor



/- What the reference's Canon answers: cells whose links have numbers in the order in which they come. Conditions: memory that can be read; numbers that fit. -/
namespace Go.Proofs.YtndjggabdajbfaaGreatDoor
open Go Go.RowKit

def CeD.setLn (d : CeD) (x : Int) : CeD := ⟨d.r, d.w, d.fg, d.bg, d.at_, x⟩
theorem cellsC_ln : ∀ (ds : List CeD) (i : Nat) (h : i < ds.length) (x : Int), (cellsC ds).set (i * 6 + 5) (.int .u16 x) = cellsC (ds.set i (ds[i].setLn x))
  | d :: ds, 0, _, x => rfl
  | d :: ds, i + 1, h, x => by
    rw [cellsC_cons, List.set_append_right _ _ (by simp [CeD.cells]; omega)]
    have e : (i + 1) * 6 + 5 - d.cells.length = i * 6 + 5 := by simp [CeD.cells]; omega
    rw [e, cellsC_ln ds i (by simpa using h)]
    rfl
theorem OwnC.setLn {w : World} {B g n c : Nat} {ds : List CeD} (h : OwnC w B (.slice (some ⟨g, 0, none⟩) n c) ds) (i : Nat) (hi : i < ds.length) (x : Int) :
    OwnC (w.setCell ⟨g, i * 6 + 5, none⟩ (.int .u16 x)) B (.slice (some ⟨g, 0, none⟩) n c) (ds.set i (ds[i].setLn x)) := by
  have h2 := (h.to_n.stored (i * 6 + 5) (.int .u16 x)).1
  have hl := h.len.1
  rw [cellsC_ln ds i hi] at h2
  unfold OwnC
  rw [List.length_set, ← hl]
  exact h2
theorem OwnC.cellsAt {w : World} {B g n c : Nat} {ds : List CeD} (h : OwnC w B (.slice (some ⟨g, 0, none⟩) n c) ds) (i : Nat) (hi : i < ds.length) : ∃ y : CeD, y = ds[i] ∧ CellsAt w g (i * 6) y := ⟨_, rfl, h.six i hi⟩
/-- 'append(v, x)' of one text, laid in a new block. -/
theorem wpList_appT1 (w : World) {ops : Array Oper} {rest : List Oper} {o : Oper} {a : Act} {Q : Exit → Act → World → Prop} (hgd : o.guard = none) (s x : Operand)
    (ho : o.op = .call { callee := .builtin .append, args := #[s, x], argTypes := #[23, 23] })
    (B : Nat) (v : Value) (ss : List ByteArray) (hs : a.eval s = v) (hown : OwnT w B v ss) (X : ByteArray) (hx : a.eval x = .slice (some ⟨w.heap.size, 0, none⟩) 1 1)
    (hlen : ss.length + 1 ≤ 8000000000000) (hB : B ≤ w.heap.size)
    (h : ∀ v' w', OwnT w' B v' (ss ++ [X]) → (w.alloc (.cells #[.string X] 9)).grownBy w' v.ownBlock → wpList Tryz.prog ops Q rest (a.put o.dst v') w') : wpList Tryz.prog ops Q (o :: rest) a (w.alloc (.cells #[.string X] 9)) := by
  refine wpList_appT _ hgd s x ho B v ss hs (Own.alloc hown _) _ 1 1 [X] hx rfl (.inr ⟨w.heap.size, 0, rfl, by simp, fun k hk => ?_⟩) (by omega) (by simp; omega) (fun v' w' g1 g2 _ => h v' w' g1 g2)
  have : k = 0 := by simp [strV] at hk; omega
  subst this
  exact cell_of_row _ _ 0 _ _ (0, 0) (heap_alloc_new w _)
theorem CellsAt.same {w w' : World} {b o : Nat} {d : CeD} (h : CellsAt w b o d) (hb : w'.heap[b]? = w.heap[b]?) : CellsAt w' b o d := by
  obtain ⟨h0, h1, h2, h3, h4, h5⟩ := h
  exact ⟨(World.cell?_of_block (w := w) (a := ⟨b, _, none⟩) hb).trans h0, (World.cell?_of_block (w := w) (a := ⟨b, _, none⟩) hb).trans h1, (World.cell?_of_block (w := w) (a := ⟨b, _, none⟩) hb).trans h2, (World.cell?_of_block (w := w) (a := ⟨b, _, none⟩) hb).trans h3, (World.cell?_of_block (w := w) (a := ⟨b, _, none⟩) hb).trans h4, (World.cell?_of_block (w := w) (a := ⟨b, _, none⟩) hb).trans h5⟩
theorem below_set {B : Nat} {a w : World} (h : Below B a w) (g o : Nat) (u : Value) (hg : B ≤ g) : Below B a (w.setCell ⟨g, o, none⟩ u) :=
  h.trans ⟨rfl, rfl, rfl, by simp [World.setCell], fun j hj => heap_far u (show j ≠ g by omega)⟩
theorem outs_step {α : Type} {ds : List CeD} {k n : Nat} {d : CeD} (F : CeD → α) (z : α) (hn : ds.length = n) (hk : k < n) (hd : d = ds[k]'(by omega)) : ((ds.take k).map F ++ List.replicate (n - k) z).set k (F d) = (ds.take (k + 1)).map F ++ List.replicate (n - (k + 1)) z := by
  have hl : ((ds.take k).map F).length = k := by rw [List.length_map, List.length_take]; omega
  rw [List.set_append_right _ _ (by omega), hl, Nat.sub_self, show n - k = (n - (k + 1)) + 1 by omega, List.replicate_succ, List.set_cons_zero, List.take_succ_eq_append_getElem (by omega), List.map_append, List.append_assoc, hd]
  rfl
def renum (ls m : List ByteArray) (d : CeD) : CeD := d.setLn (numC ls m d.ln)
theorem numC_pos (ls m : List ByteArray) (n : Int) : numC ls m n = if 0 < (leadsL ls n).size then posT (leadsL ls n) m + 1 else 0 := by
  unfold numC posT
  split
  · split <;> simp
  · rfl
theorem posT_in (u : ByteArray) (m : List ByteArray) : -1 ≤ posT u m ∧ posT u m < m.length ∨ posT u m = -1 := by
  unfold posT
  have := placeL_le u m
  split
  · right; rfl
  · left; omega
set_option maxRecDepth 100000 in
set_option maxHeartbeats 16000000 in
theorem refCanon_c (A : Option Addr) (n c : Nat) (ds : List CeD) (L : Option Addr) (m cm : Nat) (ls : List ByteArray) (w : World) (hn : ds.length = n) (hr : RdC w A ds) (hl : n ≤ 60000) (hm : ls.length = m) (hrt : RdT w L ls) (hml : m ≤ 140737488355328) (hu : ∀ u ∈ ls, u.size ≤ 140737488355328) (hln : okLn ds) :
    Calls Tryz.prog 85 #[.slice A n c, .slice L m cm] w fun e w' => ∃ v1 v2, e = .returned (.tuple #[v1, v2]) ∧ OwnC w' w.heap.size v1 (ds.map (renum ls (canGo ls [] ds))) ∧ OwnT w' w.heap.size v2 (canGo ls [] ds) ∧ Below w.heap.size w w' := by
  obtain ⟨M, eM⟩ : ∃ M, canGo ls [] ds = M := ⟨_, rfl⟩
  rw [eM]
  have EM := Lib.hid eM
  have HN := Lib.hid hn
  have HRD := Lib.hid hr
  have HM := Lib.hid hm
  have HRT := Lib.hid hrt
  have HU := Lib.hid hu
  have HLN := Lib.hid hln
  clear eM hn hr hm hrt hu hln
  go_enter Tryz.func85, Tryz.ntmps85
  go_wp2_with (fail)
  go_loopw [6, 7] (fun v i wr => ∃ (k : Nat) (ms : List ByteArray), k ≤ n ∧ i = .int .i64 k ∧ Hid (M = canGo ls ms (ds.drop k)) ∧ Hid (OwnT wr w.heap.size v ms) ∧ Hid (Below w.heap.size w wr) ∧ Hid (ms.length ≤ k)) (fun _ i _ => n - (intOf i).toNat)
  case atStart =>
    refine ⟨0, [], Nat.zero_le _, rfl, Lib.hid (by rw [← EM.out]; rfl), Lib.hid ?_, Lib.hid ((Below.refl _ _).alloc (Nat.le_refl _) _), Lib.hid (Nat.le_refl _)⟩
    have := World.ownsRow_made w (e := 9) (base := w.heap.size) (size := 1) #[] 0 (Nat.le_refl _) (Nat.zero_le _) rfl
    simpa [OwnT, Own, strV] using this
  case round =>
    obtain ⟨k, ms, hk, rfl, HG, HO, HB, HL⟩ := hrel
    rcases Nat.lt_or_ge k n with hlt | hge
    · have hlt' : (k : Int) < (n : Int) := by omega
      have hkl : k < ds.length := by rw [HN.out]; exact hlt
      obtain ⟨b, off, rfl, hb, hc0⟩ := HRD.out.cellsAt k hkl
      obtain ⟨d, ed⟩ : ∃ d, d = ds[k] := ⟨_, rfl⟩
      obtain ⟨ln0, ln1⟩ := HLN.out d (by rw [ed]; exact List.getElem_mem _)
      rw [← ed] at hc0
      have c5 := (hc0.below HB.out hb).2.2.2.2.2
      obtain ⟨x, ex⟩ : ∃ x, leadsL ls d.ln = x := ⟨_, rfl⟩
      have hst : M = if 0 < x.size ∧ placeL x ms = ms.length then canGo ls (ms ++ [x]) (ds.drop (k + 1)) else canGo ls ms (ds.drop (k + 1)) := by
        rw [HG.out, List.drop_eq_getElem_cons hkl, ← ed, canGo, ex]
      have hle := leads_c L m cm ls d.ln wr HM.out (HRT.out.below HB.out) hml HU.out ln0 ln1
      rw [ex] at hle
      have HLE := Lib.hid hle
      have HST := Lib.hid hst
      clear hle hst ex hc0 ed
      rcases Nat.eq_zero_or_pos x.size with hx0 | hx0
      · have hxe : x = ⟨#[]⟩ := by
          cases x with
          | mk dat =>
            congr 1
            exact Array.eq_empty_of_size_eq_zero hx0
        have HG2 : Hid (M = canGo ls ms (ds.drop (k + 1))) := Lib.hid (by rw [HST.out, if_neg (by omega)])
        subst hxe
        clear HST hx0
        go_wp2_with (go_at_call 94; (with_reducible refine HLE.out.mono ?_); rintro _ _ ⟨rfl, rfl⟩)
        go_roundw
        case rel => exact ⟨k + 1, ms, by omega, by go_num, HG2, HO, HB, Lib.hid (by have := HL.out; omega)⟩
        case measure => simp [intOf]; omega
      · have hne : x ≠ ⟨#[]⟩ := by rintro rfl; rw [size_empty] at hx0; omega
        have hne2 : x.toList ≠ [] := by
          intro e
          apply hne
          rw [ByteArray.toList_eq] at e
          cases x with
          | mk dat =>
            congr 1
            exact Array.toList_eq_nil_iff.1 e
        have e1 : (x.toList == []) = false := by rw [beq_eq_false_iff_ne]; exact hne2
        have e2 : (x.toList != []) = true := by rw [bne, e1]; rfl
        obtain ⟨A6, k6, rfl, q1, q2, q3, -⟩ := HO.out.form
        have hpl := refPlace_c A6 ms.length k6 ms x wr rfl q3 (by have := HL.out; omega)
        obtain ⟨Pz, eP⟩ : ∃ Pz, posT x ms = Pz := ⟨_, rfl⟩
        rw [eP] at hpl
        have HPL := Lib.hid hpl
        clear hpl q1 q2 q3 hne hne2
        by_cases hp : placeL x ms = ms.length
        · have hP : Pz = -1 := by rw [← eP, posT, if_pos hp]
          have HG2 : Hid (M = canGo ls (ms ++ [x]) (ds.drop (k + 1))) := Lib.hid (by rw [HST.out, if_pos ⟨hx0, hp⟩])
          subst hP
          clear eP HST hp
          have hz := HB.out.size
          have HZ := Lib.hid hz
          clear hz
          go_wp2_with (first
            | (go_at_call 94; (with_reducible refine HLE.out.mono ?_); rintro _ _ ⟨rfl, rfl⟩)
            | (go_at_call 95; (with_reducible refine HPL.out.mono ?_); rintro _ _ ⟨rfl, rfl⟩)
            | (at_builtin; go_must (refine wpList_appT1 _ rfl (.tmp 35) (.tmp 37) rfl w.heap.size (.slice A6 ms.length k6) ms rfl HO.out x rfl (by have := HL.out; omega) HZ.out ?_); intro v7 w7 h7 hg7; have HO7 := Lib.hid h7; have HB7 := Lib.hid ((HB.out.alloc HZ.out (.cells #[.string x] 9)).grown hg7 (by have := HZ.out; simp; omega) (fun q hq => (Own.lt HO.out q hq).1)); clear h7 hg7))
          go_roundw
          case rel => exact ⟨k + 1, ms ++ [x], by omega, by go_num, HG2, HO7, HB7, Lib.hid (by have := HL.out; rw [List.length_append]; simp; omega)⟩
          case measure => simp [intOf]; omega
        · have hP : ¬ Pz < 0 := by
            rw [← eP, posT, if_neg hp]; omega
          have HG2 : Hid (M = canGo ls ms (ds.drop (k + 1))) := Lib.hid (by rw [HST.out, if_neg (fun q => hp q.2)])
          have e3 : decide (Pz < 0) = false := decide_eq_false hP
          clear eP HST hp
          go_wp2_with (first
            | (go_at_call 94; (with_reducible refine HLE.out.mono ?_); rintro _ _ ⟨rfl, rfl⟩)
            | (go_at_call 95; (with_reducible refine HPL.out.mono ?_); rintro _ _ ⟨rfl, rfl⟩))
          go_roundw
          case rel => exact ⟨k + 1, ms, by omega, by go_num, HG2, HO, HB, Lib.hid (by have := HL.out; omega)⟩
          case measure => simp [intOf]; omega
    · obtain rfl : n = k := by omega
      have hge' : ¬ ((n : Int) < (n : Int)) := by omega
      have hMs : M = ms := by rw [HG.out, List.drop_of_length_le (by rw [HN.out]; omega), canGo]
      subst hMs
      obtain ⟨A6, k6, rfl, q1, q2, q3, -⟩ := HO.out.form
      have HQ3 := Lib.hid q3
      clear q1 q2 q3 hge HG
      obtain ⟨W2, hW2⟩ : ∃ W2, W2 = wr := ⟨_, rfl⟩
      subst hW2
      obtain ⟨g, eg⟩ : ∃ g, g = W2.heap.size := ⟨_, rfl⟩
      have EG := Lib.hid eg
      clear eg
      go_wp2_with (first
        | (at_make; refine wpList_makeC _ rfl (.tmp 40) (.tmp 40) rfl _ _ _ _ n rfl rfl rfl rfl (by omega) ?_; intro w1 h1 h2 _; rw [← EG.out] at h1 ⊢; have H1 := Lib.hid h1; have H2 := Lib.hid h2; clear h1 h2))
      go_loopw [44] (fun i wr => ∃ k : Nat, k ≤ n ∧ i = .int .i64 k ∧ Hid (OwnC wr g (.slice (some ⟨g, 0, none⟩) n n) ((ds.take k).map (renum ls M) ++ List.replicate (n - k) CeD.zero)) ∧ Hid (Below W2.heap.size W2 wr)) (fun i _ => n - (intOf i).toNat)
      case atStart => exact ⟨0, Nat.zero_le _, rfl, Lib.hid (by simpa using H1.out), H2⟩
      case round =>
        obtain ⟨k, hk, rfl, HO2, HB2⟩ := hrel
        rcases Nat.lt_or_ge k n with hlt | hge
        · have hlt' : (k : Int) < (n : Int) := by omega
          have hkl : k < ds.length := by rw [HN.out]; exact hlt
          obtain ⟨b, off, rfl, hb, hc0⟩ := HRD.out.cellsAt k hkl
          obtain ⟨d, ed⟩ : ∃ d, d = ds[k] := ⟨_, rfl⟩
          obtain ⟨ln0, ln1⟩ := HLN.out d (by rw [ed]; exact List.getElem_mem _)
          rw [← ed] at hc0
          have HBW := Lib.hid (HB.out.trans (HB2.out.mono HB.out.size))
          have hcw := hc0.below HBW.out hb
          have HCW := Lib.hid hcw
          have hbg : b ≠ g := by have := HB.out.size; have := EG.out; omega
          have HBG := Lib.hid hbg
          have hlo : ((ds.take k).map (renum ls M) ++ List.replicate (n - k) CeD.zero).length = n := by
            rw [List.length_append, List.length_map, List.length_take, List.length_replicate]; omega
          obtain ⟨O, eO⟩ : ∃ O, O = (ds.take k).map (renum ls M) ++ List.replicate (n - k) CeD.zero := ⟨_, rfl⟩
          rw [← eO] at HO2 hlo
          obtain ⟨yo, -, z0, z1, z2, z3, z4, z5⟩ := HO2.out.cellsAt k (by omega)
          have f0 := HO2.out.free (k * 6)
          have f1 := HO2.out.free (k * 6 + 1)
          have f2 := HO2.out.free (k * 6 + 2)
          have f3 := HO2.out.free (k * 6 + 3)
          have f4 := HO2.out.free (k * 6 + 4)
          have f5 := HO2.out.free (k * 6 + 5)
          obtain ⟨W3, eW3⟩ : ∃ W3, W3 = (((((wr.setCell ⟨g, k * 6, none⟩ (.int .i32 d.r)).setCell ⟨g, k * 6 + 1, none⟩ (.int .u8 d.w)).setCell ⟨g, k * 6 + 2, none⟩ (.int .u32 d.fg)).setCell ⟨g, k * 6 + 3, none⟩ (.int .u32 d.bg)).setCell ⟨g, k * 6 + 4, none⟩ (.int .u8 d.at_)).setCell ⟨g, k * 6 + 5, none⟩ (.int .u16 d.ln) := ⟨_, rfl⟩
          have EW3 := Lib.hid eW3
          have EO := Lib.hid eO
          have HLO := Lib.hid hlo
          obtain ⟨c0, c1, c2, c3, c4, c5⟩ := hcw
          have ED := Lib.hid ed
          clear eW3 eO hlo hc0 ed
          go_upto_region 13 with (fail)
          rw [← EW3.out]
          have HO3 : Hid (OwnC W3 g (.slice (some ⟨g, 0, none⟩) n n) (O.set k d)) := Lib.hid (by rw [EW3.out]; exact HO2.out.setAll k (by have := HLO.out; omega) d)
          have HB3 : Hid (Below W2.heap.size W2 W3) := Lib.hid (by
            have q : W2.heap.size ≤ g := Nat.le_of_eq EG.out.symm
            rw [EW3.out]
            exact below_set (below_set (below_set (below_set (below_set (below_set HB2.out g _ _ q) g _ _ q) g _ _ q) g _ _ q) g _ _ q) g _ _ q)
          have g5 := HO3.out.free (k * 6 + 5)
          obtain ⟨y3, -, -, -, -, -, -, y5⟩ := HO3.out.cellsAt k (by rw [List.length_set]; have := HLO.out; omega)
          obtain ⟨W4, eW4⟩ : ∃ W4, W4 = W3.setCell ⟨g, k * 6 + 5, none⟩ (.int .u16 0) := ⟨_, rfl⟩
          have EW4 := Lib.hid eW4
          clear c0 c1 c2 c3 c4 c5 z0 z1 z2 z3 z4 z5 f0 f1 f2 f3 f4 f5 eW4
          go_upto_region 14 with (fail)
          rw [← EW4.out]
          have HO4 : Hid (OwnC W4 g (.slice (some ⟨g, 0, none⟩) n n) (O.set k (d.setLn 0))) := Lib.hid (by
            have h := HO3.out.setLn k (by rw [List.length_set]; have := HLO.out; omega) 0
            rw [List.getElem_set_self, List.set_set] at h
            rw [EW4.out]; exact h)
          have HB4 : Hid (Below W2.heap.size W2 W4) := Lib.hid (by rw [EW4.out]; exact below_set HB3.out g _ _ (Nat.le_of_eq EG.out.symm))
          have hbw4 := HB.out.trans (HB4.out.mono HB.out.size)
          have c5 := (HRD.out.cellsAt k hkl)
          obtain ⟨b2, off2, e2, -, hcc⟩ := c5
          injection e2 with e2
          injection e2 with e2 e3
          subst e2 e3
          rw [← ED.out] at hcc
          have c5 := (hcc.below hbw4 hb).2.2.2.2.2
          obtain ⟨x, ex⟩ : ∃ x, leadsL ls d.ln = x := ⟨_, rfl⟩
          have hle := leads_c L m cm ls d.ln W4 HM.out (HRT.out.below hbw4) hml HU.out ln0 ln1
          rw [ex] at hle
          have HLE := Lib.hid hle
          have HEX := Lib.hid ex
          clear hle ex hcc hbw4 g5 y5
          rcases Nat.eq_zero_or_pos x.size with hx0 | hx0
          · have hxe : x = ⟨#[]⟩ := by
              cases x with
              | mk dat =>
                congr 1
                exact Array.eq_empty_of_size_eq_zero hx0
            have HFN : Hid (OwnC W4 g (.slice (some ⟨g, 0, none⟩) n n) ((ds.take (k + 1)).map (renum ls M) ++ List.replicate (n - (k + 1)) CeD.zero)) := Lib.hid (by
              rw [← outs_step (renum ls M) CeD.zero HN.out hlt ED.out, ← EO.out, renum, numC, HEX.out, if_neg (by omega)]
              exact HO4.out)
            subst hxe
            clear hx0
            go_wp2_with (go_at_call 94; (with_reducible refine HLE.out.mono ?_); rintro _ _ ⟨rfl, rfl⟩)
            go_roundw
            case rel => exact ⟨k + 1, by omega, by go_num, HFN, HB4⟩
            case measure => simp [intOf]; omega
          · have hne : x ≠ ⟨#[]⟩ := by rintro rfl; rw [size_empty] at hx0; omega
            have hne2 : x.toList ≠ [] := by
              intro e
              apply hne
              rw [ByteArray.toList_eq] at e
              cases x with
              | mk dat =>
                congr 1
                exact Array.toList_eq_nil_iff.1 e
            have e1 : (x.toList == []) = false := by rw [beq_eq_false_iff_ne]; exact hne2
            have e2 : (x.toList != []) = true := by rw [bne, e1]; rfl
            have hpl := refPlace_c A6 M.length k6 M x W4 rfl (HQ3.out.below HB4.out) (by have := HL.out; omega)
            obtain ⟨Pz, eP⟩ : ∃ Pz, posT x M = Pz := ⟨_, rfl⟩
            rw [eP] at hpl
            have HPL := Lib.hid hpl
            have hp0 : 0 ≤ Pz + 1 ∧ Pz + 1 ≤ 60000 := by
              have h1 := posT_in x M
              rw [eP] at h1
              have := HL.out
              omega
            obtain ⟨hp1, hp2⟩ := hp0
            have g5 := HO4.out.free (k * 6 + 5)
            obtain ⟨y4, -, -, -, -, -, -, y5⟩ := HO4.out.cellsAt k (by rw [List.length_set]; have := HLO.out; omega)
            obtain ⟨W5, eW5⟩ : ∃ W5, W5 = W4.setCell ⟨g, k * 6 + 5, none⟩ (.int .u16 (Pz + 1)) := ⟨_, rfl⟩
            have HB5 : Hid (Below W2.heap.size W2 W5) := Lib.hid (by rw [eW5]; exact below_set HB4.out g _ _ (Nat.le_of_eq EG.out.symm))
            have HFN : Hid (OwnC W5 g (.slice (some ⟨g, 0, none⟩) n n) ((ds.take (k + 1)).map (renum ls M) ++ List.replicate (n - (k + 1)) CeD.zero)) := Lib.hid (by
              rw [← outs_step (renum ls M) CeD.zero HN.out hlt ED.out, ← EO.out, renum, numC_pos, HEX.out, if_pos hx0, eP]
              have h := HO4.out.setLn k (by rw [List.length_set]; have := HLO.out; omega) (Pz + 1)
              rw [List.getElem_set_self, List.set_set] at h
              rw [eW5]; exact h)
            have EW5 := Lib.hid eW5
            clear hpl hne hne2 eP eW5
            go_wp2_with (first
              | (go_at_call 94; (with_reducible refine HLE.out.mono ?_); rintro _ wq ⟨rfl, hq⟩; rw [hq]; clear hq wq)
              | (go_at_call 95; (with_reducible refine HPL.out.mono ?_); rintro _ wq ⟨rfl, hq⟩; rw [hq]; clear hq wq))
            rw [← EW5.out]
            go_roundw
            case rel => exact ⟨k + 1, by omega, by go_num, HFN, HB5⟩
            case measure => simp [intOf]; omega
        · obtain rfl : n = k := by omega
          have hge' : ¬ ((n : Int) < (n : Int)) := by omega
          have HFN : Hid (OwnC wr w.heap.size (.slice (some ⟨g, 0, none⟩) n n) (ds.map (renum ls M))) := Lib.hid (by
            have h := HO2.out
            rw [List.take_of_length_le (by rw [HN.out]; omega), Nat.sub_self, List.replicate_zero, List.append_nil] at h
            exact h.low (by rw [EG.out]; exact HB.out.size))
          have HTT : Hid (OwnT wr w.heap.size (.slice A6 M.length k6) M) := Lib.hid (Own.below HO.out HB2.out)
          have HBF : Hid (Below w.heap.size w wr) := Lib.hid (HB.out.trans (HB2.out.mono HB.out.size))
          go_wp2_with (fail)
          go_ret2
          exact ⟨_, _, rfl, HFN.out, HTT.out, HBF.out⟩
end Go.Proofs.YtndjggabdajbfaaGreatDoor



/- What the reference's Right of links answers. Conditions: memory that can be read; numbers that fit. -/
namespace Go.Proofs.YtndjggabdajbfaaGreatDoor
open Go Go.RowKit

theorem canGo_len (ls : List ByteArray) : ∀ (l : List CeD) (m : List ByteArray), (canGo ls m l).length ≤ m.length + l.length
  | [], m => by simp [canGo]
  | c :: l, m => by
    rw [canGo]
    split
    · have := canGo_len ls l (m ++ [leadsL ls c.ln])
      simp only [List.length_append, List.length_cons, List.length_nil] at this ⊢
      omega
    · have := canGo_len ls l m
      simp only [List.length_cons] at this ⊢
      omega
set_option maxRecDepth 100000 in
set_option maxHeartbeats 8000000 in
theorem refLnk_c (A : Option Addr) (n c : Nat) (ds : List CeD) (L : Option Addr) (m cm : Nat) (ls : List ByteArray) (w : World) (hn : ds.length = n) (hr : RdC w A ds) (hl : n ≤ 60000) (hm : ls.length = m) (hrt : RdT w L ls) (hml : m ≤ 140737488355328) (hu : ∀ u ∈ ls, u.size ≤ 140737488355328) (hln : okLn ds) :
    Calls Tryz.prog 64 #[.slice A n c, .slice L m cm] w fun e w' => e = .returned (.bool (lnkP ds ls)) ∧ Below w.heap.size w w' := by
  rw [lnk_eq ds ls (fun d hd => (hln d hd).1)]
  obtain ⟨R, eR⟩ : ∃ R, lnkR ds ls = R := ⟨_, rfl⟩
  rw [eR]
  rcases Nat.lt_or_ge 16 m with h0 | h0
  · have hR : R = false := by rw [← eR, lnkR, decide_eq_false (by omega)]; rfl
    have HR := Lib.hid hR
    have d1 : decide (16 < (m : Int)) = true := decide_eq_true (by omega)
    clear hR eR h0
    go_enter Tryz.func64, Tryz.ntmps64
    go_wp2_with (fail)
    go_ret
    exact ⟨by rw [HR.out] <;> rfl, Below.refl _ _⟩
  have hca := refCanon_c A n c ds L m cm ls w hn hr hl hm hrt hml hu hln
  obtain ⟨M, eM⟩ : ∃ M, canGo ls [] ds = M := ⟨_, rfl⟩
  rw [eM] at hca
  have HML : Hid (M.length ≤ n) := Lib.hid (by have := canGo_len ls ds []; rw [eM] at this; simp at this; omega)
  obtain ⟨E1, eE1⟩ : ∃ E1, ds.map (renum ls M) = E1 := ⟨_, rfl⟩
  rw [eE1] at hca
  have EE1 := Lib.hid eE1
  have HCA := Lib.hid hca
  have ER : Hid (R = (ds.all (fun d => decide (numC ls M d.ln = d.ln)) && sameT M ls)) := Lib.hid (by rw [← eR, lnkR, decide_eq_true (by omega), eM, sameT_iff]; rfl)
  have d1 : decide (16 < (m : Int)) = false := decide_eq_false (by omega)
  have HN := Lib.hid hn
  have HRD := Lib.hid hr
  have HM := Lib.hid hm
  have HRT := Lib.hid hrt
  clear eR hn hr hm hrt hu hln eM hca eE1
  go_enter Tryz.func64, Tryz.ntmps64
  go_wp2_with (go_at_call 85; (with_reducible refine HCA.out.mono ?_); rintro _ w1 ⟨v1, v2, rfl, ho1, ho2, hb1⟩; obtain ⟨A1, k1, rfl, q1, q2, q3, q4, -⟩ := ho1.form; obtain ⟨A2, k2, rfl, r1, r2, r3, r4⟩ := ho2.form; have H1 := Lib.hid q3; have H2 := Lib.hid r3; have HB1 := Lib.hid hb1; clear ho1 ho2 hb1 q1 q2 q3 q4 r1 r2 r3 r4)
  obtain ⟨n1, en1⟩ : ∃ n1, E1.length = n1 := ⟨_, rfl⟩
  rw [en1]
  have HN1 := Lib.hid en1
  clear en1
  obtain ⟨W1, hW1⟩ : ∃ W1, W1 = w1 := ⟨_, rfl⟩
  subst hW1
  go_loopw [19] (fun i wr => ∃ k : Nat, k ≤ n ∧ i = .int .i64 k ∧ Hid (ds.all (fun d => decide (numC ls M d.ln = d.ln)) = (ds.drop k).all (fun d => decide (numC ls M d.ln = d.ln))) ∧ Hid (Below W1.heap.size W1 wr)) (fun i _ => n - (intOf i).toNat)
  case atStart => exact ⟨0, Nat.zero_le _, rfl, Lib.hid rfl, Lib.hid (Below.refl _ _)⟩
  case round =>
    obtain ⟨k, hk, rfl, HG, HBW⟩ := hrel
    rcases Nat.lt_or_ge k n with hlt | hge
    · have hlt' : (k : Int) < (n : Int) := by omega
      have hkl : k < ds.length := by rw [HN.out]; exact hlt
      have hkr : k < E1.length := by rw [← EE1.out, List.length_map]; exact hkl
      have hlt1 : (k : Int) < (n1 : Int) := by have := HN1.out; omega
      have hge1 : E1[k] = renum ls M ds[k] := by simp only [← EE1.out, List.getElem_map]
      obtain ⟨b, off, rfl, hb, hc0⟩ := HRD.out.cellsAt k hkl
      obtain ⟨b1, off1, rfl, hb1, hc1⟩ := H1.out.cellsAt k hkr
      rw [hge1] at hc1
      obtain ⟨d, ed⟩ : ∃ d, d = ds[k] := ⟨_, rfl⟩
      rw [← ed] at hc0 hc1
      have c5 := (hc0.below (HB1.out.trans (HBW.out.mono HB1.out.size)) hb).2.2.2.2.2
      have x5 : wr.cell? ⟨b1, off1 + k * 6 + 5, none⟩ = some (.int .u16 (numC ls M d.ln)) := (hc1.below HBW.out hb1).2.2.2.2.2
      obtain ⟨X, eX⟩ : ∃ X, numC ls M d.ln = X := ⟨_, rfl⟩
      have hst : ds.all (fun d => decide (numC ls M d.ln = d.ln)) = (decide (X = d.ln) && (ds.drop (k + 1)).all (fun d => decide (numC ls M d.ln = d.ln))) := by
        rw [HG.out, List.drop_eq_getElem_cons hkl, ← ed, List.all_cons, eX]
      rw [eX] at x5
      have HST := Lib.hid hst
      clear hst eX ed hc0 hc1 hkr hge1
      by_cases he : X = d.ln
      · have e1 : (X != d.ln) = false := by rw [bne, beq_iff_eq.2 he]; rfl
        have HG2 : Hid (ds.all (fun d => decide (numC ls M d.ln = d.ln)) = (ds.drop (k + 1)).all (fun d => decide (numC ls M d.ln = d.ln))) := Lib.hid (by rw [HST.out, decide_eq_true he]; rfl)
        clear HST he
        go_wp2_with (fail)
        go_quiet (fail)
        go_wp2_with (fail)
        go_roundw
        case rel => exact ⟨k + 1, by omega, by go_num, HG2, Lib.hid (below_drewN HBW.out _)⟩
        case measure => simp [intOf]; omega
      · have e1 : (X != d.ln) = true := by rw [bne_iff_ne]; exact he
        have HRR : Hid (R = false) := Lib.hid (by rw [ER.out, HST.out, decide_eq_false he]; rfl)
        have HFB : Hid (Below w.heap.size w wr) := Lib.hid (HB1.out.trans (HBW.out.mono HB1.out.size))
        clear HST he
        go_wp2_with (fail)
        go_quiet (fail)
        go_wp2_with (fail)
        go_ret
        exact ⟨by rw [HRR.out] <;> rfl, below_drewN HFB.out _⟩
    · obtain rfl : n = k := by omega
      have hge' : ¬ ((n : Int) < (n : Int)) := by omega
      have hall : ds.all (fun d => decide (numC ls M d.ln = d.ln)) = true := by rw [HG.out, List.drop_of_length_le (by rw [HN.out]; omega)]; rfl
      have ER2 : Hid (R = sameT M ls) := Lib.hid (by rw [ER.out, hall]; rfl)
      have hsm := refSameT_c A2 M.length k2 M L m cm ls wr rfl (H2.out.below HBW.out) HM.out (HRT.out.below (HB1.out.trans (HBW.out.mono HB1.out.size))) (by have := HML.out; omega)
      obtain ⟨S, eS⟩ : ∃ S, sameT M ls = S := ⟨_, rfl⟩
      rw [eS] at hsm ER2
      have HSM := Lib.hid hsm
      have HFB : Hid (Below w.heap.size w wr) := Lib.hid (HB1.out.trans (HBW.out.mono HB1.out.size))
      clear hall hsm eS
      go_wp2_with (go_at_call 27; (with_reducible refine HSM.out.mono ?_); rintro _ w9 ⟨rfl, hb9⟩)
      go_ret
      exact ⟨by rw [ER2.out] <;> rfl, HFB.out.trans (hb9.mono HFB.out.size)⟩
end Go.Proofs.YtndjggabdajbfaaGreatDoor



/- Operations on strings: bytes out of one, bytes of one put behind others. Conditions: lengths that fit. -/
namespace Go.Proofs.YtndjggabdajbfaaGreatDoor
open Go Go.RowKit

/-- A string's bytes. -/
def strB (s : ByteArray) : List UInt8 := s.data.toList
theorem strB_len (s : ByteArray) : (strB s).length = s.size := by
  rw [strB, Array.length_toList]; rfl
set_option maxRecDepth 100000 in
/-- '[]byte(s)'. -/
theorem wpList_convB (w : World) {ops : Array Oper} {rest : List Oper} {o : Oper} {a : Act} {Q : Exit → Act → World → Prop} (hgd : o.guard = none) (x : Operand) (ho : o.op = Op.convert 9 26 x)
    (s : ByteArray) (hx : a.eval x = .string s) (hl : s.size ≤ 140737488355328)
    (h : ∀ A c w', Rd w' A ((strB s).map bv) → s.size ≤ c → c ≤ maxLen → Below w.heap.size w w' → wpList Tryz.prog ops Q rest (a.put o.dst (.slice A s.size c)) w') : wpList Tryz.prog ops Q (o :: rest) a w := by
  refine wpList_plain hgd fun K hK => ?_
  have hrun := Lib.run_convert_string_bytes (P := Tryz.prog) w 9 26 5 s Tryz.underlying9 Tryz.underlying26 Tryz.underlying5
  unfold Oper.wp execOp
  simp only [ho, hx, Sem.run_bind, Sem.run_pure, Result.andThen_ok, hrun]
  refine hK _ _ (h _ _ _ (.inr ⟨w.heap.size, 0, rfl, by rw [Lib.bytesWorld_size]; omega, fun k hk => ?_⟩) (grownCap_ge w _ _ _) (grownCap_le_maxLen w _ _ _ (by unfold maxLen; omega)) ⟨rfl, ?_, ?_, by rw [Lib.bytesWorld_size]; omega, fun k hk => Lib.bytesWorld_at_old w _ s k hk⟩)
  · rw [List.length_map, strB_len] at hk
    rw [Nat.zero_add, Lib.bytesWorld_cell w _ s k hk, List.getElem_map]
    congr 1
    unfold bv strB List.getD
    rw [List.getElem?_eq_getElem (by rw [Array.length_toList]; exact hk)]
    rfl
  · simp [Lib.bytesWorld, World.freeze, World.alloc, World.drew, -World.alloc_eq, -World.drew_eq]
  · simp [Lib.bytesWorld, World.freeze, World.alloc, World.drew, -World.alloc_eq, -World.drew_eq]
end Go.Proofs.YtndjggabdajbfaaGreatDoor


