/- Parts one behind the other: What the reference's whole and Valid answer of any bytes; What the reference's begins answers of a beginning of a rune's bytes: true; What the reference's Feed and End answer within a text of runes; A region that draws its order and whose last operation waits for all others: the others by relations, the last one at the end. Conditions: as told at each. -/
import Derived.Test.YtndjggabdajbfaaGreatDoorPG9
import Derived.Test.YtndjggabdajbfaaGreatDoorPG4
import Derived.Laws.Tables
import Derived.Laws.Rows

set_option linter.unusedVariables false
set_option linter.unusedSimpArgs false
/- What the reference's whole and Valid answer of any bytes. Conditions: bytes that can be read. -/
namespace Go.Proofs.YtndjggabdajbfaaGreatDoor
open Go Go.RowKit Go.Lib

set_option maxRecDepth 100000 in
set_option maxHeartbeats 4000000 in
theorem refWhole_c (A : Option Addr) (n c : Nat) (bs : List UInt8) (w : World) (hn : bs.length = n) (hr : Rd w A (bs.map bv)) :
    Calls Tryz.prog 86 #[.slice A n c] w (WhPost bs w) := by
  match bs, hn, hr with
  | [], hn, hr => 
    obtain rfl : n = 0 := by simpa using hn.symm
    have hno : wholeO [] = none := whole_no1 rfl
    have HNO := Lib.hid hno
    clear hno hr hn
    go_enter Tryz.func86, Tryz.ntmps86
    go_wp2_with (fail)
    go_ret2
    exact whPost_no HNO.out (Below.refl _ _)
  | [a0], hn, hr =>
    obtain rfl : n = 1 := by simpa using hn.symm
    exact whole1_c a0 A c _ w rfl hr
  | [a0, a1], hn, hr =>
    obtain rfl : n = 2 := by simpa using hn.symm
    exact whole2_c a0 a1 A c _ w rfl hr
  | [a0, a1, a2], hn, hr =>
    obtain rfl : n = 3 := by simpa using hn.symm
    exact whole3_c a0 a1 a2 A c _ w rfl hr
  | [a0, a1, a2, a3], hn, hr =>
    obtain rfl : n = 4 := by simpa using hn.symm
    exact whole4_c a0 a1 a2 a3 A c _ w rfl hr
  | a :: b :: d :: e :: f :: r, hn, hr =>
    have h5 : 5 ≤ n := by rw [← hn]; simp
    have hno : wholeO (a :: b :: d :: e :: f :: r) = none := whole_no1 rfl
    have HNO := Lib.hid hno
    have d1 : ((n : Int) == 1) = false := by rw [beq_eq_false_iff_ne]; omega
    have d2 : ((n : Int) == 2) = false := by rw [beq_eq_false_iff_ne]; omega
    have d3 : ((n : Int) == 3) = false := by rw [beq_eq_false_iff_ne]; omega
    have d4 : ((n : Int) == 4) = false := by rw [beq_eq_false_iff_ne]; omega
    clear hno hr hn
    go_enter Tryz.func86, Tryz.ntmps86
    go_wp2_with (fail)
    go_ret2
    exact whPost_no HNO.out (Below.refl _ _)
/-- 's[lo:hi]' of bytes. -/
theorem wpList_cutB2 (w w0 : World) {ops : Array Oper} {rest : List Oper} {o : Oper} {a : Act} {Q : Exit → Act → World → Prop} (hgd : o.guard = none) (x y z : Operand) (ho : o.op = .slice 26 x (some y) (some z) none)
    (A : Option Addr) (n c : Nat) (hx : a.eval x = .slice A n c) (bs : List UInt8) (hn : bs.length = n) (hr : Rd w0 A (bs.map bv)) (hnc : n ≤ c) (V W : Int) (hy : a.eval y = .int .i64 V) (hz : a.eval z = .int .i64 W) (l h : Nat) (hV : V = (l : Int)) (hW : W = (h : Int)) (hlh : l ≤ h) (hh : h ≤ n)
    (H : ∀ A', Rd w0 A' (((bs.drop l).take (h - l)).map bv) → wpList Tryz.prog ops Q rest (a.put o.dst (.slice A' (h - l) (c - l))) w) : wpList Tryz.prog ops Q (o :: rest) a w := by
  subst hV hW
  refine wpList_plain hgd fun K hK => ?_
  have h1 : (l : Int) ≤ (h : Int) := by omega
  have h2 : (h : Int) ≤ (c : Int) := by omega
  have hc := (hr.cut (k := l) (n := n) (c := c) (by rw [List.length_map]; exact hn) (by omega) hnc).take (h - l)
  rw [← List.map_drop, ← List.map_take] at hc
  unfold Oper.wp execOp
  simp only [ho, Option.map_some, Option.map_none, hx, hy, hz]
  go_simp
  exact hK _ _ (H _ hc)
set_option maxRecDepth 100000 in
set_option maxHeartbeats 16000000 in
theorem refValid_c (A : Option Addr) (n c : Nat) (bs : List UInt8) (w : World) (hn : bs.length = n) (hr : Rd w A (bs.map bv)) (hnc : n ≤ c) (hl : n ≤ 1000000) :
    Calls Tryz.prog 65 #[.slice A n c] w fun e w' => e = .returned (.bool (utfV bs)) ∧ Below w.heap.size w w' := by
  obtain ⟨R, eR⟩ : ∃ R, utfV bs = R := ⟨_, rfl⟩
  rw [eR]
  have ER := Lib.hid eR
  have HN := Lib.hid hn
  have HRD := Lib.hid hr
  clear eR hn hr
  go_enter Tryz.func65, Tryz.ntmps65
  go_wp2_with (fail)
  go_loopw [3] (fun i wr => ∃ pos : Nat, pos ≤ n ∧ i = .int .i64 pos ∧ Hid (R = utfV (bs.drop pos)) ∧ Hid (Below w.heap.size w wr)) (fun i _ => n - (intOf i).toNat)
  case atStart => exact ⟨0, Nat.zero_le _, rfl, Lib.hid ER.out.symm, Lib.hid (Below.refl _ _)⟩
  case round =>
    obtain ⟨pos, hp, rfl, HG, HB⟩ := hrel
    rcases Nat.lt_or_ge pos n with hlt | hge
    · have hlt' : (pos : Int) < (n : Int) := by omega
      obtain ⟨l, el⟩ : ∃ l, l = bs.drop pos := ⟨_, rfl⟩
      have hll : l.length = n - pos := by rw [el, List.length_drop, HN.out]
      have hne : l ≠ [] := by intro e; rw [e] at hll; simp at hll; omega
      obtain ⟨wd, ewd⟩ : ∃ wd, (if badD l = false then (decodeL l).2 else 0) = wd := ⟨_, rfl⟩
      have hw4 : wd ≤ 4 ∧ wd ≤ n - pos := by
        rw [← ewd]
        split
        · rename_i hb
          have h1 := decodeL_le l hne
          have h2 := whole_take l hne (decodeL l).2 h1
          rw [if_pos ⟨hb, rfl⟩] at h2
          have h3 := (whole_len h2).2
          rw [List.length_take, hll] at h3
          rw [hll] at h1
          omega
        · omega
      have hwh : ∀ k, k ≤ n - pos → 1 ≤ k → (wholeO (l.take k)).isSome = decide (wd = k) := by
        intro k hk h1
        rw [whole_take l hne k (by rw [hll]; exact hk)]
        by_cases hb : badD l = false
        · rw [← ewd, if_pos hb]
          by_cases hk2 : (decodeL l).2 = k
          · rw [if_pos ⟨hb, hk2⟩, decide_eq_true hk2]; rfl
          · rw [if_neg (fun q => hk2 q.2), decide_eq_false hk2]; rfl
        · rw [← ewd, if_neg hb, if_neg (fun q => hb q.1), decide_eq_false (by omega)]; rfl
      have hst : R = (decide (wd ≠ 0) && utfV (bs.drop (pos + wd))) := by
        rw [HG.out, ← el, utfV_step l hne]
        cases hb : badD l
        · have hw1 := decodeL_width l
          have : wd = (decodeL l).2 := by rw [← ewd, if_pos hb]
          rw [decide_eq_true (by omega), this, el, List.drop_drop]
          rfl
        · have : wd = 0 := by rw [← ewd, if_neg (by rw [hb]; exact Bool.noConfusion)]
          rw [decide_eq_false (by omega)]; rfl
      have HST := Lib.hid hst
      have HWH := Lib.hid hwh
      have HLL := Lib.hid hll
      have EL := Lib.hid el
      obtain ⟨hw4a, hw4b⟩ := hw4
      clear hst hwh hll el hne ewd
      obtain ⟨W1, hW1⟩ : ∃ W1, W1 = wr := ⟨_, rfl⟩
      subst hW1
      go_wp2_with (fail)
      go_loopw [4, 5] (fun nv kv wr => ∃ k q : Nat, 1 ≤ k ∧ k ≤ 5 ∧ k ≤ n - pos + 1 ∧ kv = .int .i64 k ∧ nv = .int .i64 q ∧ Hid (q = if wd < k then wd else 0) ∧ q ≤ 4 ∧ Hid (Below w.heap.size w wr)) (fun _ kv _ => 5 - (intOf kv).toNat)
      case atStart => exact ⟨1, 0, by omega, by omega, by omega, rfl, rfl, Lib.hid (by split <;> omega), by omega, HB⟩
      case round =>
        obtain ⟨k, q, hk1, hk5, hkn, rfl, rfl, HQ, hq4, HBW⟩ := hrel
        rcases Nat.lt_or_ge 4 k with g4 | g4
        · have hqw : q = wd := by rw [HQ.out, if_pos (by omega)]
          have d1 : decide ((k : Int) ≤ 4) = false := decide_eq_false (by omega)
          have HQW := Lib.hid hqw
          clear hqw
          rcases Nat.eq_zero_or_pos q with hz | hz
          · have hRf : Hid (R = false) := Lib.hid (by rw [HST.out, ← HQW.out, hz]; rfl)
            have d2 : ((q : Int) == 0) = true := by rw [hz]; rfl
            clear hz
            go_wp2_with (fail)
            go_ret
            exact ⟨by rw [hRf.out] <;> rfl, HBW.out⟩
          · have HG2 : Hid (R = utfV (bs.drop (pos + q))) := Lib.hid (by rw [HST.out, ← HQW.out, decide_eq_true (by omega)]; rfl)
            have d2 : ((q : Int) == 0) = false := by rw [beq_eq_false_iff_ne]; omega
            have hqn : pos + q ≤ n := by have := HQW.out; omega
            go_wp2_with (fail)
            go_roundw
            case rel => exact ⟨pos + q, hqn, by go_num, HG2, HBW⟩
            case measure => simp [intOf]; omega
        · rcases Nat.lt_or_ge (n - pos) k with gn | gn
          · have hqw : q = wd := by rw [HQ.out, if_pos (by omega)]
            have d1 : decide ((k : Int) ≤ 4) = true := decide_eq_true (by omega)
            have d3 : decide ((k : Int) ≤ (n : Int) - (pos : Int)) = false := decide_eq_false (by omega)
            have HQW := Lib.hid hqw
            clear hqw
            rcases Nat.eq_zero_or_pos q with hz | hz
            · have hRf : Hid (R = false) := Lib.hid (by rw [HST.out, ← HQW.out, hz]; rfl)
              have d2 : ((q : Int) == 0) = true := by rw [hz]; rfl
              clear hz
              go_wp2_with (fail)
              go_ret
              exact ⟨by rw [hRf.out] <;> rfl, HBW.out⟩
            · have HG2 : Hid (R = utfV (bs.drop (pos + q))) := Lib.hid (by rw [HST.out, ← HQW.out, decide_eq_true (by omega)]; rfl)
              have d2 : ((q : Int) == 0) = false := by rw [beq_eq_false_iff_ne]; omega
              have hqn : pos + q ≤ n := by have := HQW.out; omega
              go_wp2_with (fail)
              go_roundw
              case rel => exact ⟨pos + q, hqn, by go_num, HG2, HBW⟩
              case measure => simp [intOf]; omega
          · have d1 : decide ((k : Int) ≤ 4) = true := decide_eq_true (by omega)
            have d3 : decide ((k : Int) ≤ (n : Int) - (pos : Int)) = true := decide_eq_true (by omega)
            have hsub : Hid ((bs.drop pos).take (pos + k - pos) = l.take k) := Lib.hid (by rw [EL.out]; congr 1; omega)
            have HKK : Hid (pos + k - pos = k) := Lib.hid (by omega)
            have HLK : Hid ((l.take k).length = k) := Lib.hid (by rw [List.length_take, HLL.out]; omega)
            have hkk := HWH.out k gn hk1
            by_cases hwk : wd = k
            · rw [decide_eq_true hwk] at hkk
              have HKW := Lib.hid hkk
              have HQ2 : Hid (k = if wd < k + 1 then wd else 0) := Lib.hid (by rw [if_pos (by omega)]; exact hwk.symm)
              clear hkk hwk
              go_wp2_with (first
                | (refine wpList_cutB2 _ _ rfl (.tmp 25) (.tmp 26) (.tmp 29) rfl A n c rfl bs HN.out (HRD.out.below HBW.out) hnc _ _ rfl rfl pos (pos + k) rfl (by push_cast; rfl) (Nat.le_add_right _ _) (by omega) ?_; intro A1 hA1; rw [hsub.out] at hA1; rw [HKK.out]; have HA1 := Lib.hid hA1; clear hA1)
                | (go_at_call 86; refine (refWhole_c A1 k _ (l.take k) _ HLK.out HA1.out).mono ?_; rintro _ w2 ⟨rfl, hb2⟩; rw [HKW.out]; have HB2 := Lib.hid (HBW.out.trans (hb2.mono HBW.out.size)); clear hb2))
              go_roundw
              case rel => exact ⟨k + 1, k, by omega, by omega, by omega, by go_num, rfl, HQ2, by omega, HB2⟩
              case measure => simp [intOf]; omega
            · rw [decide_eq_false hwk] at hkk
              have HKW := Lib.hid hkk
              have HQ2 : Hid (q = if wd < k + 1 then wd else 0) := Lib.hid (by rw [HQ.out]; by_cases h : wd < k; rw [if_pos h, if_pos (by omega)]; rw [if_neg h, if_neg (by omega)])
              clear hkk hwk
              go_wp2_with (first
                | (refine wpList_cutB2 _ _ rfl (.tmp 25) (.tmp 26) (.tmp 29) rfl A n c rfl bs HN.out (HRD.out.below HBW.out) hnc _ _ rfl rfl pos (pos + k) rfl (by push_cast; rfl) (Nat.le_add_right _ _) (by omega) ?_; intro A1 hA1; rw [hsub.out] at hA1; rw [HKK.out]; have HA1 := Lib.hid hA1; clear hA1)
                | (go_at_call 86; refine (refWhole_c A1 k _ (l.take k) _ HLK.out HA1.out).mono ?_; rintro _ w2 ⟨rfl, hb2⟩; rw [HKW.out]; have HB2 := Lib.hid (HBW.out.trans (hb2.mono HBW.out.size)); clear hb2))
              go_roundw
              case rel => exact ⟨k + 1, q, by omega, by omega, by omega, by go_num, rfl, HQ2, by omega, HB2⟩
              case measure => simp [intOf]; omega
    · obtain rfl : n = pos := by omega
      have hge' : ¬ ((n : Int) < (n : Int)) := by omega
      have hRt : Hid (R = true) := Lib.hid (by rw [HG.out, List.drop_of_length_le (by rw [HN.out]; omega)]; rfl)
      go_wp2_with (fail)
      go_ret
      exact ⟨by rw [hRt.out] <;> rfl, HB.out⟩
end Go.Proofs.YtndjggabdajbfaaGreatDoor



/- What the reference's begins answers of a beginning of a rune's bytes: true. Conditions: bytes that can be read. -/
namespace Go.Proofs.YtndjggabdajbfaaGreatDoor
open Go Go.RowKit Go.Lib

/-- The last cells to be filled. -/
theorem fill_step {F z : UInt8} {k n : Nat} (hk : k < n) : (List.replicate k F ++ List.replicate (n - k) z).set k F = List.replicate (k + 1) F ++ List.replicate (n - (k + 1)) z := by
  rw [List.set_append_right _ _ (by simp), List.length_replicate, Nat.sub_self, show n - k = (n - (k + 1)) + 1 by omega, List.replicate_succ, List.set_cons_zero, List.replicate_succ', List.append_assoc]
  rfl
theorem set_twice {l : List UInt8} {k : Nat} {x y : UInt8} : (l.set k x).set k y = l.set k y := List.set_set ..
/-- What begins lays: a beginning, filled up. -/
def filled (x : List UInt8) (F : UInt8) (n : Nat) : List UInt8 := x ++ List.replicate (n - x.length) F
theorem filled_len {x : List UInt8} {F : UInt8} {n : Nat} (h : x.length ≤ n) : (filled x F n).length = n := by
  rw [filled, List.length_append, List.length_replicate]; omega
theorem begins_two {l : List UInt8} (hne : l ≠ []) (hb : badD l = false) {p : Nat} (hp : p < (decodeL l).2) (h2 : 2 ≤ p) : (wholeO (filled (l.take p) 191 (decodeL l).2)).isSome = true := by
  have hle := decodeL_le l hne
  have := whole_fill l hne hb p hp h2
  rw [filled, List.length_take, Nat.min_eq_left (by omega)]
  exact this
theorem begins_one {l : List UInt8} (hne : l ≠ []) (hb : badD l = false) (hp : 1 < (decodeL l).2) : (wholeO ((filled (l.take 1) 191 (decodeL l).2).set 1 (l.getD 1 0))).isSome = true := by
  have hle := decodeL_le l hne
  have ht : (filled (l.take 1) 191 (decodeL l).2).set 1 (l.getD 1 0) = l.take 2 ++ List.replicate ((decodeL l).2 - 2) 191 := by
    rw [filled, List.length_take, Nat.min_eq_left (by omega), takeA l (by omega), takeB l (by omega), show (decodeL l).2 - 1 = ((decodeL l).2 - 2) + 1 by omega, List.replicate_succ]
    rfl
  rw [ht]
  by_cases h2 : (decodeL l).2 = 2
  · rw [h2, Nat.sub_self, List.replicate_zero, List.append_nil, whole_take l hne 2 (by omega), if_pos ⟨hb, h2⟩]
    rfl
  · exact whole_fill l hne hb 2 (by omega) (Nat.le_refl _)
theorem OwnB.rd {w : World} {B g n c : Nat} {bs : List UInt8} (h : OwnB w B (.slice (some ⟨g, 0, none⟩) n c) bs) (hn : bs.length = n) : Rd w (some ⟨g, 0, none⟩) (bs.map bv) := by
  obtain ⟨A, c', e, _, _, q, _⟩ := h.form
  injection e with e1 e2 e3
  rw [e1]; exact q
set_option maxRecDepth 100000 in
set_option maxHeartbeats 16000000 in
theorem refBegins_c (l : List UInt8) (p : Nat) (A : Option Addr) (n c : Nat) (bs : List UInt8) (w : World) (hne : l ≠ []) (hb : badD l = false) (hp : p < (decodeL l).2) (hp1 : 1 ≤ p) (hbs : bs = l.take p) (hn : n = p) (hr : Rd w A (bs.map bv)) :
    Calls Tryz.prog 97 #[.slice A n c] w fun e w' => e = .returned (.bool true) ∧ Below w.heap.size w w' := by
  obtain ⟨wd, ewd⟩ : ∃ wd, (decodeL l).2 = wd := ⟨_, rfl⟩
  have hle := decodeL_le l hne
  rw [ewd] at hp hle
  have hw4 : wd ≤ 4 := by have := (second_cont l hne hb (by omega)).2.2.2; rw [ewd] at this; exact this
  have hsc := second_cont l hne hb (by omega)
  have hlen : bs.length = n := by rw [hbs, List.length_take, hn]; omega
  have HTWO : Hid (2 ≤ p → (wholeO (filled bs 191 wd)).isSome = true) := Lib.hid (fun h2 => by
    have := begins_two hne hb (by rw [ewd]; exact hp) h2
    rw [hbs]; rw [ewd] at this; exact this)
  obtain ⟨b1, eb1⟩ : ∃ b1, b1 = l.getD 1 0 := ⟨_, rfl⟩
  have HONE : Hid (p = 1 → (wholeO ((filled bs 191 wd).set 1 b1)).isSome = true) := Lib.hid (fun h1 => by
    have := begins_one hne hb (by omega)
    rw [hbs, h1, eb1]; rw [ewd] at this; exact this)
  have HB1 : Hid (128 ≤ b1.toNat ∧ b1.toNat ≤ 191) := Lib.hid (by rw [eb1]; exact ⟨hsc.1, hsc.2.1⟩)
  have HN := Lib.hid hn
  have HLEN := Lib.hid hlen
  have HRD := Lib.hid hr
  have d0 : ((n : Int) == 0) = false := by rw [beq_eq_false_iff_ne]; omega
  have d3 : decide (3 < (n : Int)) = false := decide_eq_false (by omega)
  have hn1 : 1 ≤ n := by omega
  have hn3 : n ≤ 3 := by omega
  have hnw : n < wd := by omega
  clear hne hb hbs hn hr hle hsc hlen ewd eb1 hp
  go_enter Tryz.func97, Tryz.ntmps97
  go_wp2_with (fail)
  go_loopw [3] (fun mv wr => ∃ m : Nat, n + 1 ≤ m ∧ m ≤ wd ∧ mv = .int .i64 m ∧ Hid (Below w.heap.size w wr)) (fun mv _ => 5 - (intOf mv).toNat)
  case atStart => exact ⟨n + 1, Nat.le_refl _, by omega, by go_num, Lib.hid (Below.refl _ _)⟩
  case round =>
    obtain ⟨m, hm1, hm2, rfl, HBW⟩ := hrel
    have e1 : decide ((m : Int) ≤ 4) = true := decide_eq_true (by omega)
    obtain ⟨W1, hW1⟩ : ∃ W1, W1 = wr := ⟨_, rfl⟩
    subst hW1
    go_wp2_with (fail)
    go_loopw [4] (fun lv wr => ∃ la : Nat, la ≤ 2 ∧ (m = wd → la ≤ 1) ∧ lv = .int .i64 la ∧ Hid (Below w.heap.size w wr)) (fun lv _ => 2 - (intOf lv).toNat)
    case atStart => exact ⟨0, by omega, fun _ => by omega, rfl, HBW⟩
    case round =>
      obtain ⟨la, hl2, hlm, rfl, HBL⟩ := hrel
      rcases Nat.lt_or_ge la 2 with hla | hla
      · have e2 : decide ((la : Int) < 2) = true := decide_eq_true (by omega)
        obtain ⟨W2, hW2⟩ : ∃ W2, W2 = wr := ⟨_, rfl⟩
        subst hW2
        obtain ⟨g, eg⟩ : ∃ g, g = W2.heap.size := ⟨_, rfl⟩
        have EG := Lib.hid eg
        clear eg
        obtain ⟨F, eF⟩ : ∃ F : UInt8, F = if la = 1 then 191 else 128 := ⟨_, rfl⟩
        have EF := Lib.hid eF
        clear eF
        go_wp2_with (first
          | (at_make; refine wpList_makeB _ rfl (.tmp 31) (.tmp 31) rfl _ _ _ _ m rfl rfl rfl rfl (by omega) ?_; intro w1 h1 h2 _; rw [← EG.out] at h1 ⊢; have H1 := Lib.hid h1; have H2 := Lib.hid h2; clear h1 h2))
        go_loopw [35] (fun iv wr => ∃ k : Nat, k ≤ m ∧ iv = .int .i64 k ∧ Hid (OwnB wr g (.slice (some ⟨g, 0, none⟩) m m) (List.replicate k F ++ List.replicate (m - k) 0)) ∧ Hid (Below W2.heap.size W2 wr)) (fun iv _ => m - (intOf iv).toNat)
        case atStart => exact ⟨0, Nat.zero_le _, rfl, Lib.hid (by simpa using H1.out), H2⟩
        case round =>
          obtain ⟨k, hk, rfl, HO, HB2⟩ := hrel
          rcases Nat.lt_or_ge k m with hlt | hge
          · have hlt' : (k : Int) < (m : Int) := by omega
            have z0 := HO.out.cell k (by rw [List.length_append, List.length_replicate, List.length_replicate]; omega)
            obtain ⟨zv, ezv⟩ : ∃ zv, zv = bv ((List.replicate k F ++ List.replicate (m - k) 0)[k]'(by rw [List.length_append, List.length_replicate, List.length_replicate]; omega)) := ⟨_, rfl⟩
            rw [← ezv] at z0
            clear ezv
            have f0 := HO.out.free k
            by_cases h1 : la = 1
            · have hF : F = 191 := by rw [EF.out, if_pos h1]
              have e3 : ((la : Int) == 1) = true := by rw [h1]; rfl
              obtain ⟨W4, eW4⟩ : ∃ W4, W4 = (wr.setCell ⟨g, k, none⟩ (.int .u8 128)).setCell ⟨g, k, none⟩ (.int .u8 191) := ⟨_, rfl⟩
              have HO4 : Hid (OwnB W4 g (.slice (some ⟨g, 0, none⟩) m m) (List.replicate (k + 1) F ++ List.replicate (m - (k + 1)) 0)) := Lib.hid (by
                have h := (HO.out.set k 128).set k 191
                rw [set_twice, ← hF, fill_step hlt] at h
                rw [eW4]
                rw [hF] at h ⊢
                exact h)
              have HB4 : Hid (Below W2.heap.size W2 W4) := Lib.hid (by rw [eW4]; exact below_set (below_set HB2.out g _ _ (Nat.le_of_eq EG.out.symm)) g _ _ (Nat.le_of_eq EG.out.symm))
              have EW4 := Lib.hid eW4
              clear h1 hF eW4
              go_wp2_with (fail)
              rw [← EW4.out]
              go_roundw
              case rel => exact ⟨k + 1, by omega, by go_num, HO4, HB4⟩
              case measure => simp [intOf]; omega
            · have hF : F = 128 := by rw [EF.out, if_neg h1]
              have e3 : ((la : Int) == 1) = false := by rw [beq_eq_false_iff_ne]; omega
              obtain ⟨W4, eW4⟩ : ∃ W4, W4 = wr.setCell ⟨g, k, none⟩ (.int .u8 128) := ⟨_, rfl⟩
              have HO4 : Hid (OwnB W4 g (.slice (some ⟨g, 0, none⟩) m m) (List.replicate (k + 1) F ++ List.replicate (m - (k + 1)) 0)) := Lib.hid (by
                have h := HO.out.set k 128
                rw [← hF, fill_step hlt] at h
                rw [eW4]
                rw [hF] at h ⊢
                exact h)
              have HB4 : Hid (Below W2.heap.size W2 W4) := Lib.hid (by rw [eW4]; exact below_set HB2.out g _ _ (Nat.le_of_eq EG.out.symm))
              have EW4 := Lib.hid eW4
              clear h1 hF eW4
              go_wp2_with (fail)
              rw [← EW4.out]
              go_roundw
              case rel => exact ⟨k + 1, by omega, by go_num, HO4, HB4⟩
              case measure => simp [intOf]; omega
          · obtain rfl : m = k := by omega
            have hge' : ¬ ((m : Int) < (m : Int)) := by omega
            have HO2 : Hid (OwnB wr g (.slice (some ⟨g, 0, none⟩) m m) (List.replicate m F)) := Lib.hid (by have h := HO.out; rw [Nat.sub_self, List.replicate_zero, List.append_nil] at h; exact h)
            have hfl : bs.take m ++ (List.replicate m F).drop n = filled bs F m := by rw [filled, List.take_of_length_le (by rw [HLEN.out]; omega), List.drop_replicate, HLEN.out]
            have HFL := Lib.hid hfl
            have HXL : Hid ((filled bs F m).length = m) := Lib.hid (filled_len (by rw [HLEN.out]; omega))
            have HBV : Hid (Below w.heap.size w wr) := Lib.hid (HBL.out.trans (HB2.out.mono HBL.out.size))
            have HGW : Hid (w.heap.size ≤ g) := Lib.hid (by rw [EG.out]; exact HBL.out.size)
            clear hfl HO hge
            by_cases hp2 : n = 1
            · have e4 : ((n : Int) == 1) = true := by rw [hp2]; rfl
              have HTW : Hid (m = wd → la = 1 → (wholeO ((filled bs F m).set 1 b1)).isSome = true) := Lib.hid (fun h1 h2 => by
                rw [h1, EF.out, if_pos h2]; exact HONE.out (by have := HN.out; omega))
              obtain ⟨X, eX⟩ : ∃ X, filled bs F m = X := ⟨_, rfl⟩
              rw [eX] at HFL HXL HTW
              have hm2' : 2 ≤ m := by omega
              clear hp2 eX
              go_wp2_with (first
                | ((with_reducible refine wpList_copyB _ rfl (.tmp 47) (.tmp 48) rfl g g m m _ rfl HO2.out A n c bs rfl HLEN.out (HRD.out.below HBV.out) ?_); intro w3 h3 h4 _; rw [HFL.out] at h3; have H3 := Lib.hid h3; have HB3 := Lib.hid (HBV.out.trans (h4.mono HGW.out)); clear h3 h4))
              go_loopw [7] (fun sv wr => ∃ s : Nat, 128 ≤ s ∧ s ≤ 192 ∧ sv = .int .i64 s ∧ Hid (m = wd → la = 1 → s ≤ b1.toNat) ∧ Hid (∃ xs : List UInt8, OwnB wr g (.slice (some ⟨g, 0, none⟩) m m) xs ∧ xs.length = m ∧ ∀ v, xs.set 1 v = X.set 1 v) ∧ Hid (Below w.heap.size w wr)) (fun sv _ => 192 - (intOf sv).toNat)
              case atStart => exact ⟨128, Nat.le_refl _, by omega, rfl, Lib.hid (fun _ _ => HB1.out.1), Lib.hid ⟨X, H3.out, HXL.out, fun _ => rfl⟩, HB3⟩
              case round =>
                obtain ⟨s, hs1, hs2, rfl, HSB, HXS, HBS⟩ := hrel
                rcases Nat.lt_or_ge s 192 with hs | hs
                · have e5 : decide ((s : Int) ≤ 191) = true := decide_eq_true (by omega)
                  obtain ⟨xs, hxo, hxl, hxx⟩ := HXS.out
                  have z1 := hxo.cell 1 (by omega)
                  obtain ⟨zv, ezv⟩ : ∃ zv, zv = bv (xs[1]'(by omega)) := ⟨_, rfl⟩
                  rw [← ezv] at z1
                  have f1 := hxo.free 1
                  have hsv : bv (UInt8.ofNat s) = .int .u8 (s : Int) := by
                    rw [bv, UInt8.toNat_ofNat']
                    congr 1
                    omega
                  obtain ⟨W4, eW4⟩ : ∃ W4, W4 = wr.setCell ⟨g, 1, none⟩ (.int .u8 (s : Int)) := ⟨_, rfl⟩
                  obtain ⟨Y, eY⟩ : ∃ Y, X.set 1 (UInt8.ofNat s) = Y := ⟨_, rfl⟩
                  have HO4 : Hid (OwnB W4 g (.slice (some ⟨g, 0, none⟩) m m) Y) := Lib.hid (by
                    have h := hxo.set 1 (UInt8.ofNat s)
                    rw [hxx, eY, hsv] at h
                    rw [eW4]; exact h)
                  have HYL : Hid (Y.length = m) := Lib.hid (by rw [← eY, List.length_set]; exact HXL.out)
                  have HYY : Hid (∀ v, Y.set 1 v = X.set 1 v) := Lib.hid (fun v => by rw [← eY, List.set_set])
                  have HB4 : Hid (Below w.heap.size w W4) := Lib.hid (by rw [eW4]; exact below_set HBS.out g _ _ HGW.out)
                  have EW4 := Lib.hid eW4
                  obtain ⟨S, eS⟩ : ∃ S, (wholeO Y).isSome = S := ⟨_, rfl⟩
                  have ES := Lib.hid eS
                  have HHIT : Hid (m = wd → la = 1 → s = b1.toNat → S = true) := Lib.hid (fun h1 h2 h3 => by
                    rw [← eS, ← eY, h3, UInt8.ofNat_toNat]; exact HTW.out h1 h2)
                  clear hxo hxl hxx ezv eW4 eS eY hsv
                  cases S
                  · go_upto_region 23 with (fail)
                    rw [← EW4.out]
                    clear z1 f1
                    go_wp2_with (go_at_call 86; refine (refWhole_c _ m m Y _ HYL.out (OwnB.rd HO4.out HYL.out)).mono ?_; rintro _ w5 ⟨rfl, hb5⟩; rw [ES.out]; have HB5 := Lib.hid (HB4.out.trans (hb5.mono HB4.out.size)); have HO5 := Lib.hid (Own.below HO4.out hb5); clear hb5)
                    go_roundw
                    case rel => exact ⟨s + 1, by omega, by omega, by go_num, Lib.hid (fun h1 h2 => by
                      have q1 := HSB.out h1 h2
                      rcases Nat.lt_or_ge s b1.toNat with q2 | q2
                      · exact q2
                      · exact Bool.noConfusion (HHIT.out h1 h2 (by omega))), Lib.hid ⟨Y, HO5.out, HYL.out, HYY.out⟩, HB5⟩
                    case measure => simp [intOf]; omega
                  · go_upto_region 23 with (fail)
                    rw [← EW4.out]
                    clear z1 f1
                    go_wp2_with (go_at_call 86; refine (refWhole_c _ m m Y _ HYL.out (OwnB.rd HO4.out HYL.out)).mono ?_; rintro _ w5 ⟨rfl, hb5⟩; rw [ES.out]; have HB5 := Lib.hid (HB4.out.trans (hb5.mono HB4.out.size)); clear hb5)
                    go_ret
                    exact ⟨rfl, HB5.out⟩
                · have e5 : decide ((s : Int) ≤ 191) = false := decide_eq_false (by omega)
                  have hnot : ¬ (m = wd ∧ la = 1) := fun h => by
                    have := HSB.out h.1 h.2
                    have := HB1.out.2
                    omega
                  go_wp2_with (fail)
                  go_roundw
                  case rel => exact ⟨la + 1, by omega, fun h => by omega, by go_num, HBS⟩
                  case measure => simp [intOf]; omega
            · have e4 : ((n : Int) == 1) = false := by rw [beq_eq_false_iff_ne]; omega
              have HTW : Hid (m = wd → la = 1 → (wholeO (filled bs F m)).isSome = true) := Lib.hid (fun h1 h2 => by
                rw [h1, EF.out, if_pos h2]; exact HTWO.out (by have := HN.out; omega))
              obtain ⟨S, eS⟩ : ∃ S, (wholeO (filled bs F m)).isSome = S := ⟨_, rfl⟩
              have ES := Lib.hid eS
              clear eS hp2
              cases S
              · have hnot : ¬ (m = wd ∧ la = 1) := fun h => by have := HTW.out h.1 h.2; rw [ES.out] at this; cases this
                go_wp2_with (first
                  | ((with_reducible refine wpList_copyB _ rfl (.tmp 47) (.tmp 48) rfl g g m m _ rfl HO2.out A n c bs rfl HLEN.out (HRD.out.below HBV.out) ?_); intro w3 h3 h4 _; rw [HFL.out] at h3; have H3 := Lib.hid h3; have HB3 := Lib.hid (HBV.out.trans (h4.mono HGW.out)); clear h3 h4)
                  | (go_at_call 86; refine (refWhole_c _ m m (filled bs F m) w3 HXL.out (OwnB.rd H3.out HXL.out)).mono ?_; rintro _ w5 ⟨rfl, hb5⟩; rw [ES.out]; have HB5 := Lib.hid (HB3.out.trans (hb5.mono HB3.out.size)); clear hb5))
                go_roundw
                case rel => exact ⟨la + 1, by omega, fun h => by omega, by go_num, HB5⟩
                case measure => simp [intOf]; omega
              · go_wp2_with (first
                  | ((with_reducible refine wpList_copyB _ rfl (.tmp 47) (.tmp 48) rfl g g m m _ rfl HO2.out A n c bs rfl HLEN.out (HRD.out.below HBV.out) ?_); intro w3 h3 h4 _; rw [HFL.out] at h3; have H3 := Lib.hid h3; have HB3 := Lib.hid (HBV.out.trans (h4.mono HGW.out)); clear h3 h4)
                  | (go_at_call 86; refine (refWhole_c _ m m (filled bs F m) w3 HXL.out (OwnB.rd H3.out HXL.out)).mono ?_; rintro _ w5 ⟨rfl, hb5⟩; rw [ES.out]; have HB5 := Lib.hid (HB3.out.trans (hb5.mono HB3.out.size)); clear hb5))
                go_ret
                exact ⟨rfl, HB5.out⟩
      · have hm3 : m + 1 ≤ wd := by
          rcases Nat.lt_or_ge m wd with h | h
          · exact h
          · have := hlm (by omega); omega
        have e2 : decide ((la : Int) < 2) = false := decide_eq_false (by omega)
        go_wp2_with (fail)
        go_roundw
        case rel => exact ⟨m + 1, by omega, hm3, by go_num, HBL⟩
        case measure => simp [intOf]; omega
end Go.Proofs.YtndjggabdajbfaaGreatDoor



/- What the reference's Feed and End answer within a text of runes. Conditions: bytes that can be read. -/
namespace Go.Proofs.YtndjggabdajbfaaGreatDoor
open Go Go.RowKit Go.Lib

/-- Runes in a row of the call's own. -/
def OwnR (w : World) (B : Nat) (v : Value) (rs : List Int) : Prop := Own w B 21 v (rs.map fun r => Value.int .i32 r)
theorem info_i32 : (Tryz.prog.info? 21).map (fun i => (i.zero, i.size, i.bytes)) = some (some (.int .i32 0), 1, 4) := by kernel_rfl
theorem OwnR.form {w : World} {B : Nat} {v : Value} {rs : List Int} (h : OwnR w B v rs) : ∃ A c, v = .slice A rs.length c ∧ rs.length ≤ c ∧ c ≤ maxLen ∧ Rd w A (rs.map fun r => Value.int .i32 r) := by
  obtain ⟨A, c, h1, h2, h3, h4, _⟩ := Own.form h
  simp only [List.length_map] at h1 h2
  exact ⟨A, c, h1, h2, h3, h4⟩
/-- 'append(v, xs...)' on runes. -/
theorem wpList_appR (w : World) {ops : Array Oper} {rest : List Oper} {o : Oper} {a : Act} {Q : Exit → Act → World → Prop} (hgd : o.guard = none) (s x : Operand)
    (ho : o.op = .call { callee := .builtin .append, args := #[s, x], argTypes := #[111, 111] })
    (B : Nat) (v : Value) (bs : List Int) (hs : a.eval s = v) (hown : OwnR w B v bs)
    (A : Option Addr) (m c : Nat) (ns : List Int) (hx : a.eval x = .slice A m c) (hm : ns.length = m) (hr : Rd w A (ns.map fun r => Value.int .i32 r))
    (hlen : bs.length + m ≤ 10000000) (hB : B ≤ w.heap.size)
    (h : ∀ v' w', OwnR w' B v' (bs ++ ns) → w.grownBy w' v.ownBlock → (v'.ownBlock = v.ownBlock ∨ v'.ownBlock = some w.heap.size) → wpList Tryz.prog ops Q rest (a.put o.dst v') w') : wpList Tryz.prog ops Q (o :: rest) a w := by
  obtain ⟨i0, hi, hz0, hz1, hz2⟩ := info_parts info_i32
  refine wpList_app w hgd s x 111 ho B 21 i0 _ 4 Tryz.underlying111 hi hz0 hz1 hz2 rfl v _ hs hown A m c (ns.map fun r => Value.int .i32 r) hx (by simpa using hm) hr (by
    intro u hu
    obtain ⟨_, _, rfl⟩ := List.mem_map.1 hu
    rfl) (by simp only [List.length_map, maxLen]; omega) (by simp only [List.length_map]; omega) hB ?_
  intro v' w' h1 h2 h3
  exact h v' w' (by simpa [OwnR] using h1) h2 h3
/-- What Feed answers. -/
def FeedP (l : List UInt8) (p : Nat) (w : World) (e : Ending) (w' : World) : Prop :=
  Below w.heap.size w w' ∧ (if p + 1 = (decodeL l).2 then ∃ A c, e = .returned (.tuple #[.slice A 1 c, .agg #[.slice none 0 0]]) ∧ Rd w' A [.int .i32 ((decodeL l).1 : Int)] ∧ (∀ a, A = some a → w.heap.size ≤ a.block)
    else ∃ A c, e = .returned (.tuple #[.slice none 0 0, .agg #[.slice A (p + 1) c]]) ∧ Rd w' A ((l.take (p + 1)).map bv) ∧ p + 1 ≤ c ∧ c ≤ maxLen ∧ (∀ a, A = some a → w.heap.size ≤ a.block))
theorem take_one_more {l : List UInt8} {p : Nat} {b : UInt8} (hp : p < l.length) (hb : b = l[p]) : l.take p ++ [b] = l.take (p + 1) := by
  rw [List.take_succ_eq_append_getElem hp, hb]
set_option maxRecDepth 100000 in
set_option maxHeartbeats 16000000 in
theorem refFeed_c (l : List UInt8) (p : Nat) (A : Option Addr) (c : Nat) (b : UInt8) (w : World) (hne : l ≠ []) (hb : badD l = false) (hp : p < (decodeL l).2) (hr : Rd w A ((l.take p).map bv)) (hbb : ∀ h : p < l.length, b = l[p]) :
    Calls Tryz.prog 87 #[.agg #[.slice A p c], .int .u8 ((b.toNat : Nat) : Int)] w (FeedP l p w) := by
  have hle := decodeL_le l hne
  have hpl : p < l.length := by omega
  have hx := take_one_more hpl (hbb hpl)
  have hw4 : (decodeL l).2 ≤ 4 := by
    have h2 := whole_take l hne (decodeL l).2 hle
    rw [if_pos ⟨hb, rfl⟩] at h2
    have h3 := (whole_len h2).2
    rw [List.length_take] at h3
    omega
  have hlen : (l.take p).length = p := by rw [List.length_take]; omega
  have hwh := whole_take l hne (p + 1) (by omega)
  obtain ⟨X, eX⟩ : ∃ X, l.take (p + 1) = X := ⟨_, rfl⟩
  rw [eX] at hx hwh
  have HX := Lib.hid hx
  have HLEN := Lib.hid hlen
  have HR := Lib.hid hr
  have HXL : Hid (X.length = p + 1) := Lib.hid (by rw [← eX, List.length_take]; omega)
  have EX := Lib.hid eX
  have hp4 : p < 4 := by omega
  obtain ⟨W2, eW2⟩ : ∃ W2, W2 = (w.alloc (.cells #[.slice A p c] 141)).alloc (.cells #[.slice none 0 0] 141) := ⟨_, rfl⟩
  obtain ⟨g2, eg2⟩ : ∃ g, g = w.heap.size := ⟨_, rfl⟩
  obtain ⟨g5, eg5⟩ : ∃ g, g = w.heap.size + 1 := ⟨_, rfl⟩
  have b2 : Below w.heap.size w W2 := by rw [eW2]; exact ((Below.refl _ _).alloc (Nat.le_refl _) _).alloc (by simp) _
  have hz2 : W2.heap.size = g5 + 1 := by rw [eW2, eg5]; simp
  have h2 : W2.heap[g2]? = some (.cells #[.slice A p c] 141 (0, 0)) := by
    rw [eW2, eg2]
    exact (Below.heap_alloc _ _ _ (by simp)).trans (heap_alloc_new _ _)
  have h5 : W2.heap[g5]? = some (.cells #[.slice none 0 0] 141 (0, 0)) := by
    rw [eW2, eg5]
    have := heap_alloc_new (w.alloc (.cells #[.slice A p c] 141)) (.cells #[.slice none 0 0] 141)
    simpa using this
  have H5 := Lib.hid h5
  have HZ2 := Lib.hid hz2
  have HB2 := Lib.hid b2
  have EW2 := Lib.hid eW2
  have EG2 := Lib.hid eg2
  have EG5 := Lib.hid eg5
  obtain ⟨w3, ew3⟩ : ∃ w3, w3 = W2.alloc (.cells #[] 5) := ⟨_, rfl⟩
  have HO3 : Hid (OwnB w3 (g5 + 1) (.slice (some ⟨W2.heap.size, 0, none⟩) 0 0) []) := Lib.hid (by
    have := World.ownsRow_made W2 (e := 5) (base := g5 + 1) (size := 1) #[] 0 (by rw [hz2]; exact Nat.le_refl _) (Nat.zero_le _) rfl
    rw [ew3]
    simpa [OwnB, Own] using this)
  have c2 : (W2.alloc (.cells #[] 5)).cell? ⟨g2, 0, none⟩ = some (.slice A p c) := by
    rw [heap_cell ((Below.heap_alloc _ _ _ (heap_lt h2)).trans h2)]; rfl
  have HB3 : Hid (Below (g5 + 1) W2 w3) := Lib.hid (by rw [ew3]; exact (Below.refl _ _).alloc (by rw [hz2]; exact Nat.le_refl _) _)
  have HR3 : Hid (Rd w3 A ((l.take p).map bv)) := Lib.hid ((HR.out.below HB2.out).below (HB3.out.mono (Nat.le_refl _) |> fun h => by rw [← hz2] at h; exact h))
  have HZ3 : Hid (w3.heap.size = g5 + 2) := Lib.hid (by rw [ew3]; simp [hz2])
  have EW3 := Lib.hid ew3
  clear hx hlen hr hbb eX eW2 eg2 eg5 h2 h5 hz2 b2 ew3
  go_enter Tryz.func87, Tryz.ntmps87
  go_upto_region 1 with (fail)
  rw [← EW2.out, ← EG5.out, ← EG2.out]
  go_wp2_with (first
    | (at_builtin; refine wpList_appB _ rfl (.tmp 11) (.tmp 13) rfl (g5 + 1) (.slice (some ⟨W2.heap.size, 0, none⟩) 0 0) [] rfl (EW3.out ▸ HO3.out) A p c (l.take p) rfl HLEN.out (EW3.out ▸ HR3.out) (by simp; omega) (by have := HZ3.out; rw [EW3.out] at this; omega) ?_; intro v4 w4 q4 hg4 hv4; have hB4 : Below (g5 + 1) w3 w4 := (Below.refl _ _).grown (EW3.out ▸ hg4) (by have := HZ3.out; omega) (fun k hk => (Own.lt HO3.out k hk).1); have HO4 := Lib.hid q4; have HB4 : Hid (Below (g5 + 1) W2 w4) := Lib.hid (HB3.out.trans hB4); have HZ4 : Hid (g5 + 2 ≤ w4.heap.size) := Lib.hid (by have := HZ3.out; have := hB4.size; omega); clear q4 hg4 hv4 hB4)
    | (at_builtin; refine wpList_appB1 w4 rfl (.tmp 14) (.tmp 16) rfl (g5 + 1) v4 ([] ++ l.take p) rfl HO4.out _ rfl b rfl (by have := HLEN.out; simp; omega) (by have := HZ4.out; omega) ?_; intro v5 w5 q5 hg5 hv5; rw [List.nil_append, HX.out] at q5; have hB5 : Below (g5 + 1) (w4.alloc (.cells #[.int .u8 ((b.toNat : Nat) : Int)] 5)) w5 := (Below.refl _ _).grown hg5 (by have := HZ4.out; simp; omega) (fun k hk => (Own.lt HO4.out k hk).1); have HB5 : Hid (Below (g5 + 1) W2 w5) := Lib.hid ((HB4.out.alloc (by have := HZ4.out; omega) _).trans hB5); obtain ⟨A5, k5, rfl, p1, p2, p3, p4⟩ := q5.form; rw [HXL.out]; rw [HXL.out] at p1; have HGE : Hid (∀ a, A5 = some a → g5 + 1 ≤ a.block) := Lib.hid (fun a e => (p4 a e).1); have H5R := Lib.hid p3; have HK5 := Lib.hid (And.intro p1 p2); have HZ5 : Hid (g5 + 2 ≤ w5.heap.size) := Lib.hid (by have := HZ4.out; have := hB5.size; simp at this; omega); clear q5 hg5 hv5 hB5 p1 p2 p3 p4))
  obtain ⟨W5, hW5⟩ : ∃ W5, W5 = w5 := ⟨_, rfl⟩
  subst hW5
  have H55 : Hid (W5.heap[g5]? = some (.cells #[.slice none 0 0] 141 (0, 0))) := Lib.hid ((HB5.out.block g5 (Nat.lt_succ_self g5)).trans H5.out)
  have HG5 : Hid (w.heap.size ≤ g5) := Lib.hid (by rw [EG5.out]; omega)
  have HBW : Hid (Below w.heap.size w W5) := Lib.hid (HB2.out.trans (HB5.out.mono (by have := HG5.out; omega)))
  by_cases hw : (decodeL l).2 = p + 1
  · have hwo : wholeO X = some ((decodeL l).1 : Int) := by rw [hwh, if_pos ⟨hb, hw⟩]
    have hS : (wholeO X).isSome = true := by rw [hwo]; rfl
    have hR : whR X = ((decodeL l).1 : Int) := by rw [whR, hwo]; rfl
    obtain ⟨r, er⟩ : ∃ r : Int, ((decodeL l).1 : Int) = r := ⟨_, rfl⟩
    rw [er] at hR
    have HS := Lib.hid hS
    have HRR := Lib.hid hR
    have ER := Lib.hid er
    have HW := Lib.hid hw
    clear hwo hS hR er hw hwh c2
    go_wp2_with (go_at_call 86; go_must (refine (refWhole_c A5 (p + 1) k5 X W5 HXL.out H5R.out).mono ?_; rintro _ w6 ⟨rfl, hb6⟩; rw [HS.out, HRR.out]; have HB6 := Lib.hid hb6; have h56 := (hb6.block g5 (heap_lt H55.out)).trans H55.out; have h57 := (Below.heap_alloc w6 (.cells #[.int .i32 r] 21) g5 (heap_lt h56)).trans h56; have x5 : (w6.alloc (.cells #[.int .i32 r] 21)).cell? ⟨g5, 0, none⟩ = some (.slice none 0 0) := (by rw [heap_cell h57] <;> rfl); have y5 := heap_free h57 0; have H57 := Lib.hid h57; clear hb6 h56 h57))
    have z5 : ((w6.alloc (.cells #[.int .i32 r] 21)).setCell ⟨g5, 0, none⟩ (.slice none 0 0)).cell? ⟨g5, 0, none⟩ = some (.slice none 0 0) := by rw [heap_cell (heap_set H57.out 0 _)] <;> rfl
    refine bodyPost_ret (v := .tuple #[.slice (some ⟨w6.heap.size, 0, none⟩) 1 1, .agg #[.slice none 0 0]]) (by simp [results, Tryz.results87, go_sem, z5]) rfl ?_
    refine ⟨?_, ?_⟩
    · have q1 := HBW.out.trans (HB6.out.mono HBW.out.size)
      exact below_set (q1.alloc q1.size _) g5 _ _ HG5.out
    · rw [if_pos HW.out.symm]
      have hlt := Nat.lt_of_lt_of_le (heap_lt H55.out) HB6.out.size
      refine ⟨_, _, rfl, ?_, fun a e => by injection e with e; rw [← e]; have := HG5.out; show w.heap.size ≤ w6.heap.size; omega⟩
      rw [ER.out]
      refine Rd.far (Rd.lit w6 [.int .i32 r] 21) _ (fun a e => ?_)
      injection e with e
      rw [← e]
      show w6.heap.size ≠ g5
      omega
  · have hwo : wholeO X = none := by rw [hwh, if_neg (fun q => hw q.2)]
    have hS : (wholeO X).isSome = false := by rw [hwo]; rfl
    have hR : whR X = 0 := by rw [whR, hwo]; rfl
    have HS := Lib.hid hS
    have HRR := Lib.hid hR
    have HW := Lib.hid hw
    clear hwo hS hR hw hwh c2
    have hpw : p + 1 < (decodeL l).2 := by have := HW.out; omega
    have hbg := fun w' (hr' : Rd w' A5 (X.map bv)) => refBegins_c l (p + 1) A5 (p + 1) k5 X w' hne hb hpw (by omega) EX.out.symm rfl hr'
    have HBG := Lib.hid hbg
    clear hbg hpw
    go_wp2_with (first
      | (go_at_call 86; refine (refWhole_c A5 (p + 1) k5 X W5 HXL.out H5R.out).mono ?_; rintro _ w6 ⟨rfl, hb6⟩; rw [HS.out, HRR.out]; have HB6 := Lib.hid hb6; have h56 := (hb6.block g5 (heap_lt H55.out)).trans H55.out; have H56 := Lib.hid h56; have HR6 := Lib.hid (H5R.out.below hb6); clear hb6 h56)
      | (go_at_call 97; refine (HBG.out w6 HR6.out).mono ?_; rintro _ w7 ⟨rfl, hb7⟩; have HB7 := Lib.hid (HB6.out.trans (hb7.mono HB6.out.size)); have h57 := (hb7.block g5 (heap_lt H56.out)).trans H56.out; have x5 : w7.cell? ⟨g5, 0, none⟩ = some (.slice none 0 0) := (by rw [heap_cell h57] <;> rfl); have y5 := heap_free h57 0; have H57 := Lib.hid h57; have HR7 := Lib.hid (HR6.out.below hb7); clear hb7 h57))
    have z5 : (w7.setCell ⟨g5, 0, none⟩ (.slice A5 (p + 1) k5)).cell? ⟨g5, 0, none⟩ = some (.slice A5 (p + 1) k5) := by rw [heap_cell (heap_set H57.out 0 _)] <;> rfl
    refine bodyPost_ret (v := .tuple #[.slice none 0 0, .agg #[.slice A5 (p + 1) k5]]) (by simp [results, Tryz.results87, go_sem, z5]) rfl ?_
    refine ⟨?_, ?_⟩
    · exact below_set (HBW.out.trans (HB7.out.mono HBW.out.size)) g5 _ _ HG5.out
    · rw [if_neg (fun h => HW.out h.symm)]
      refine ⟨_, _, rfl, ?_, HK5.out.1, HK5.out.2, fun a e => by have := HGE.out a e; have := HG5.out; omega⟩
      rw [EX.out]
      refine Rd.far HR7.out _ (fun a e => ?_)
      have := HGE.out a e
      show a.block ≠ g5
      omega
end Go.Proofs.YtndjggabdajbfaaGreatDoor



/- A region that draws its order and whose last operation waits for all others: the others by relations, the last one at the end. Conditions: each slot is written once; no operation ahead of the last one panics. -/
namespace Go.Proofs.YtndjggabdajbfaaGreatDoor
open Go Go.RowKit

/-- A value built of parts. -/
theorem gives_build {P : Program} {o : Oper} {f : Nat → Value} {w : World} {K : Value → World → Prop} (t : TypeId) (parts : Array (Nat × Operand)) (ho : o.op = .build t parts) (cells : Array Value)
    (hf : P.built t (parts.map fun (i, x) => (i, evF f x)).toList = some cells) (hK : K (.agg cells) w) : Gives P o f w K := by
  refine gives_val (v := .agg cells) ?_ hK
  unfold execOp
  simp only [ho]
  rw [Sem.run_bind, run_build w t _ cells hf]
  rfl

/-- A row of cells loaded whole. -/
theorem gives_load_row {P : Program} {o : Oper} {f : Nat → Value} {w : World} {K : Value → World → Prop} (ty : TypeId) (x : Operand) (ho : o.op = .load ty x)
    (g : Nat) (hx : evF f x = .pointer (some ⟨g, 0, none⟩)) (t : TypeId) (cs : Array Value) (fr : Nat × Nat) (d : TypeDesc) (hg : w.heap[g]? = some (.cells cs t fr))
    (hu : P.underlying ty = some d) (hd : (match d with | .struct _ | .array _ _ => true | _ => false) = true) (hi : (P.info? ty).map (·.size) = some cs.size) (hK : K (.agg cs) w) : Gives P o f w K := by
  refine gives_val (v := .agg cs) ?_ hK
  unfold execOp
  simp only [ho, hx, Instr.loadAt, Instr.sureAddr, Sem.run_bind, Sem.run_pure, Result.andThen_ok, run_loadVar_row w g t ty cs fr d hg hu hd hi]

/-- The operations that these wait for. -/
def ups (ops : Array Oper) : Nat → List Nat → List Nat
  | 0, S => S
  | k + 1, S => ups ops k (S ++ (List.range ops.size).filter (fun j => S.any (fun i => depOn ops i j) && !S.contains j))
def waitsAll (ops : Array Oper) (m : Nat) : Bool := (List.range m).all (fun j => (ups ops m [m]).contains j)
theorem ups_in (ops : Array Oper) (T : Nat → Prop) (hc : ∀ i j, T i → depOn ops i j = true → T j) : ∀ (k : Nat) (S : List Nat), (∀ j ∈ S, T j) → ∀ j ∈ ups ops k S, T j
  | 0, _, h, j, hj => h j hj
  | k + 1, S, h, j, hj => by
    refine ups_in ops T hc k _ (fun x hx => ?_) j hj
    rcases List.mem_append.1 hx with hx | hx
    · exact h x hx
    · have h1 := (List.mem_filter.1 hx).2
      simp only [Bool.and_eq_true, List.any_eq_true] at h1
      obtain ⟨⟨i, hi, hd⟩, _⟩ := h1
      exact hc i x (h i hi) hd

section
variable {P : Program} {ops : Array Oper} {G : World → World → Prop} {R : Nat → World → Value → Prop} {a0 : Act} {W0 : World}
end

end Go.Proofs.YtndjggabdajbfaaGreatDoor


