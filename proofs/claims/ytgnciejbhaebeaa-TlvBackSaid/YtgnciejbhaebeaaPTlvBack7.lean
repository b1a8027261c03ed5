/- Parts one behind the other: The chapter's examples of items; The plain law of items: what is laid is read as it was; what is read is laid as it stood there; How a law's argument is opened: an event by value; a slice of events; How a law's argument is opened: a list of items; The walk of the law TlvBack: it returns true. Conditions: as told at each. -/
import Derived.Test.YtgnciejbhaebeaaPTlvBack3
import Derived.Test.YtgnciejbhaebeaaPTlvBack5
import Derived.Test.YtgnciejbhaebeaaPTlvBack6
import Derived.Test.YtgnciejbhaebeaaPTlvBack2
import Derived.Test.YtgnciejbhaebeaaPTlvBack1
import Derived.Deep.Fields

/- The chapter's examples of items. Conditions: none. -/
namespace Go.Proofs.Ytgnciejbhaebeaa
open Go Go.RowKit

def fxF : Fo := .cons 1 false false [7] .nil (.cons 2 true true [] .nil .nil)
theorem fx_lay : layL fxF = [4, 1, 7, 11, 0] := by
  simp only [fxF, layL, numI, List.length_nil, List.length_singleton, List.append_nil, if_true, Bool.false_eq_true, if_false]
  rw [varL_lo (by decide), varL_lo (by decide), varL_lo (by decide), varL_lo (by decide)]
  rfl
theorem fx_check : checkF fxF = 0 := by
  rw [checkF, fx_lay]
  have : scanF (fullR fxF 1 0) 0 = 0 := by decide
  rw [this]
  rfl
theorem fx_enc : encF fxF = [4, 1, 7, 11, 0] := by rw [encF, fx_check, if_pos rfl, fx_lay]
theorem fx_dec : (decT [4, 0, 4, 0]).1 = 3 := by kernel_rfl
theorem fx_pick : pickT [1] fxF = (7, .nil) := by
  have : critF [1] fxF = true := by decide
  rw [pickT, this]; rfl
set_option maxRecDepth 100000 in
set_option maxHeartbeats 4000000 in
theorem fixedT_c (w : World) : Calls Try.prog 41 #[] w fun r w' => r = .returned (.bool true) ∧ Below w.heap.size w w' := by
  obtain ⟨w1, ew1⟩ : ∃ w1, w1 = w.alloc (.cells #[.int .u8 7] 5) := ⟨_, rfl⟩
  obtain ⟨g, eg⟩ : ∃ g, g = w.heap.size := ⟨_, rfl⟩
  obtain ⟨w2, ew2⟩ : ∃ w2, w2 = w1.alloc (.cells #[.int .i64 1, .bool false, .bool false, .slice (some ⟨g, 0, none⟩) 1 1, .slice none 0 0, .int .i64 2, .bool true, .bool true, .slice none 0 0, .slice none 0 0] 95) := ⟨_, rfl⟩
  have hs1 : w1.heap.size = g + 1 := by rw [ew1, eg]; simp
  have b1 : Below w.heap.size w w1 := by rw [ew1]; exact (Below.refl _ _).alloc (Nat.le_refl _) _
  have b2 : Below w.heap.size w w2 := by rw [ew2]; exact b1.alloc b1.size _
  have h1 : w2.heap[g]? = some (.cells #[.int .u8 7] 5 (0, 0)) := by rw [ew2, Below.heap_alloc _ _ _ (by omega), ew1, eg]; exact heap_alloc_new _ _
  have h2 : w2.heap[g + 1]? = some (.cells #[.int .i64 1, .bool false, .bool false, .slice (some ⟨g, 0, none⟩) 1 1, .slice none 0 0, .int .i64 2, .bool true, .bool true, .slice none 0 0, .slice none 0 0] 95 (0, 0)) := by rw [ew2, ← hs1]; exact heap_alloc_new _ _
  have hf : FoR (fun _ => True) w2 (some ⟨g + 1, 0, none⟩) 0 fxF := by
    refine FoR.of_row (heap_lt h2) trivial fxF [⟨1, false, false, some ⟨g, 0, none⟩, 1, 1, none, 0, 0⟩, ⟨2, true, true, none, 0, 0, none, 0, 0⟩] 0 (fun k hk => ?_) ?_
    · simp only [Nat.zero_mul, Nat.zero_add]
      rw [heap_cell h2]
      have hk10 : k < 10 := hk
      match k, hk10 with
      | 0, _ => rfl
      | 1, _ => rfl
      | 2, _ => rfl
      | 3, _ => rfl
      | 4, _ => rfl
      | 5, _ => rfl
      | 6, _ => rfl
      | 7, _ => rfl
      | 8, _ => rfl
      | 9, _ => rfl
    · refine ⟨_, _, rfl, rfl, rfl, rfl, ⟨rfl, ?_, Nat.le_refl _, by show 1 ≤ maxLen; unfold maxLen; omega, fun _ _ _ => trivial, by show 1 ≤ 140737488355328; omega⟩, ⟨rfl, trivial, Nat.le_refl _, Nat.zero_le _, Nat.zero_le _⟩, ?_⟩
      · refine .inr ⟨g, 0, rfl, heap_lt h1, fun k hk => ?_⟩
        have hk1 : k < 1 := hk
        rw [heap_cell h1]
        match k, hk1 with
        | 0, _ => rfl
      · exact ⟨_, [], rfl, rfl, rfl, rfl, (TxtO.nil_ _ _).r, ⟨rfl, trivial, Nat.le_refl _, Nat.zero_le _, Nat.zero_le _⟩, rfl⟩
  have HF := Lib.hid hf
  have B2 := Lib.hid b2
  have EW1 := Lib.hid ew1
  have EG := Lib.hid eg
  have EW2 := Lib.hid ew2
  clear ew1 eg ew2 hs1 b1 b2 h1 h2 hf
  go_enter Try.func41, Try.ntmps41
  go_wp2_with (fail)
  rw [← EW1.out, ← EG.out, ← EW2.out]
  refine (EncodeT_c fxF (fun _ => True) (some ⟨g + 1, 0, none⟩) 2 2 w2 rfl HF.out (by omega)).mono ?_
  rintro _ w3 ⟨v3, rfl, ho3, hb3⟩
  rw [fx_check]
  rw [fx_enc] at ho3
  obtain ⟨A3, c3, rfl, -, -, r3, -⟩ := OwnB.form ho3
  have B3 := Lib.hid (B2.out.trans (hb3.mono B2.out.size))
  have R3 := Lib.hid r3
  have HF3 := Lib.hid (HF.out.below hb3)
  clear ho3 hb3 r3
  have rd4 : Rd (w3.alloc (.cells #[.int .u8 4, .int .u8 0, .int .u8 4, .int .u8 0] 5)) (some ⟨w3.heap.size, 0, none⟩) (([4, 0, 4, 0] : List UInt8).map bv) := Rd.lit w3 (([4, 0, 4, 0] : List UInt8).map bv) 5
  have b34 : Below w3.heap.size w3 (w3.alloc (.cells #[.int .u8 4, .int .u8 0, .int .u8 4, .int .u8 0] 5)) := (Below.refl _ _).alloc (Nat.le_refl _) _
  have RD4 := Lib.hid rd4
  have B34 := Lib.hid b34
  clear rd4 b34
  go_wp2_with (fail)
  refine (DecodeT_c [4, 0, 4, 0] _ 4 4 _ rfl RD4.out (by omega)).mono ?_
  rintro _ w5 ⟨v5, rfl, -, hb5⟩
  rw [fx_dec]
  have b35 : Below w3.heap.size w3 w5 := B34.out.trans (hb5.mono B34.out.size)
  have B5 := Lib.hid (B3.out.trans (b35.mono B3.out.size))
  have HF5 := Lib.hid (HF3.out.below b35)
  have R5 := Lib.hid (R3.out.below b35)
  clear hb5 b35
  obtain ⟨w6, ew6⟩ : ∃ w6, w6 = w5.alloc (.cells #[.int .i64 1] 3) := ⟨_, rfl⟩
  have b56 : Below w5.heap.size w5 w6 := by rw [ew6]; exact (Below.refl _ _).alloc (Nat.le_refl _) _
  have rk : RdI w6 (some ⟨w5.heap.size, 0, none⟩) [1] := by
    refine .inr ⟨w5.heap.size, 0, rfl, by rw [ew6]; simp, fun k hk => ?_⟩
    have hk1 : k < 1 := hk
    rw [ew6, heap_cell (heap_alloc_new _ _)]
    match k, hk1 with
    | 0, _ => rfl
  have HF6 := Lib.hid (HF5.out.below b56)
  have R6 := Lib.hid (R5.out.below b56)
  have B6 := Lib.hid (B5.out.trans (b56.mono B5.out.size))
  have RK := Lib.hid rk
  have EW6 := Lib.hid ew6
  clear ew6 b56 rk
  go_wp2_with (fail)
  rw [← EW6.out]
  refine (Pick_c fxF (fun _ => True) (some ⟨g + 1, 0, none⟩) 2 2 (some ⟨w5.heap.size, 0, none⟩) 1 1 [1] w6 rfl HF6.out (by decide) rfl RK.out (by omega)).mono ?_
  rintro _ w7 ⟨v7, rfl, -, hb7⟩
  rw [fx_pick]
  have B7 := Lib.hid (B6.out.trans (hb7.mono B6.out.size))
  have R7 := Lib.hid (R6.out.below hb7)
  clear hb7
  have b78 : Below w7.heap.size w7 (w7.alloc (.cells #[.int .u8 4, .int .u8 1, .int .u8 7, .int .u8 11, .int .u8 0] 5)) := (Below.refl _ _).alloc (Nat.le_refl _) _
  have rd8 : Rd (w7.alloc (.cells #[.int .u8 4, .int .u8 1, .int .u8 7, .int .u8 11, .int .u8 0] 5)) (some ⟨w7.heap.size, 0, none⟩) (([4, 1, 7, 11, 0] : List UInt8).map bv) := Rd.lit w7 (([4, 1, 7, 11, 0] : List UInt8).map bv) 5
  have R8 := Lib.hid (R7.out.below b78)
  have RD8 := Lib.hid rd8
  have B8 := Lib.hid (B7.out.trans (b78.mono B7.out.size))
  clear b78 rd8
  go_wp2_with (fail)
  refine (Same_t A3 (some ⟨w7.heap.size, 0, none⟩) 5 5 c3 5 [4, 1, 7, 11, 0] _ rfl rfl R8.out RD8.out (by unfold maxLen; omega)).mono ?_
  rintro _ w9 ⟨rfl, q, rfl⟩
  go_wp2_with (fail)
  go_ret
  exact ⟨rfl, below_drewN B8.out q⟩
end Go.Proofs.Ytgnciejbhaebeaa

/- The plain law of items: what is laid is read as it was; what is read is laid as it stood there. Conditions: none. -/
namespace Go.Proofs.Ytgnciejbhaebeaa
open Go Go.RowKit

theorem numI_parts {k : Int} {cr li : Bool} (h1 : 1 ≤ k) (h2 : k ≤ 1000) : ((numI k cr li / 4 : Nat) : Int) = k ∧ (numI k cr li % 2 = 1 ↔ li = true) ∧ (decide (2 ≤ numI k cr li % 4) = cr) ∧ U64 (numI k cr li) := by
  have hu : U64 (numI k cr li) := by have := numI_le cr li h1 h2; unfold U64; omega
  refine ⟨?_, ?_, ?_, hu⟩
  · unfold numI; cases cr <;> cases li <;> simp <;> omega
  · unfold numI; cases cr <;> cases li <;> simp <;> omega
  · unfold numI; cases cr <;> cases li <;> simp <;> omega
theorem scan_cons {x : En} {S R : List En} {c : Nat} : scanF (x :: (S ++ R)) c = 0 ↔ fe c x = 0 ∧ scanF S (c + 1) = 0 ∧ scanF R (c + 1 + S.length) = 0 := by
  rw [scanF]
  by_cases h : fe c x = 0
  · rw [if_neg (by simp [h]), scanF_append]
    by_cases h2 : scanF S (c + 1) = 0
    · rw [if_neg (by simp [h2])]
      simp [h, h2]
    · rw [if_pos h2]
      simp [h2]
  · rw [if_pos h]; simp [h]
/-- A reader's first number, where it was laid. -/
theorem varR_laid {s : RS} {n : Nat} {more : List UInt8} (h0 : s.err = 0) (hu : U64 n) (hl : s.b.drop s.at_ = varL n ++ more) :
    varR s = (n, { s with at_ := s.at_ + (varL n).length }) ∧ s.b.drop (s.at_ + (varL n).length) = more := by
  refine ⟨?_, ?_⟩
  · rw [varR, if_neg (by simpa using h0), hl, varGo_laid hu]
  · rw [← List.drop_drop, hl, List.drop_left]
theorem textR_laid {s : RS} {t more : List UInt8} (h0 : s.err = 0) (ht : t.length ≤ 4096) (hl : s.b.drop s.at_ = varL t.length ++ (t ++ more)) :
    ∃ s2, textR s 4096 = (t, s2) ∧ s2.b = s.b ∧ s2.err = 0 ∧ s2.b.drop s2.at_ = more := by
  have hu : U64 t.length := by unfold U64; omega
  obtain ⟨-, hd⟩ := varR_laid h0 hu hl
  have hlen : (s.b.drop (s.at_ + (varL t.length).length)).length = t.length + more.length := by rw [hd, List.length_append]
  rw [List.length_drop] at hlen
  have hsl : s.at_ + (varL t.length).length ≤ s.b.length ∨ t.length + more.length = 0 := by omega
  refine ⟨{ s with at_ := s.at_ + (varL t.length).length + t.length }, ?_, rfl, h0, ?_⟩
  · have h1 : ¬ ((4096 : Int) < 0 ∨ (4096 : Int) < (t.length : Int)) := by omega
    have h2 : ¬ s.b.length < s.at_ + (varL t.length).length + t.length := by
      have := congrArg List.length hl
      rw [List.length_drop, List.length_append, List.length_append] at this
      have hv : 1 ≤ (varL t.length).length := (varGo_u64 (varGo_laid hu [])).2.2
      omega
    rw [textR, if_neg (by simpa using h0), hl, varGo_laid hu]
    simp only
    rw [if_neg h1, if_neg h2, hd, List.take_left]
  · show s.b.drop (s.at_ + (varL t.length).length + t.length) = more
    rw [← List.drop_drop, hd, List.drop_left]
theorem back_law : ∀ (f : Fo) (m : Nat) (s : RS) (d : Int) (ah c : Nat), s.b.length - s.at_ < m → s.err = 0 → s.at_ ≤ s.b.length → d ≤ 4 → s.b.drop s.at_ = layL f → (layL f).length ≤ 4096 → scanF (fullR f d ah) c = 0 → decG m s d ah c = (0, f, c + (fullR f d ah).length)
  | .nil, m, s, d, ah, c, hm, h0, ha, hd, hl, h4, hs => by
    obtain ⟨m', rfl⟩ : ∃ m', m = m' + 1 := ⟨m - 1, by omega⟩
    have : s.b.length - s.at_ = 0 := by have := congrArg List.length hl; rw [List.length_drop] at this; simpa [layL] using this
    rw [decG_end (by omega)]; rfl
  | .cons k cr li bs sub rest, m, s, d, ah, c, hm, h0, ha, hd, hl, h4, hs => by
    obtain ⟨m', rfl⟩ : ∃ m', m = m' + 1 := ⟨m - 1, by omega⟩
    rw [fullR, if_pos (by omega)] at hs
    obtain ⟨hfe, hs1, hs2⟩ := scan_cons.1 hs
    obtain ⟨q1, q2, q3, q4, q5, q6, q7, q8⟩ := fe_zero hfe
    dsimp only at q2 q3 q4 q5 q6 q7 q8
    obtain ⟨n1, n2, n3, n4⟩ := numI_parts (cr := cr) (li := li) q2 q3
    obtain ⟨t, et⟩ : ∃ t, t = (if li then layL sub else bs) := ⟨_, rfl⟩
    have hlay : layL (.cons k cr li bs sub rest) = varL (numI k cr li) ++ (varL t.length ++ (t ++ layL rest)) := by rw [layL, ← et]; simp only [List.append_assoc]
    rw [hlay] at hl h4
    obtain ⟨hv, hd1⟩ := varR_laid h0 n4 hl
    obtain ⟨s1, es1⟩ : ∃ s1 : RS, s1 = { s with at_ := s.at_ + (varL (numI k cr li)).length } := ⟨_, rfl⟩
    rw [← es1] at hv
    have hd1' : s1.b.drop s1.at_ = varL t.length ++ (t ++ layL rest) := by rw [es1]; exact hd1
    have h1 : s1.err = 0 := by rw [es1]; exact h0
    obtain ⟨a1, a2, a3, a4, a5, a6⟩ := varR_step hv h0 ha
    rw [List.length_append, List.length_append, List.length_append] at h4
    obtain ⟨s2, ht, e2b, e2e, hd2⟩ := textR_laid h1 (by omega) hd1'
    obtain ⟨b1, b2, b3, b4, b5, b6, b7⟩ := textR_step ht h1 (by rw [a1]; exact a4)
    have hlt : s.at_ < s.b.length := by have := a6 h1; omega
    have hnf : ¬ (numI k cr li / 4 ≤ ah ∨ 1000 < numI k cr li / 4) := by omega
    have hnc : ¬ 64 ≤ c := by omega
    have hr : s2.b.length - s2.at_ < m' := by have := a6 h1; have := b7 e2e; rw [b1, a1]; omega
    have hr2 : s2.at_ ≤ s2.b.length := by rw [b1]; exact b4
    have hk : ((numI k cr li / 4 : Nat) : Int) = k := n1
    cases li with
    | false =>
      obtain rfl : sub = .nil := Fo.len0 (q5 rfl)
      have ht0 : t = bs := by rw [et]; rfl
      subst ht0
      have h2 : numI k cr false % 2 = 0 := by have : ¬ numI k cr false % 2 = 1 := fun h => by cases n2.1 h
                                              omega
      rw [decG_item hlt hv h1 hnf hnc ht e2e h2]
      have ih := back_law rest m' s2 d (numI k cr false / 4) (c + 1) hr e2e hr2 hd hd2 (by omega) (by rw [hk]; simpa [fullR] using hs2)
      rw [ih, cmb, n3, hk]
      simp only [Fo.app, fullR, if_pos (show d < 5 by omega), List.nil_append, List.length_cons]
      congr 2
      omega
    | true =>
      have hd4 : d ≠ 4 := q7 rfl
      have hb0 : bs = [] := List.eq_nil_of_length_eq_zero (q6 rfl)
      subst hb0
      have ht0 : t = layL sub := by rw [et]; rfl
      subst ht0
      have h2 : numI k cr true % 2 = 1 := n2.2 rfl
      have ihs := back_law sub m' ⟨layL sub, 0, 0, none⟩ (d + 1) 0 (c + 1) (by show (layL sub).length - 0 < m'; have := a6 h1; rw [a1] at b6; omega) rfl (Nat.zero_le _) (by omega) rfl (by omega) hs1
      rw [decG_list hlt hv h1 hnf hnc hd4 ht e2e h2 ihs]
      have ih := back_law rest m' s2 d (numI k cr true / 4) (c + 1 + (fullR sub (d + 1) (0 : Nat)).length) hr e2e hr2 hd hd2 (by omega) (by rw [hk]; exact hs2)
      rw [ih, cmb, n3, hk]
      simp only [Fo.app, fullR, if_pos (show d < 5 by omega), List.length_cons, List.length_append]
      congr 2
      have e0 : ((0 : Nat) : Int) = 0 := rfl
      rw [e0]
      omega
/-- What is laid is read as it was. -/
theorem dec_back {f : Fo} (h : checkF f = 0) : decT (layL f) = (0, f) := by
  have hs : scanF (fullR f 1 0) 0 = 0 := by
    unfold checkF at h
    by_cases h0 : scanF (fullR f 1 0) 0 = 0
    · exact h0
    · rw [if_pos h0] at h; exact absurd h h0
  have h4 : (layL f).length ≤ 4096 := by
    unfold checkF at h
    rw [if_neg (by simp [hs])] at h
    by_cases h1 : 4096 < (layL f).length
    · rw [if_pos h1] at h; omega
    · omega
  have := back_law f ((layL f).length + 1) ⟨layL f, 0, 0, none⟩ 1 0 0 (by show (layL f).length - 0 < _; omega) rfl (Nat.zero_le _) (by omega) rfl h4 hs
  rw [decT_eq h4 this]
  rfl
/-- A number's bytes and what stands behind. -/
theorem varR_one {s s1 : RS} {n : Nat} (hv : varR s = (n, s1)) (h0 : s.err = 0) (h1 : s1.err = 0) : s.b.drop s.at_ = varL n ++ s1.b.drop s1.at_ := by
  unfold varR at hv
  rw [if_neg (by simpa using h0)] at hv
  cases hg : varGo (s.b.drop s.at_) 0 with
  | bad e =>
    rw [hg] at hv
    injection hv with hn hs
    subst hs
    rcases varGo_err hg with rfl | rfl <;> cases h1
  | ok n' k =>
    rw [hg] at hv
    injection hv with hn hs
    subst hs hn
    have := (varGo_one _ _ _ _ hg).1
    show s.b.drop s.at_ = varL n' ++ s.b.drop (s.at_ + k)
    rw [← this, ← List.drop_drop, List.take_append_drop]
theorem textR_one {s s2 : RS} {t : List UInt8} (ht : textR s 4096 = (t, s2)) (h0 : s.err = 0) (h2 : s2.err = 0) : s.b.drop s.at_ = varL t.length ++ (t ++ s2.b.drop s2.at_) := by
  unfold textR at ht
  rw [if_neg (by simpa using h0)] at ht
  cases hg : varGo (s.b.drop s.at_) 0 with
  | bad e =>
    rw [hg] at ht
    injection ht with hn hs
    subst hs
    rcases varGo_err hg with rfl | rfl <;> cases h2
  | ok n k =>
    rw [hg] at ht
    simp only at ht
    by_cases h3 : (4096 : Int) < 0 ∨ (4096 : Int) < (n : Int)
    · rw [if_pos h3] at ht
      injection ht with hn hs
      subst hs
      cases h2
    · rw [if_neg h3] at ht
      by_cases h4 : s.b.length < s.at_ + k + n
      · rw [if_pos h4] at ht
        injection ht with hn hs
        subst hs
        cases h2
      · rw [if_neg h4] at ht
        injection ht with hn hs
        subst hs hn
        have hl : ((s.b.drop (s.at_ + k)).take n).length = n := by rw [List.length_take, List.length_drop]; omega
        have := (varGo_one _ _ _ _ hg).1
        show s.b.drop s.at_ = varL ((s.b.drop (s.at_ + k)).take n).length ++ ((s.b.drop (s.at_ + k)).take n ++ s.b.drop (s.at_ + k + n))
        rw [hl, ← List.drop_drop (i := n), List.take_append_drop, ← this, ← List.drop_drop, List.take_append_drop]
theorem numI_of {n : Nat} : numI ((n / 4 : Nat) : Int) (decide (2 ≤ n % 4)) true = n / 4 * 4 + (if 2 ≤ n % 4 then 2 else 0) + 1 ∧ numI ((n / 4 : Nat) : Int) (decide (2 ≤ n % 4)) false = n / 4 * 4 + (if 2 ≤ n % 4 then 2 else 0) := by
  unfold numI
  by_cases h : 2 ≤ n % 4
  · simp [h]; omega
  · simp [h]; omega
theorem one_law : ∀ (m : Nat) (s : RS) (d : Int) (ah c : Nat) (L : Fo) (c' : Nat), s.b.length - s.at_ < m → s.err = 0 → s.at_ ≤ s.b.length → 1 ≤ d → d ≤ 4 → decG m s d ah c = (0, L, c') → layL L = s.b.drop s.at_ ∧ scanF (fullR L d ah) c = 0 ∧ c' = c + (fullR L d ah).length
  | 0, s, d, ah, c, L, c', hm, _, _, _, _, _ => by omega
  | m + 1, s, d, ah, c, L, c', hm, h0, ha, hd1, hd, hD => by
    obtain ⟨n, s1, hv⟩ : ∃ n s1, varR s = (n, s1) := ⟨_, _, rfl⟩
    obtain ⟨t, s2, ht⟩ : ∃ t s2, textR s1 4096 = (t, s2) := ⟨_, _, rfl⟩
    by_cases hlt' : s.b.length ≤ s.at_
    · rw [decG_end hlt'] at hD
      injection hD with _ hD
      injection hD with e1 e2
      subst e1 e2
      refine ⟨?_, rfl, rfl⟩
      rw [List.drop_of_length_le hlt']; rfl
    have hlt : s.at_ < s.b.length := by omega
    obtain ⟨a1, a2, a3, a4, a5, a6⟩ := varR_step hv h0 ha
    by_cases h1 : s1.err = 0
    · obtain ⟨b1, b2, b3, b4, b5, b6, b7⟩ := textR_step ht h1 (by rw [a1]; exact a4)
      by_cases h2 : n / 4 ≤ ah ∨ 1000 < n / 4
      · rw [decG_form hlt hv h1 h2] at hD; injection hD with hD; cases hD
      by_cases h3 : 64 ≤ c
      · rw [decG_many hlt hv h1 h2 h3] at hD; injection hD with hD; cases hD
      by_cases h4 : n % 2 = 1 ∧ d = 4
      · rw [decG_deep hlt hv h1 h2 h3 h4] at hD; injection hD with hD; cases hD
      by_cases h5 : s2.err = 0
      · have hr : s2.b.length - s2.at_ < m := by have := a6 h1; have := b7 h5; rw [b1, a1]; omega
        have hr2 : s2.at_ ≤ s2.b.length := by rw [b1]; exact b4
        have hbytes : s.b.drop s.at_ = varL n ++ (varL t.length ++ (t ++ s2.b.drop s2.at_)) := by rw [varR_one hv h0 h1, textR_one ht h1 h5]
        obtain ⟨nt, nf⟩ := numI_of (n := n)
        by_cases h6 : n % 2 = 1
        · have hd4 : d ≠ 4 := fun e => h4 ⟨h6, e⟩
          by_cases h7 : (decG m ⟨t, 0, 0, none⟩ (d + 1) 0 (c + 1)).1 = 0
          · obtain ⟨L1, c1, e7⟩ : ∃ L1 c1, decG m ⟨t, 0, 0, none⟩ (d + 1) 0 (c + 1) = (0, L1, c1) := ⟨_, _, Prod.ext h7 rfl⟩
            obtain ⟨i1, i2, i3⟩ := one_law m ⟨t, 0, 0, none⟩ (d + 1) 0 (c + 1) L1 c1 (by show t.length - 0 < m; have := a6 h1; rw [a1] at b6; omega) rfl (Nat.zero_le _) (by omega) (by omega) e7
            have i1' : layL L1 = t := i1
            rw [decG_list hlt hv h1 h2 h3 hd4 ht h5 h6 e7] at hD
            obtain ⟨L2, c2, e8⟩ : ∃ L2 c2, decG m s2 d (n / 4) c1 = (0, L2, c2) := ⟨_, _, Prod.ext (show (decG m s2 d (n / 4) c1).1 = 0 from congrArg Prod.fst hD) rfl⟩
            rw [e8, cmb] at hD
            injection hD with _ hD
            injection hD with e1 e2
            simp only [Fo.app] at e1 e2
            subst e1 e2
            obtain ⟨j1, j2, j3⟩ := one_law m s2 d (n / 4) c1 L2 c2 hr h5 hr2 hd1 hd e8
            have e0 : ((0 : Nat) : Int) = 0 := rfl
            rw [e0] at i2 i3
            refine ⟨?_, ?_, ?_⟩
            · rw [layL, if_pos rfl, i1', j1, hbytes, nt]
              have : n / 4 * 4 + (if 2 ≤ n % 4 then 2 else 0) + 1 = n := by split <;> omega
              rw [this]
              simp only [List.append_assoc]
            · rw [fullR, if_pos (by omega)]
              refine scan_cons.2 ⟨fe_0 h3 ⟨by show (1 : Int) ≤ ((n / 4 : Nat) : Int); omega, by show ((n / 4 : Nat) : Int) ≤ 1000; omega, by show (ah : Int) < ((n / 4 : Nat) : Int); omega, (fun h => by cases h), fun _ => rfl⟩ (fun h => hd4 h.2) (Nat.zero_le _), i2, ?_⟩
              rw [← i3]; exact j2
            · rw [fullR, if_pos (by omega), List.length_cons, List.length_append, j3, i3]; omega
          · rw [decG_bad hlt hv h1 h2 h3 hd4 ht h5 h6 h7] at hD
            exact absurd (congrArg Prod.fst hD) h7
        · rw [decG_item hlt hv h1 h2 h3 ht h5 (by omega)] at hD
          obtain ⟨L2, c2, e8⟩ : ∃ L2 c2, decG m s2 d (n / 4) (c + 1) = (0, L2, c2) := ⟨_, _, Prod.ext (show (decG m s2 d (n / 4) (c + 1)).1 = 0 from congrArg Prod.fst hD) rfl⟩
          rw [e8, cmb] at hD
          injection hD with _ hD
          injection hD with e1 e2
          simp only [Fo.app] at e1 e2
          subst e1 e2
          obtain ⟨j1, j2, j3⟩ := one_law m s2 d (n / 4) (c + 1) L2 c2 hr h5 hr2 hd1 hd e8
          refine ⟨?_, ?_, ?_⟩
          · rw [layL, if_neg (by simp), j1, hbytes, nf]
            have : n / 4 * 4 + (if 2 ≤ n % 4 then 2 else 0) = n := by split <;> omega
            rw [this]
            simp only [List.append_assoc]
          · rw [fullR, if_pos (by omega)]
            refine scan_cons.2 ⟨fe_0 h3 ⟨by show (1 : Int) ≤ ((n / 4 : Nat) : Int); omega, by show ((n / 4 : Nat) : Int) ≤ 1000; omega, by show (ah : Int) < ((n / 4 : Nat) : Int); omega, fun _ => rfl, (fun h => by cases h)⟩ (fun h => by cases h.1) b5, rfl, ?_⟩
            simpa [fullR] using j2
          · rw [fullR, if_pos (by omega), List.length_cons, List.length_append, j3]; simp only [fullR, List.length_nil]; omega
      · rw [decG_text hlt hv h1 h2 h3 h4 ht h5] at hD
        exact absurd (congrArg Prod.fst hD) h5
    · rw [decG_var hlt hv h1] at hD
      exact absurd (congrArg Prod.fst hD) h1
/-- What is read without an error is laid as it stood there. -/
theorem dec_one {bs : List UInt8} (h : (decT bs).1 = 0) : checkF (decT bs).2 = 0 ∧ layL (decT bs).2 = bs := by
  by_cases h4 : 4096 < bs.length
  · rw [decT_long h4] at h; cases h
  · obtain ⟨e, L, c, eR⟩ : ∃ e L c, decG (bs.length + 1) ⟨bs, 0, 0, none⟩ 1 0 0 = (e, L, c) := ⟨_, _, _, rfl⟩
    rw [decT_eq (by omega) eR] at h ⊢
    have he : e = 0 := h
    subst he
    show checkF L = 0 ∧ layL L = bs
    obtain ⟨h1, h2, h3⟩ := one_law (bs.length + 1) ⟨bs, 0, 0, none⟩ 1 0 0 L c (by show bs.length - 0 < _; omega) rfl (Nat.zero_le _) (by omega) (by omega) eR
    have h1' : layL L = bs := h1
    refine ⟨?_, h1'⟩
    have e0 : ((0 : Nat) : Int) = 0 := rfl
    rw [e0] at h2
    rw [checkF, h2, if_neg (by simp), h1', if_neg h4]
end Go.Proofs.Ytgnciejbhaebeaa

/- How a law's argument is opened: an event by value; a slice of events. Conditions: none. -/
namespace Go.Proofs.Ytgnciejbhaebeaa
open Go Go.RowKit Go.ChangeShapes Go.WideShapes

/-- The fields of an event's type. -/
structure EvT (P : Program) (t : TypeId) (f0 f1 f2 f3 f4 : Field) (e : TypeId) : Prop where
  hs : P.underlying t = some (.struct #[f0, f1, f2, f3, f4])
  hone : Deep.oneCellFields P #[f0, f1, f2, f3, f4] = true
  hC : P.cellsOf t = 5
  h0 : P.underlying f0.type = some (.int .i64)
  h1 : P.underlying f1.type = some (.slice e)
  h2 : P.underlying f2.type = some (.int .i64)
  h3 : P.underlying f3.type = some (.int .i64)
  h4 : P.underlying f4.type = some (.int .i64)
  he : P.underlying e = some (.int .u8)
  hc : P.cellsOf e = 1
  hb : P.bytesOf e = 1

theorem open_txt {H : Type} {enc : TypeId × Value → H} {P : Program} {W : World} {t e fuel : Nat} {u : Value} {y : DataW H × List MemPlace} (ht : P.underlying t = some (.slice e)) (he : P.underlying e = some (.int .u8)) (hc : P.cellsOf e = 1) (hb : P.bytesOf e = 1)
    (hf : DataW.trod enc P W 0 (fun _ => true) true fuel t [u] = some y) :
    ∃ (A : Option Addr) (m c : Nat) (bs : List UInt8), u = .slice A m c ∧ bs.length = m ∧ Rd W A (bs.map bv) ∧ m ≤ c ∧ c ≤ maxLen ∧ ((∀ n ∈ y.1.weights P t, n ≤ reachBytes) → m ≤ 140737488351232) := by
  rcases open_ints ht he hc hf with ⟨hcs, _⟩ | ⟨x, l, c, zs, hcs, _, hl, hm, hz, hx, hcell, hwz⟩
  · injection hcs with hcs _
    subst hcs
    exact ⟨none, 0, 0, [], rfl, rfl, .inl rfl, Nat.le_refl _, Nat.zero_le _, fun _ => by decide⟩
  · injection hcs with hcs _
    subst hcs
    subst hx
    simp only [if_true] at hz
    obtain ⟨bs, g1, g2⟩ := rd_of_ints (len := l) (by omega) hcell hwz
    refine ⟨some x, l, c, bs, rfl, g1, g2, hl, hm, fun hw => ?_⟩
    have h := hw ((zs.take l).length + (zs.drop l).length) (by
      simp only [DataW.weights, ht, List.mem_cons]
      left
      rw [hb]
      simp [lits])
    simp only [List.length_take, List.length_drop, reachBytes] at h
    omega

theorem open_ev {H : Type} {enc : TypeId × Value → H} {P : Program} {W : World} {t e fuel : Nat} {f0 f1 f2 f3 f4 : Field} (T : EvT P t f0 f1 f2 f3 f4 e) {cs : List Value} {x : DataW H × List MemPlace} (hf : DataW.trod enc P W 0 (fun _ => true) true fuel t cs = some x) :
    ∃ (k : Int) (A : Option Addr) (m c : Nat) (X Y b : Int) (bs : List UInt8), cs = [.int .i64 k, .slice A m c, .int .i64 X, .int .i64 Y, .int .i64 b] ∧ bs.length = m ∧ Rd W A (bs.map bv) ∧ m ≤ c ∧ c ≤ maxLen ∧ ((∀ n ∈ x.1.weights P t, n ≤ reachBytes) → m ≤ 140737488351232) := by
  obtain ⟨ys, n, _, rfl, hl, hlen, hg⟩ := DataW.trod_struct T.hs hf
  rw [T.hC] at hl
  obtain ⟨o0, k0⟩ := Deep.hone_of T.hone 0 f0 rfl
  obtain ⟨o1, k1⟩ := Deep.hone_of T.hone 1 f1 rfl
  obtain ⟨o2, k2⟩ := Deep.hone_of T.hone 2 f2 rfl
  obtain ⟨o3, k3⟩ := Deep.hone_of T.hone 3 f3 rfl
  obtain ⟨o4, k4⟩ := Deep.hone_of T.hone 4 f4 rfl
  match cs, hl, ys, hlen with
  | [u0, u1, u2, u3, u4], _, [y0, y1, y2, y3, y4], _ =>
    have g0 := hg 0 f0 rfl
    have g1 := hg 1 f1 rfl
    have g2 := hg 2 f2 rfl
    have g3 := hg 3 f3 rfl
    have g4 := hg 4 f4 rfl
    rw [o0, k0] at g0
    rw [o1, k1] at g1
    rw [o2, k2] at g2
    rw [o3, k3] at g3
    rw [o4, k4] at g4
    obtain ⟨a0, e0, _, _⟩ := DataW.trod_int T.h0 g0
    obtain ⟨a2, e2, _, _⟩ := DataW.trod_int T.h2 g2
    obtain ⟨a3, e3, _, _⟩ := DataW.trod_int T.h3 g3
    obtain ⟨a4, e4, _, _⟩ := DataW.trod_int T.h4 g4
    obtain ⟨A, m, c, bs, eu, q1, q2, q3, q4, q5⟩ := open_txt T.h1 T.he T.hc T.hb g1
    simp at e0 e2 e3 e4
    subst e0 e2 e3 e4 eu
    refine ⟨a0, A, m, c, a2, a3, a4, bs, rfl, q1, q2, q3, q4, fun hw => q5 (fun n hn => hw n ?_)⟩
    simp only [DataW.weights, T.hs]
    exact DataW.weights_mem_each (j := 1) (t := f1.type) (d := y1.1) (by simp) (by simp) n hn

theorem opn_ev {H : Type} {enc : TypeId × Value → H} {P : Program} {W : World} {base t e j : Nat} {f0 f1 f2 f3 f4 : Field} (T : EvT P t f0 f1 f2 f3 f4 e) {v : Value} {d : DataW H} {p : List MemPlace} {ts : List TypeId} {ds : List (DataW H)}
    (hv : Value.okWide P W .any base t v) (hj : DataW.Trod enc P W 0 (fun _ => true) true t v d p) (hsz : (DataW.weightsEach P ts ds).all (· ≤ reachBytes) = true) (k1 : ts[j]? = some t) (k2 : ds[j]? = some d) :
    ∃ (k : Int) (A : Option Addr) (n c : Nat) (x y b : Int) (bs : List UInt8), v = .agg #[.int .i64 k, .slice A n c, .int .i64 x, .int .i64 y, .int .i64 b] ∧ (bs.length = n ∧ Rd W A (bs.map bv) ∧ n ≤ c ∧ c ≤ maxLen ∧ n ≤ 140737488351232) := by
  obtain ⟨cs, rfl, hsz2⟩ := okWide_struct T.hs hv
  obtain ⟨fuel, hf⟩ := hj
  obtain ⟨k, A, m, c, x, y, b, bs, hcs, q1, q2, q3, q4, q5⟩ := open_ev T hf
  refine ⟨k, A, m, c, x, y, b, bs, ?_, q1, q2, q3, q4, q5 (fun n hn => ?_)⟩
  · congr 1
    apply Array.ext'
    simpa [Value.cells] using hcs
  · exact of_decide_eq_true (List.all_eq_true.1 hsz n (DataW.weights_mem_each k1 k2 n hn))

theorem opn_evs {H : Type} {enc : TypeId × Value → H} {P : Program} {W : World} {base t et e j : Nat} {f0 f1 f2 f3 f4 : Field} (ht : P.underlying t = some (.slice et)) (hB : P.bytesOf et = 56) (T : EvT P et f0 f1 f2 f3 f4 e) {v : Value} {d : DataW H} {p : List MemPlace} {ts : List TypeId} {ds : List (DataW H)}
    (hv : Value.okWide P W .any base t v) (hj : DataW.Trod enc P W 0 (fun _ => true) true t v d p) (hsz : (DataW.weightsEach P ts ds).all (· ≤ reachBytes) = true) (k1 : ts[j]? = some t) (k2 : ds[j]? = some d) :
    ∃ (A : Option Addr) (n c : Nat) (dv : List EvV) (es : List Ev), v = .slice A n c ∧ (es.length = n ∧ EvsR (· < W.heap.size) W A dv es ∧ n ≤ c ∧ c ≤ maxLen ∧ n ≤ 2513169434843) := by
  obtain ⟨a0, len, cap, rfl⟩ := okWide_slice ht hv
  obtain ⟨fuel, hf⟩ := hj
  rcases Deep.open_slice ht hf with ⟨hcs, _⟩ | ⟨a, l, c, m, n, D, Pl, hcs, _, hl, hm, hmm, hx, hcell⟩
  · simp [Value.cells] at hcs
    obtain ⟨rfl, rfl, rfl⟩ := hcs
    exact ⟨none, 0, 0, [], [], rfl, rfl, ⟨rfl, .inl rfl, fun _ a e => (by cases e), fun i h => absurd h (by simp)⟩, Nat.le_refl _, Nat.zero_le _, by decide⟩
  · simp [Value.cells] at hcs
    obtain ⟨rfl, rfl, rfl⟩ := hcs
    simp only [if_true] at hmm
    subst hmm
    simp only [Prod.mk.injEq] at hx
    obtain ⟨rfl, _⟩ := hx
    have hb := sized_slice hsz k1 k2 ht
    rw [hB] at hb
    simp only [List.length_map, List.length_range, reachBytes] at hb
    have each : ∀ i, i < len → ∃ z : EvV × Ev, (∀ q (hq : q < 5), W.cell? (a.add (i * 5 + q)) = (z.1.cells)[q]?) ∧ EvR (· < W.heap.size) W z.1 z.2 := by
      intro i hi
      obtain ⟨cs', g1, g2⟩ := hcell i (by omega)
      rw [T.hC] at g1
      obtain ⟨_, hlen, hg⟩ := World.cells?_some g1
      obtain ⟨k, A, m', c', x, y, b, bs, hcs, q1, q2, q3, q4, q5⟩ := open_ev T g2
      have hm' : m' ≤ 140737488351232 := q5 (fun n hn => of_decide_eq_true (List.all_eq_true.1 hsz n (DataW.weights_mem_each k1 k2 n (by
        simp only [DataW.weights, ht, List.mem_cons, List.mem_append]
        exact Or.inr (Or.inl (weightsAll_mem (List.mem_map.2 ⟨i, List.mem_range.2 hi, rfl⟩) n hn))))))
      refine ⟨(⟨k, A, m', c', x, y, b⟩, ⟨k, bs, x, y, b⟩), fun q hq => ?_, rfl, rfl, rfl, rfl, q1, q2, q3, q4, fun h0 a' e => ?_, (show m' ≤ 140737488355328 by omega)⟩
      · rw [← Deep.add_add]
        subst hcs
        have := hg q (by simpa using hq)
        rw [this]
        rfl
      · rcases q2 with h | ⟨b', off, rfl, hb', _⟩
        · have h0' : 0 < m' := h0
          have : bs = [] := by simpa using h
          rw [this, List.length_nil] at q1
          omega
        · injection e with e; subst e; exact hb'
    obtain ⟨zs, hz1, hz2⟩ := list_of_all len each
    have hcellz : ∀ i (hi : i < zs.length) q, q < 5 → W.cell? (a.add (i * 5 + q)) = (cellsV (zs.map (·.1)))[i * 5 + q]? := by
      intro i hi q hq
      rw [cellsV_get _ i (by simpa using hi) q hq, (hz2 i hi).1 q hq]
      simp
    have hblk : 0 < len → a.spot = none ∧ a.block < W.heap.size := by
      intro h0
      have h := hcellz 0 (by omega) 0 (by decide)
      have hc0 : (cellsV (zs.map (·.1)))[0 * 5 + 0]? ≠ none := by
        rw [List.getElem?_eq_getElem (by rw [cellsV_length, List.length_map]; omega)]
        simp
      have h2 : ∃ u, W.cell? a = some u := by
        have e1 : a.add (0 * 5 + 0) = a := by simp [Addr.add]
        rw [e1] at h
        rw [← h] at hc0
        exact Option.ne_none_iff_exists'.1 hc0
      obtain ⟨u, hu⟩ := h2
      exact ⟨World.cell?_spot hu, World.block_lt_of_cell? W a hu⟩
    refine ⟨some a, len, _, zs.map (·.1), zs.map (·.2), rfl, by simpa using hz1, ⟨by simp, ?_, fun h0 a' e => ?_, fun i h1 h2 => ?_⟩, hl, hm, by omega⟩
    · rcases Nat.eq_zero_or_pos len with h0 | h0
      · left
        have : zs = [] := List.eq_nil_of_length_eq_zero (by omega)
        rw [this]; rfl
      · obtain ⟨hsp, hlt⟩ := hblk h0
        obtain ⟨b, off, spot⟩ := a
        simp only at hsp
        subst hsp
        refine .inr ⟨b, off, rfl, hlt, fun k hk => ?_⟩
        have hk' : k < zs.length * 5 := by rw [cellsV_length] at hk; simpa using hk
        have h := hcellz (k / 5) (by omega) (k % 5) (Nat.mod_lt _ (by decide))
        rw [show k / 5 * 5 + k % 5 = k by omega, Addr.add_lit, List.getElem?_eq_getElem hk] at h
        exact h
    · injection e with e
      subst e
      exact (hblk (by rw [List.length_map] at h0; omega)).2
    · simp only [List.getElem_map]
      exact (hz2 i (by simpa using h1)).2
end Go.Proofs.Ytgnciejbhaebeaa

/- How a law's argument is opened: a list of items. Conditions: none. -/
namespace Go.Proofs.Ytgnciejbhaebeaa
open Go Go.RowKit Go.ChangeShapes Go.WideShapes

/-- The fields of an item's type (t: the type of a list of items). -/
structure ItT (P : Program) (t it : TypeId) (f0 f1 f2 f3 f4 : Field) (et e : TypeId) : Prop where
  ht : P.underlying t = some (.slice it)
  hs : P.underlying it = some (.struct #[f0, f1, f2, f3, f4])
  hone : Deep.oneCellFields P #[f0, f1, f2, f3, f4] = true
  hC : P.cellsOf it = 5
  hB : P.bytesOf it = 64
  h0 : P.underlying f0.type = some (.int .i64)
  h1 : P.underlying f1.type = some .bool
  h2 : P.underlying f2.type = some .bool
  h3 : f3.type = et
  h3' : P.underlying et = some (.slice e)
  h4 : f4.type = t
  he : P.underlying e = some (.int .u8)
  hc : P.cellsOf e = 1
  hb : P.bytesOf e = 1

/-- Items built from what is known at each place. -/
theorem fo_of_all {ok : Nat → Prop} {W : World} {b off len : Nat} (hb : b < W.heap.size) (hok : ok b)
    (h : ∀ i, i < len → ∃ (k : Int) (cr li : Bool) (At : Option Addr) (n c : Nat) (bs : List UInt8) (As : Option Addr) (d : Nat) (sub : Fo),
      (W.cell? ⟨b, off + i * 5, none⟩ = some (.int .i64 k) ∧ W.cell? ⟨b, off + i * 5 + 1, none⟩ = some (.bool cr) ∧ W.cell? ⟨b, off + i * 5 + 2, none⟩ = some (.bool li) ∧
       W.cell? ⟨b, off + i * 5 + 3, none⟩ = some (.slice At n c) ∧ W.cell? ⟨b, off + i * 5 + 4, none⟩ = some (.slice As sub.len d)) ∧
      TxtR ok W At n c bs ∧ FoR ok W As 0 sub ∧ sub.len ≤ d ∧ d ≤ maxLen ∧ sub.len ≤ 2199023255488) : ∀ (r i : Nat), i + r = len → ∃ f : Fo, f.len = r ∧ FoR ok W (some ⟨b, off, none⟩) i f
  | 0, i, _ => ⟨.nil, rfl, trivial⟩
  | r + 1, i, hi => by
    obtain ⟨k, cr, li, At, n, c, bs, As, d, sub, hc, ht, hsub, h1, h2, h3⟩ := h i (by omega)
    obtain ⟨f, e, hf⟩ := fo_of_all hb hok h r (i + 1) (by omega)
    exact ⟨.cons k cr li bs sub f, by rw [Fo.len, e], ⟨b, off, At, n, c, As, d, rfl, hb, hok, hc, ht, hsub, h1, h2, h3⟩, hf⟩

theorem open_fo {H : Type} {enc : TypeId × Value → H} {P : Program} {W : World} {t it et e : TypeId} {f0 f1 f2 f3 f4 : Field} (T : ItT P t it f0 f1 f2 f3 f4 et e) : ∀ (fuel : Nat) (u : Value) (x : DataW H × List MemPlace),
    DataW.trod enc P W 0 (fun _ => true) true fuel t [u] = some x → (∀ n ∈ x.1.weights P t, n ≤ reachBytes) →
    ∃ (A : Option Addr) (n c : Nat) (f : Fo), u = .slice A n c ∧ FoR (· < W.heap.size) W A 0 f ∧ f.len = n ∧ n ≤ c ∧ c ≤ maxLen ∧ n ≤ 2199023255488 := by
  intro fuel
  induction fuel using Nat.strongRecOn with
  | _ fuel ih =>
    intro u x hf hw
    rcases DataW.trod_slice T.ht hf with ⟨hcs, _⟩ | ⟨a, len, cap, elems, rest, n, hfu, hcs, hx, _, hl, hm, hlen, hel, hsp, _⟩
    · injection hcs with hcs _
      subst hcs
      exact ⟨none, 0, 0, .nil, rfl, trivial, rfl, Nat.le_refl _, Nat.zero_le _, by decide⟩
    · injection hcs with hcs _
      subst hcs
      subst hx
      obtain ⟨hrl, _⟩ := hsp rfl
      have hbd := hw _ (by simp only [DataW.weights, T.ht, List.mem_cons]; exact Or.inl rfl)
      rw [T.hB] at hbd
      simp only [List.length_map, reachBytes] at hbd
      have each : ∀ i, i < len → ∃ (k : Int) (cr li : Bool) (At : Option Addr) (n c : Nat) (bs : List UInt8) (As : Option Addr) (d : Nat) (sub : Fo),
          (W.cell? (a.add (i * 5 + 0)) = some (.int .i64 k) ∧ W.cell? (a.add (i * 5 + 1)) = some (.bool cr) ∧ W.cell? (a.add (i * 5 + 2)) = some (.bool li) ∧
           W.cell? (a.add (i * 5 + 3)) = some (.slice At n c) ∧ W.cell? (a.add (i * 5 + 4)) = some (.slice As sub.len d)) ∧
          TxtR (· < W.heap.size) W At n c bs ∧ FoR (· < W.heap.size) W As 0 sub ∧ sub.len ≤ d ∧ d ≤ maxLen ∧ sub.len ≤ 2199023255488 := by
        intro i hi
        have he := hel i hi
        have hi' : i < elems.length := by omega
        rw [List.getElem?_eq_getElem hi', T.hC, Option.bind_eq_some_iff] at he
        obtain ⟨cs', g1, g2⟩ := he
        obtain ⟨_, hlen5, hg⟩ := World.cells?_some g1
        obtain ⟨ys, n', hfu', hy, hl5, hlen', hgs⟩ := DataW.trod_struct T.hs g2
        rw [T.hC] at hl5
        obtain ⟨o0, k0⟩ := Deep.hone_of T.hone 0 f0 rfl
        obtain ⟨o1, k1⟩ := Deep.hone_of T.hone 1 f1 rfl
        obtain ⟨o2, k2⟩ := Deep.hone_of T.hone 2 f2 rfl
        obtain ⟨o3, k3⟩ := Deep.hone_of T.hone 3 f3 rfl
        obtain ⟨o4, k4⟩ := Deep.hone_of T.hone 4 f4 rfl
        match cs', hl5, ys, hlen' with
        | [u0, u1, u2, u3, u4], _, [y0, y1, y2, y3, y4], _ =>
          have q0 := hgs 0 f0 rfl
          have q1 := hgs 1 f1 rfl
          have q2 := hgs 2 f2 rfl
          have q3 := hgs 3 f3 rfl
          have q4 := hgs 4 f4 rfl
          rw [o0, k0] at q0
          rw [o1, k1] at q1
          rw [o2, k2] at q2
          rw [o3, k3, T.h3] at q3
          rw [o4, k4, T.h4] at q4
          have hwe : ∀ n ∈ (elems[i]).1.weights P it, n ≤ reachBytes := fun n hn => hw n (by
            simp only [DataW.weights, T.ht, List.mem_cons, List.mem_append]
            exact Or.inr (Or.inl (weightsAll_mem (List.mem_map.2 ⟨elems[i], List.getElem_mem _, rfl⟩) n hn)))
          rw [hy] at hwe
          have hwf : ∀ (j : Nat) (f : Field) (y : DataW H × List MemPlace), (#[f0, f1, f2, f3, f4] : Array Field)[j]? = some f → ([y0, y1, y2, y3, y4] : List (DataW H × List MemPlace))[j]? = some y → ∀ n ∈ y.1.weights P f.type, n ≤ reachBytes := by
            intro j f y hj hy' n hn
            refine hwe n ?_
            simp only [DataW.weights, T.hs]
            refine DataW.weights_mem_each (j := j) (t := f.type) (d := y.1) ?_ ?_ n hn
            · rw [List.getElem?_map]
              have : ([f0, f1, f2, f3, f4] : List Field)[j]? = some f := by simpa using hj
              show Option.map _ (([f0, f1, f2, f3, f4] : List Field)[j]?) = _
              rw [this]; rfl
            · rw [List.getElem?_map, hy']; rfl
          obtain ⟨a0, e0, _, _⟩ := DataW.trod_int T.h0 q0
          obtain ⟨a1, e1, _⟩ := DataW.trod_bool T.h1 q1
          obtain ⟨a2, e2, _⟩ := DataW.trod_bool T.h2 q2
          obtain ⟨At, m, c', bs, eu, r1, r2, r3, r4, r5⟩ := open_txt T.h3' T.he T.hc T.hb (show DataW.trod enc P W 0 (fun _ => true) true n' et [u3] = some y3 from q3)
          have hm' : m ≤ 140737488351232 := r5 (fun n hn => hwf 3 f3 y3 rfl rfl n (by rw [T.h3]; exact hn))
          obtain ⟨As, m2, d, sub, es, s1, s2, s3, s4, s5⟩ := ih n' (by omega) u4 y4 (show DataW.trod enc P W 0 (fun _ => true) true n' t [u4] = some y4 from q4) (fun n hn => hwf 4 f4 y4 rfl rfl n (by rw [T.h4]; exact hn))
          simp at e0 e1 e2
          subst e0 e1 e2 eu es s2
          have g : ∀ q (hq : q < 5), W.cell? (a.add (i * 5 + q)) = [Value.int .i64 a0, .bool a1, .bool a2, .slice At m c', .slice As sub.len d][q]? := fun q hq => by
            rw [← Deep.add_add]
            exact hg q (by simpa using hq)
          refine ⟨a0, a1, a2, At, m, c', bs, As, d, sub, ⟨g 0 (by decide), g 1 (by decide), g 2 (by decide), g 3 (by decide), g 4 (by decide)⟩, ⟨r1, r2, r3, r4, fun h0 a' e' => ?_, by omega⟩, s1, s3, s4, s5⟩
          rcases r2 with h | ⟨b', off, rfl, hb', _⟩
          · have h0' : 0 < m := h0
            have : bs = [] := by simpa using h
            rw [this, List.length_nil] at r1
            omega
          · injection e' with e'; subst e'; exact hb'
      rcases Nat.eq_zero_or_pos len with h0 | h0
      · subst h0
        exact ⟨some a, 0, cap, .nil, rfl, trivial, rfl, Nat.zero_le _, hm, Nat.zero_le _⟩
      · obtain ⟨k, _, _, _, _, _, _, _, _, _, ⟨hc0, _⟩, _⟩ := each 0 h0
        have e1 : a.add (0 * 5 + 0) = a := by simp [Addr.add]
        rw [e1] at hc0
        have hsp' := World.cell?_spot hc0
        have hlt := World.block_lt_of_cell? W a hc0
        obtain ⟨b, off, spot⟩ := a
        simp only at hsp' hlt
        subst hsp'
        have each' : ∀ i, i < len → ∃ (k : Int) (cr li : Bool) (At : Option Addr) (n c : Nat) (bs : List UInt8) (As : Option Addr) (d : Nat) (sub : Fo),
            (W.cell? ⟨b, off + i * 5, none⟩ = some (.int .i64 k) ∧ W.cell? ⟨b, off + i * 5 + 1, none⟩ = some (.bool cr) ∧ W.cell? ⟨b, off + i * 5 + 2, none⟩ = some (.bool li) ∧
             W.cell? ⟨b, off + i * 5 + 3, none⟩ = some (.slice At n c) ∧ W.cell? ⟨b, off + i * 5 + 4, none⟩ = some (.slice As sub.len d)) ∧
            TxtR (· < W.heap.size) W At n c bs ∧ FoR (· < W.heap.size) W As 0 sub ∧ sub.len ≤ d ∧ d ≤ maxLen ∧ sub.len ≤ 2199023255488 := by
          intro i hi
          obtain ⟨k, cr, li, At, n, c, bs, As, d, sub, ⟨g0, g1, g2, g3, g4⟩, r⟩ := each i hi
          rw [Addr.add_lit] at g0 g1 g2 g3 g4
          exact ⟨k, cr, li, At, n, c, bs, As, d, sub, ⟨g0, g1, g2, g3, g4⟩, r⟩
        obtain ⟨f, hf1, hf2⟩ := fo_of_all (ok := (· < W.heap.size)) hlt hlt each' len 0 (by omega)
        exact ⟨some ⟨b, off, none⟩, len, cap, f, rfl, hf2, hf1, hl, hm, by omega⟩
theorem opn_fo {H : Type} {enc : TypeId × Value → H} {P : Program} {W : World} {base t it et e j : Nat} {f0 f1 f2 f3 f4 : Field} (T : ItT P t it f0 f1 f2 f3 f4 et e) {v : Value} {d : DataW H} {p : List MemPlace} {ts : List TypeId} {ds : List (DataW H)}
    (hv : Value.okWide P W .any base t v) (hj : DataW.Trod enc P W 0 (fun _ => true) true t v d p) (hsz : (DataW.weightsEach P ts ds).all (· ≤ reachBytes) = true) (k1 : ts[j]? = some t) (k2 : ds[j]? = some d) :
    ∃ (A : Option Addr) (n c : Nat) (f : Fo), v = .slice A n c ∧ (FoR (· < W.heap.size) W A 0 f ∧ f.len = n ∧ n ≤ c ∧ c ≤ maxLen ∧ n ≤ 2199023255488) := by
  obtain ⟨a0, len, cap, rfl⟩ := okWide_slice T.ht hv
  obtain ⟨fuel, hf⟩ := hj
  have hf' : DataW.trod enc P W 0 (fun _ => true) true fuel t [.slice a0 len cap] = some (d, p) := by
    simpa [Value.cells] using hf
  obtain ⟨A, n, c, f, e1, r⟩ := open_fo T fuel _ _ hf' (fun n hn => of_decide_eq_true (List.all_eq_true.1 hsz n (DataW.weights_mem_each k1 k2 n hn)))
  exact ⟨A, n, c, f, e1, r⟩
end Go.Proofs.Ytgnciejbhaebeaa

/- The walk of the law TlvBack: it returns true. Conditions: the row's own. -/
namespace Go.Proofs.Ytgnciejbhaebeaa
open Go Go.RowKit

set_option maxRecDepth 100000 in
set_option maxHeartbeats 4000000 in
theorem TlvBack_walk (w : World) (A : Option Addr) (n c : Nat) (f : Fo) (hr : FoR (· < w.heap.size) w A 0 f ∧ f.len = n ∧ n ≤ c ∧ c ≤ maxLen ∧ n ≤ 2199023255488) :
    Calls Try.prog 10 #[.slice A n c] w fun r w' => r = .returned (.bool true) ∧ Below w.heap.size w w' := by
  obtain ⟨h1, hn, hc, hm, hl⟩ := hr
  have H1 := Lib.hid h1
  have HN := Lib.hid hn
  clear h1 hn hc hm
  go_enter Try.func10, Try.ntmps10
  go_wp2_with (fail)
  refine (Small_c f _ A n c w HN.out H1.out hl).mono ?_
  rintro _ w1 ⟨b, rfl, hb, hk1⟩
  have K1 := Lib.hid hk1
  have HB := Lib.hid hb
  clear hk1 hb
  cases b with
  | false =>
    go_wp2_with (fail)
    refine (fixedT_c w1).mono ?_
    rintro _ w2 ⟨rfl, hk2⟩
    have K2 := Lib.hid (K1.out.trans (hk2.mono K1.out.size))
    clear hk2
    go_wp2_with (fail)
    go_ret
    exact ⟨rfl, K2.out⟩
  | true =>
    go_wp2_with (fail)
    refine (EncodeT_c f _ A n c w1 HN.out (H1.out.below K1.out) hl).mono ?_
    rintro _ w2 ⟨v2, rfl, ho2, hk2⟩
    obtain ⟨C, hC⟩ : ∃ C, C = checkF f := ⟨_, rfl⟩
    rw [← hC]
    have HC := Lib.hid hC
    have K2 := Lib.hid (K1.out.trans (hk2.mono K1.out.size))
    obtain ⟨A2, c2, rfl, -, -, r2, -⟩ := OwnB.form ho2
    clear ho2 hk2 hC
    by_cases h0 : C = 0
    · have ed : (C != 0) = false := by rw [h0]; rfl
      have hz : checkF f = 0 := HC.out.symm.trans h0
      have hE : encF f = layL f := by rw [encF, if_pos hz]
      rw [hE] at r2 ⊢
      obtain ⟨-, -, h4⟩ := check_zero hz
      have hD := dec_back hz
      obtain ⟨E, eE⟩ : ∃ E, E = layL f := ⟨_, rfl⟩
      rw [← eE] at r2 hD h4 ⊢
      obtain ⟨m, em⟩ : ∃ m, E.length = m := ⟨_, rfl⟩
      rw [em] at h4 ⊢
      have R2 := Lib.hid r2
      have HD := Lib.hid hD
      have EM := Lib.hid em
      clear h0 hz hE hD r2 eE em
      go_wp2_with (fail)
      refine (DecodeT_c E A2 m c2 w2 EM.out R2.out (by omega)).mono ?_
      rintro _ w3 ⟨v3, rfl, ho3, hk3⟩
      rw [HD.out] at ho3 ⊢
      obtain ⟨A3, c3, rfl, -, -, r3⟩ := ho3.form (n := n) HN.out
      have K3 := Lib.hid (K2.out.trans (hk3.mono K2.out.size))
      have R3 := Lib.hid r3
      clear ho3 hk3 r3
      go_wp2_with (fail)
      refine (fixedT_c w3).mono ?_
      rintro _ w4 ⟨rfl, hk4⟩
      have K4 := Lib.hid (K3.out.trans (hk4.mono K3.out.size))
      have R4 := Lib.hid (R3.out.below hk4)
      have RL := Lib.hid (H1.out.below K4.out)
      clear hk4
      go_wp2_with (fail)
      refine (Same02_t f.size f (Nat.le_refl _) _ _ A3 A n c3 c w4 HN.out R4.out RL.out hl).mono ?_
      rintro _ w5 ⟨rfl, q5, rfl⟩
      go_wp2_with (fail)
      go_ret
      exact ⟨rfl, below_drewN K4.out q5⟩
    · have ed : (C != 0) = true := by simpa using h0
      clear h0 r2
      go_wp2_with (fail)
      refine (fixedT_c w2).mono ?_
      rintro _ w3 ⟨rfl, hk3⟩
      have K3 := Lib.hid (K2.out.trans (hk3.mono K2.out.size))
      clear hk3
      go_wp2_with (fail)
      refine (refCheck_c f _ A n c w3 HN.out (H1.out.below K3.out) hl).mono ?_
      rintro _ w4 ⟨rfl, hk4⟩
      rw [← HC.out]
      have K4 := Lib.hid (K3.out.trans (hk4.mono K3.out.size))
      clear hk4
      go_wp2_with (fail)
      go_ret
      exact ⟨rfl, K4.out⟩
end Go.Proofs.Ytgnciejbhaebeaa
