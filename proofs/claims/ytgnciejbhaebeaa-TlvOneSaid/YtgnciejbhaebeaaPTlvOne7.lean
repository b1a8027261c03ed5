/- Parts one behind the other: The chapter's examples of items; The plain law of items: what is laid is read as it was; what is read is laid as it stood there; The walk of the law TlvOne: it returns true. Conditions: as told at each. -/
import Derived.Test.YtgnciejbhaebeaaPTlvOne3
import Derived.Test.YtgnciejbhaebeaaPTlvOne5
import Derived.Test.YtgnciejbhaebeaaPTlvOne6
import Derived.Test.YtgnciejbhaebeaaPTlvOne2

/- The chapter's examples of items. Conditions: none. -/
namespace Go.Proofs.Ytgnciejbhaebeaa
open Go Go.RowKit

def fxF : Fo := .cons 1 false false [7] .nil (.cons 2 true true [] .nil .nil)
theorem fx_lay : layL fxF = [4, 1, 7, 11, 0] := by
  simp only [fxF, layL, numI, List.length_nil, List.length_singleton, List.append_nil, if_true, Bool.false_eq_true, if_false]
  rw [varL_lo (by decide), varL_lo (by decide), varL_lo (by decide), varL_lo (by decide)]
  rfl
theorem fx_check : checkF fxF = 0 := by
  rw [checkF, fx_lay]
  have : scanF (fullR fxF 1 0) 0 = 0 := by decide
  rw [this]
  rfl
theorem fx_enc : encF fxF = [4, 1, 7, 11, 0] := by rw [encF, fx_check, if_pos rfl, fx_lay]
theorem fx_dec : (decT [4, 0, 4, 0]).1 = 3 := by kernel_rfl
theorem fx_pick : pickT [1] fxF = (7, .nil) := by
  have : critF [1] fxF = true := by decide
  rw [pickT, this]; rfl
set_option maxRecDepth 100000 in
set_option maxHeartbeats 4000000 in
theorem fixedT_c (w : World) : Calls Try.prog 41 #[] w fun r w' => r = .returned (.bool true) ∧ Below w.heap.size w w' := by
  obtain ⟨w1, ew1⟩ : ∃ w1, w1 = w.alloc (.cells #[.int .u8 7] 5) := ⟨_, rfl⟩
  obtain ⟨g, eg⟩ : ∃ g, g = w.heap.size := ⟨_, rfl⟩
  obtain ⟨w2, ew2⟩ : ∃ w2, w2 = w1.alloc (.cells #[.int .i64 1, .bool false, .bool false, .slice (some ⟨g, 0, none⟩) 1 1, .slice none 0 0, .int .i64 2, .bool true, .bool true, .slice none 0 0, .slice none 0 0] 95) := ⟨_, rfl⟩
  have hs1 : w1.heap.size = g + 1 := by rw [ew1, eg]; simp
  have b1 : Below w.heap.size w w1 := by rw [ew1]; exact (Below.refl _ _).alloc (Nat.le_refl _) _
  have b2 : Below w.heap.size w w2 := by rw [ew2]; exact b1.alloc b1.size _
  have h1 : w2.heap[g]? = some (.cells #[.int .u8 7] 5 (0, 0)) := by rw [ew2, Below.heap_alloc _ _ _ (by omega), ew1, eg]; exact heap_alloc_new _ _
  have h2 : w2.heap[g + 1]? = some (.cells #[.int .i64 1, .bool false, .bool false, .slice (some ⟨g, 0, none⟩) 1 1, .slice none 0 0, .int .i64 2, .bool true, .bool true, .slice none 0 0, .slice none 0 0] 95 (0, 0)) := by rw [ew2, ← hs1]; exact heap_alloc_new _ _
  have hf : FoR (fun _ => True) w2 (some ⟨g + 1, 0, none⟩) 0 fxF := by
    refine FoR.of_row (heap_lt h2) trivial fxF [⟨1, false, false, some ⟨g, 0, none⟩, 1, 1, none, 0, 0⟩, ⟨2, true, true, none, 0, 0, none, 0, 0⟩] 0 (fun k hk => ?_) ?_
    · simp only [Nat.zero_mul, Nat.zero_add]
      rw [heap_cell h2]
      have hk10 : k < 10 := hk
      match k, hk10 with
      | 0, _ => rfl
      | 1, _ => rfl
      | 2, _ => rfl
      | 3, _ => rfl
      | 4, _ => rfl
      | 5, _ => rfl
      | 6, _ => rfl
      | 7, _ => rfl
      | 8, _ => rfl
      | 9, _ => rfl
    · refine ⟨_, _, rfl, rfl, rfl, rfl, ⟨rfl, ?_, Nat.le_refl _, by show 1 ≤ maxLen; unfold maxLen; omega, fun _ _ _ => trivial, by show 1 ≤ 140737488355328; omega⟩, ⟨rfl, trivial, Nat.le_refl _, Nat.zero_le _, Nat.zero_le _⟩, ?_⟩
      · refine .inr ⟨g, 0, rfl, heap_lt h1, fun k hk => ?_⟩
        have hk1 : k < 1 := hk
        rw [heap_cell h1]
        match k, hk1 with
        | 0, _ => rfl
      · exact ⟨_, [], rfl, rfl, rfl, rfl, (TxtO.nil_ _ _).r, ⟨rfl, trivial, Nat.le_refl _, Nat.zero_le _, Nat.zero_le _⟩, rfl⟩
  have HF := Lib.hid hf
  have B2 := Lib.hid b2
  have EW1 := Lib.hid ew1
  have EG := Lib.hid eg
  have EW2 := Lib.hid ew2
  clear ew1 eg ew2 hs1 b1 b2 h1 h2 hf
  go_enter Try.func41, Try.ntmps41
  go_wp2_with (fail)
  rw [← EW1.out, ← EG.out, ← EW2.out]
  refine (EncodeT_c fxF (fun _ => True) (some ⟨g + 1, 0, none⟩) 2 2 w2 rfl HF.out (by omega)).mono ?_
  rintro _ w3 ⟨v3, rfl, ho3, hb3⟩
  rw [fx_check]
  rw [fx_enc] at ho3
  obtain ⟨A3, c3, rfl, -, -, r3, -⟩ := OwnB.form ho3
  have B3 := Lib.hid (B2.out.trans (hb3.mono B2.out.size))
  have R3 := Lib.hid r3
  have HF3 := Lib.hid (HF.out.below hb3)
  clear ho3 hb3 r3
  have rd4 : Rd (w3.alloc (.cells #[.int .u8 4, .int .u8 0, .int .u8 4, .int .u8 0] 5)) (some ⟨w3.heap.size, 0, none⟩) (([4, 0, 4, 0] : List UInt8).map bv) := Rd.lit w3 (([4, 0, 4, 0] : List UInt8).map bv) 5
  have b34 : Below w3.heap.size w3 (w3.alloc (.cells #[.int .u8 4, .int .u8 0, .int .u8 4, .int .u8 0] 5)) := (Below.refl _ _).alloc (Nat.le_refl _) _
  have RD4 := Lib.hid rd4
  have B34 := Lib.hid b34
  clear rd4 b34
  go_wp2_with (fail)
  refine (DecodeT_c [4, 0, 4, 0] _ 4 4 _ rfl RD4.out (by omega)).mono ?_
  rintro _ w5 ⟨v5, rfl, -, hb5⟩
  rw [fx_dec]
  have b35 : Below w3.heap.size w3 w5 := B34.out.trans (hb5.mono B34.out.size)
  have B5 := Lib.hid (B3.out.trans (b35.mono B3.out.size))
  have HF5 := Lib.hid (HF3.out.below b35)
  have R5 := Lib.hid (R3.out.below b35)
  clear hb5 b35
  obtain ⟨w6, ew6⟩ : ∃ w6, w6 = w5.alloc (.cells #[.int .i64 1] 3) := ⟨_, rfl⟩
  have b56 : Below w5.heap.size w5 w6 := by rw [ew6]; exact (Below.refl _ _).alloc (Nat.le_refl _) _
  have rk : RdI w6 (some ⟨w5.heap.size, 0, none⟩) [1] := by
    refine .inr ⟨w5.heap.size, 0, rfl, by rw [ew6]; simp, fun k hk => ?_⟩
    have hk1 : k < 1 := hk
    rw [ew6, heap_cell (heap_alloc_new _ _)]
    match k, hk1 with
    | 0, _ => rfl
  have HF6 := Lib.hid (HF5.out.below b56)
  have R6 := Lib.hid (R5.out.below b56)
  have B6 := Lib.hid (B5.out.trans (b56.mono B5.out.size))
  have RK := Lib.hid rk
  have EW6 := Lib.hid ew6
  clear ew6 b56 rk
  go_wp2_with (fail)
  rw [← EW6.out]
  refine (Pick_c fxF (fun _ => True) (some ⟨g + 1, 0, none⟩) 2 2 (some ⟨w5.heap.size, 0, none⟩) 1 1 [1] w6 rfl HF6.out (by decide) rfl RK.out (by omega)).mono ?_
  rintro _ w7 ⟨v7, rfl, -, hb7⟩
  rw [fx_pick]
  have B7 := Lib.hid (B6.out.trans (hb7.mono B6.out.size))
  have R7 := Lib.hid (R6.out.below hb7)
  clear hb7
  have b78 : Below w7.heap.size w7 (w7.alloc (.cells #[.int .u8 4, .int .u8 1, .int .u8 7, .int .u8 11, .int .u8 0] 5)) := (Below.refl _ _).alloc (Nat.le_refl _) _
  have rd8 : Rd (w7.alloc (.cells #[.int .u8 4, .int .u8 1, .int .u8 7, .int .u8 11, .int .u8 0] 5)) (some ⟨w7.heap.size, 0, none⟩) (([4, 1, 7, 11, 0] : List UInt8).map bv) := Rd.lit w7 (([4, 1, 7, 11, 0] : List UInt8).map bv) 5
  have R8 := Lib.hid (R7.out.below b78)
  have RD8 := Lib.hid rd8
  have B8 := Lib.hid (B7.out.trans (b78.mono B7.out.size))
  clear b78 rd8
  go_wp2_with (fail)
  refine (Same_t A3 (some ⟨w7.heap.size, 0, none⟩) 5 5 c3 5 [4, 1, 7, 11, 0] _ rfl rfl R8.out RD8.out (by unfold maxLen; omega)).mono ?_
  rintro _ w9 ⟨rfl, q, rfl⟩
  go_wp2_with (fail)
  go_ret
  exact ⟨rfl, below_drewN B8.out q⟩
end Go.Proofs.Ytgnciejbhaebeaa

/- The plain law of items: what is laid is read as it was; what is read is laid as it stood there. Conditions: none. -/
namespace Go.Proofs.Ytgnciejbhaebeaa
open Go Go.RowKit

theorem numI_parts {k : Int} {cr li : Bool} (h1 : 1 ≤ k) (h2 : k ≤ 1000) : ((numI k cr li / 4 : Nat) : Int) = k ∧ (numI k cr li % 2 = 1 ↔ li = true) ∧ (decide (2 ≤ numI k cr li % 4) = cr) ∧ U64 (numI k cr li) := by
  have hu : U64 (numI k cr li) := by have := numI_le cr li h1 h2; unfold U64; omega
  refine ⟨?_, ?_, ?_, hu⟩
  · unfold numI; cases cr <;> cases li <;> simp <;> omega
  · unfold numI; cases cr <;> cases li <;> simp <;> omega
  · unfold numI; cases cr <;> cases li <;> simp <;> omega
theorem scan_cons {x : En} {S R : List En} {c : Nat} : scanF (x :: (S ++ R)) c = 0 ↔ fe c x = 0 ∧ scanF S (c + 1) = 0 ∧ scanF R (c + 1 + S.length) = 0 := by
  rw [scanF]
  by_cases h : fe c x = 0
  · rw [if_neg (by simp [h]), scanF_append]
    by_cases h2 : scanF S (c + 1) = 0
    · rw [if_neg (by simp [h2])]
      simp [h, h2]
    · rw [if_pos h2]
      simp [h2]
  · rw [if_pos h]; simp [h]
/-- A reader's first number, where it was laid. -/
theorem varR_laid {s : RS} {n : Nat} {more : List UInt8} (h0 : s.err = 0) (hu : U64 n) (hl : s.b.drop s.at_ = varL n ++ more) :
    varR s = (n, { s with at_ := s.at_ + (varL n).length }) ∧ s.b.drop (s.at_ + (varL n).length) = more := by
  refine ⟨?_, ?_⟩
  · rw [varR, if_neg (by simpa using h0), hl, varGo_laid hu]
  · rw [← List.drop_drop, hl, List.drop_left]
theorem textR_laid {s : RS} {t more : List UInt8} (h0 : s.err = 0) (ht : t.length ≤ 4096) (hl : s.b.drop s.at_ = varL t.length ++ (t ++ more)) :
    ∃ s2, textR s 4096 = (t, s2) ∧ s2.b = s.b ∧ s2.err = 0 ∧ s2.b.drop s2.at_ = more := by
  have hu : U64 t.length := by unfold U64; omega
  obtain ⟨-, hd⟩ := varR_laid h0 hu hl
  have hlen : (s.b.drop (s.at_ + (varL t.length).length)).length = t.length + more.length := by rw [hd, List.length_append]
  rw [List.length_drop] at hlen
  have hsl : s.at_ + (varL t.length).length ≤ s.b.length ∨ t.length + more.length = 0 := by omega
  refine ⟨{ s with at_ := s.at_ + (varL t.length).length + t.length }, ?_, rfl, h0, ?_⟩
  · have h1 : ¬ ((4096 : Int) < 0 ∨ (4096 : Int) < (t.length : Int)) := by omega
    have h2 : ¬ s.b.length < s.at_ + (varL t.length).length + t.length := by
      have := congrArg List.length hl
      rw [List.length_drop, List.length_append, List.length_append] at this
      have hv : 1 ≤ (varL t.length).length := (varGo_u64 (varGo_laid hu [])).2.2
      omega
    rw [textR, if_neg (by simpa using h0), hl, varGo_laid hu]
    simp only
    rw [if_neg h1, if_neg h2, hd, List.take_left]
  · show s.b.drop (s.at_ + (varL t.length).length + t.length) = more
    rw [← List.drop_drop, hd, List.drop_left]
theorem back_law : ∀ (f : Fo) (m : Nat) (s : RS) (d : Int) (ah c : Nat), s.b.length - s.at_ < m → s.err = 0 → s.at_ ≤ s.b.length → d ≤ 4 → s.b.drop s.at_ = layL f → (layL f).length ≤ 4096 → scanF (fullR f d ah) c = 0 → decG m s d ah c = (0, f, c + (fullR f d ah).length)
  | .nil, m, s, d, ah, c, hm, h0, ha, hd, hl, h4, hs => by
    obtain ⟨m', rfl⟩ : ∃ m', m = m' + 1 := ⟨m - 1, by omega⟩
    have : s.b.length - s.at_ = 0 := by have := congrArg List.length hl; rw [List.length_drop] at this; simpa [layL] using this
    rw [decG_end (by omega)]; rfl
  | .cons k cr li bs sub rest, m, s, d, ah, c, hm, h0, ha, hd, hl, h4, hs => by
    obtain ⟨m', rfl⟩ : ∃ m', m = m' + 1 := ⟨m - 1, by omega⟩
    rw [fullR, if_pos (by omega)] at hs
    obtain ⟨hfe, hs1, hs2⟩ := scan_cons.1 hs
    obtain ⟨q1, q2, q3, q4, q5, q6, q7, q8⟩ := fe_zero hfe
    dsimp only at q2 q3 q4 q5 q6 q7 q8
    obtain ⟨n1, n2, n3, n4⟩ := numI_parts (cr := cr) (li := li) q2 q3
    obtain ⟨t, et⟩ : ∃ t, t = (if li then layL sub else bs) := ⟨_, rfl⟩
    have hlay : layL (.cons k cr li bs sub rest) = varL (numI k cr li) ++ (varL t.length ++ (t ++ layL rest)) := by rw [layL, ← et]; simp only [List.append_assoc]
    rw [hlay] at hl h4
    obtain ⟨hv, hd1⟩ := varR_laid h0 n4 hl
    obtain ⟨s1, es1⟩ : ∃ s1 : RS, s1 = { s with at_ := s.at_ + (varL (numI k cr li)).length } := ⟨_, rfl⟩
    rw [← es1] at hv
    have hd1' : s1.b.drop s1.at_ = varL t.length ++ (t ++ layL rest) := by rw [es1]; exact hd1
    have h1 : s1.err = 0 := by rw [es1]; exact h0
    obtain ⟨a1, a2, a3, a4, a5, a6⟩ := varR_step hv h0 ha
    rw [List.length_append, List.length_append, List.length_append] at h4
    obtain ⟨s2, ht, e2b, e2e, hd2⟩ := textR_laid h1 (by omega) hd1'
    obtain ⟨b1, b2, b3, b4, b5, b6, b7⟩ := textR_step ht h1 (by rw [a1]; exact a4)
    have hlt : s.at_ < s.b.length := by have := a6 h1; omega
    have hnf : ¬ (numI k cr li / 4 ≤ ah ∨ 1000 < numI k cr li / 4) := by omega
    have hnc : ¬ 64 ≤ c := by omega
    have hr : s2.b.length - s2.at_ < m' := by have := a6 h1; have := b7 e2e; rw [b1, a1]; omega
    have hr2 : s2.at_ ≤ s2.b.length := by rw [b1]; exact b4
    have hk : ((numI k cr li / 4 : Nat) : Int) = k := n1
    cases li with
    | false =>
      obtain rfl : sub = .nil := Fo.len0 (q5 rfl)
      have ht0 : t = bs := by rw [et]; rfl
      subst ht0
      have h2 : numI k cr false % 2 = 0 := by have : ¬ numI k cr false % 2 = 1 := fun h => by cases n2.1 h
                                              omega
      rw [decG_item hlt hv h1 hnf hnc ht e2e h2]
      have ih := back_law rest m' s2 d (numI k cr false / 4) (c + 1) hr e2e hr2 hd hd2 (by omega) (by rw [hk]; simpa [fullR] using hs2)
      rw [ih, cmb, n3, hk]
      simp only [Fo.app, fullR, if_pos (show d < 5 by omega), List.nil_append, List.length_cons]
      congr 2
      omega
    | true =>
      have hd4 : d ≠ 4 := q7 rfl
      have hb0 : bs = [] := List.eq_nil_of_length_eq_zero (q6 rfl)
      subst hb0
      have ht0 : t = layL sub := by rw [et]; rfl
      subst ht0
      have h2 : numI k cr true % 2 = 1 := n2.2 rfl
      have ihs := back_law sub m' ⟨layL sub, 0, 0, none⟩ (d + 1) 0 (c + 1) (by show (layL sub).length - 0 < m'; have := a6 h1; rw [a1] at b6; omega) rfl (Nat.zero_le _) (by omega) rfl (by omega) hs1
      rw [decG_list hlt hv h1 hnf hnc hd4 ht e2e h2 ihs]
      have ih := back_law rest m' s2 d (numI k cr true / 4) (c + 1 + (fullR sub (d + 1) (0 : Nat)).length) hr e2e hr2 hd hd2 (by omega) (by rw [hk]; exact hs2)
      rw [ih, cmb, n3, hk]
      simp only [Fo.app, fullR, if_pos (show d < 5 by omega), List.length_cons, List.length_append]
      congr 2
      have e0 : ((0 : Nat) : Int) = 0 := rfl
      rw [e0]
      omega
/-- What is laid is read as it was. -/
theorem dec_back {f : Fo} (h : checkF f = 0) : decT (layL f) = (0, f) := by
  have hs : scanF (fullR f 1 0) 0 = 0 := by
    unfold checkF at h
    by_cases h0 : scanF (fullR f 1 0) 0 = 0
    · exact h0
    · rw [if_pos h0] at h; exact absurd h h0
  have h4 : (layL f).length ≤ 4096 := by
    unfold checkF at h
    rw [if_neg (by simp [hs])] at h
    by_cases h1 : 4096 < (layL f).length
    · rw [if_pos h1] at h; omega
    · omega
  have := back_law f ((layL f).length + 1) ⟨layL f, 0, 0, none⟩ 1 0 0 (by show (layL f).length - 0 < _; omega) rfl (Nat.zero_le _) (by omega) rfl h4 hs
  rw [decT_eq h4 this]
  rfl
/-- A number's bytes and what stands behind. -/
theorem varR_one {s s1 : RS} {n : Nat} (hv : varR s = (n, s1)) (h0 : s.err = 0) (h1 : s1.err = 0) : s.b.drop s.at_ = varL n ++ s1.b.drop s1.at_ := by
  unfold varR at hv
  rw [if_neg (by simpa using h0)] at hv
  cases hg : varGo (s.b.drop s.at_) 0 with
  | bad e =>
    rw [hg] at hv
    injection hv with hn hs
    subst hs
    rcases varGo_err hg with rfl | rfl <;> cases h1
  | ok n' k =>
    rw [hg] at hv
    injection hv with hn hs
    subst hs hn
    have := (varGo_one _ _ _ _ hg).1
    show s.b.drop s.at_ = varL n' ++ s.b.drop (s.at_ + k)
    rw [← this, ← List.drop_drop, List.take_append_drop]
theorem textR_one {s s2 : RS} {t : List UInt8} (ht : textR s 4096 = (t, s2)) (h0 : s.err = 0) (h2 : s2.err = 0) : s.b.drop s.at_ = varL t.length ++ (t ++ s2.b.drop s2.at_) := by
  unfold textR at ht
  rw [if_neg (by simpa using h0)] at ht
  cases hg : varGo (s.b.drop s.at_) 0 with
  | bad e =>
    rw [hg] at ht
    injection ht with hn hs
    subst hs
    rcases varGo_err hg with rfl | rfl <;> cases h2
  | ok n k =>
    rw [hg] at ht
    simp only at ht
    by_cases h3 : (4096 : Int) < 0 ∨ (4096 : Int) < (n : Int)
    · rw [if_pos h3] at ht
      injection ht with hn hs
      subst hs
      cases h2
    · rw [if_neg h3] at ht
      by_cases h4 : s.b.length < s.at_ + k + n
      · rw [if_pos h4] at ht
        injection ht with hn hs
        subst hs
        cases h2
      · rw [if_neg h4] at ht
        injection ht with hn hs
        subst hs hn
        have hl : ((s.b.drop (s.at_ + k)).take n).length = n := by rw [List.length_take, List.length_drop]; omega
        have := (varGo_one _ _ _ _ hg).1
        show s.b.drop s.at_ = varL ((s.b.drop (s.at_ + k)).take n).length ++ ((s.b.drop (s.at_ + k)).take n ++ s.b.drop (s.at_ + k + n))
        rw [hl, ← List.drop_drop (i := n), List.take_append_drop, ← this, ← List.drop_drop, List.take_append_drop]
theorem numI_of {n : Nat} : numI ((n / 4 : Nat) : Int) (decide (2 ≤ n % 4)) true = n / 4 * 4 + (if 2 ≤ n % 4 then 2 else 0) + 1 ∧ numI ((n / 4 : Nat) : Int) (decide (2 ≤ n % 4)) false = n / 4 * 4 + (if 2 ≤ n % 4 then 2 else 0) := by
  unfold numI
  by_cases h : 2 ≤ n % 4
  · simp [h]; omega
  · simp [h]; omega
theorem one_law : ∀ (m : Nat) (s : RS) (d : Int) (ah c : Nat) (L : Fo) (c' : Nat), s.b.length - s.at_ < m → s.err = 0 → s.at_ ≤ s.b.length → 1 ≤ d → d ≤ 4 → decG m s d ah c = (0, L, c') → layL L = s.b.drop s.at_ ∧ scanF (fullR L d ah) c = 0 ∧ c' = c + (fullR L d ah).length
  | 0, s, d, ah, c, L, c', hm, _, _, _, _, _ => by omega
  | m + 1, s, d, ah, c, L, c', hm, h0, ha, hd1, hd, hD => by
    obtain ⟨n, s1, hv⟩ : ∃ n s1, varR s = (n, s1) := ⟨_, _, rfl⟩
    obtain ⟨t, s2, ht⟩ : ∃ t s2, textR s1 4096 = (t, s2) := ⟨_, _, rfl⟩
    by_cases hlt' : s.b.length ≤ s.at_
    · rw [decG_end hlt'] at hD
      injection hD with _ hD
      injection hD with e1 e2
      subst e1 e2
      refine ⟨?_, rfl, rfl⟩
      rw [List.drop_of_length_le hlt']; rfl
    have hlt : s.at_ < s.b.length := by omega
    obtain ⟨a1, a2, a3, a4, a5, a6⟩ := varR_step hv h0 ha
    by_cases h1 : s1.err = 0
    · obtain ⟨b1, b2, b3, b4, b5, b6, b7⟩ := textR_step ht h1 (by rw [a1]; exact a4)
      by_cases h2 : n / 4 ≤ ah ∨ 1000 < n / 4
      · rw [decG_form hlt hv h1 h2] at hD; injection hD with hD; cases hD
      by_cases h3 : 64 ≤ c
      · rw [decG_many hlt hv h1 h2 h3] at hD; injection hD with hD; cases hD
      by_cases h4 : n % 2 = 1 ∧ d = 4
      · rw [decG_deep hlt hv h1 h2 h3 h4] at hD; injection hD with hD; cases hD
      by_cases h5 : s2.err = 0
      · have hr : s2.b.length - s2.at_ < m := by have := a6 h1; have := b7 h5; rw [b1, a1]; omega
        have hr2 : s2.at_ ≤ s2.b.length := by rw [b1]; exact b4
        have hbytes : s.b.drop s.at_ = varL n ++ (varL t.length ++ (t ++ s2.b.drop s2.at_)) := by rw [varR_one hv h0 h1, textR_one ht h1 h5]
        obtain ⟨nt, nf⟩ := numI_of (n := n)
        by_cases h6 : n % 2 = 1
        · have hd4 : d ≠ 4 := fun e => h4 ⟨h6, e⟩
          by_cases h7 : (decG m ⟨t, 0, 0, none⟩ (d + 1) 0 (c + 1)).1 = 0
          · obtain ⟨L1, c1, e7⟩ : ∃ L1 c1, decG m ⟨t, 0, 0, none⟩ (d + 1) 0 (c + 1) = (0, L1, c1) := ⟨_, _, Prod.ext h7 rfl⟩
            obtain ⟨i1, i2, i3⟩ := one_law m ⟨t, 0, 0, none⟩ (d + 1) 0 (c + 1) L1 c1 (by show t.length - 0 < m; have := a6 h1; rw [a1] at b6; omega) rfl (Nat.zero_le _) (by omega) (by omega) e7
            have i1' : layL L1 = t := i1
            rw [decG_list hlt hv h1 h2 h3 hd4 ht h5 h6 e7] at hD
            obtain ⟨L2, c2, e8⟩ : ∃ L2 c2, decG m s2 d (n / 4) c1 = (0, L2, c2) := ⟨_, _, Prod.ext (show (decG m s2 d (n / 4) c1).1 = 0 from congrArg Prod.fst hD) rfl⟩
            rw [e8, cmb] at hD
            injection hD with _ hD
            injection hD with e1 e2
            simp only [Fo.app] at e1 e2
            subst e1 e2
            obtain ⟨j1, j2, j3⟩ := one_law m s2 d (n / 4) c1 L2 c2 hr h5 hr2 hd1 hd e8
            have e0 : ((0 : Nat) : Int) = 0 := rfl
            rw [e0] at i2 i3
            refine ⟨?_, ?_, ?_⟩
            · rw [layL, if_pos rfl, i1', j1, hbytes, nt]
              have : n / 4 * 4 + (if 2 ≤ n % 4 then 2 else 0) + 1 = n := by split <;> omega
              rw [this]
              simp only [List.append_assoc]
            · rw [fullR, if_pos (by omega)]
              refine scan_cons.2 ⟨fe_0 h3 ⟨by show (1 : Int) ≤ ((n / 4 : Nat) : Int); omega, by show ((n / 4 : Nat) : Int) ≤ 1000; omega, by show (ah : Int) < ((n / 4 : Nat) : Int); omega, (fun h => by cases h), fun _ => rfl⟩ (fun h => hd4 h.2) (Nat.zero_le _), i2, ?_⟩
              rw [← i3]; exact j2
            · rw [fullR, if_pos (by omega), List.length_cons, List.length_append, j3, i3]; omega
          · rw [decG_bad hlt hv h1 h2 h3 hd4 ht h5 h6 h7] at hD
            exact absurd (congrArg Prod.fst hD) h7
        · rw [decG_item hlt hv h1 h2 h3 ht h5 (by omega)] at hD
          obtain ⟨L2, c2, e8⟩ : ∃ L2 c2, decG m s2 d (n / 4) (c + 1) = (0, L2, c2) := ⟨_, _, Prod.ext (show (decG m s2 d (n / 4) (c + 1)).1 = 0 from congrArg Prod.fst hD) rfl⟩
          rw [e8, cmb] at hD
          injection hD with _ hD
          injection hD with e1 e2
          simp only [Fo.app] at e1 e2
          subst e1 e2
          obtain ⟨j1, j2, j3⟩ := one_law m s2 d (n / 4) (c + 1) L2 c2 hr h5 hr2 hd1 hd e8
          refine ⟨?_, ?_, ?_⟩
          · rw [layL, if_neg (by simp), j1, hbytes, nf]
            have : n / 4 * 4 + (if 2 ≤ n % 4 then 2 else 0) = n := by split <;> omega
            rw [this]
            simp only [List.append_assoc]
          · rw [fullR, if_pos (by omega)]
            refine scan_cons.2 ⟨fe_0 h3 ⟨by show (1 : Int) ≤ ((n / 4 : Nat) : Int); omega, by show ((n / 4 : Nat) : Int) ≤ 1000; omega, by show (ah : Int) < ((n / 4 : Nat) : Int); omega, fun _ => rfl, (fun h => by cases h)⟩ (fun h => by cases h.1) b5, rfl, ?_⟩
            simpa [fullR] using j2
          · rw [fullR, if_pos (by omega), List.length_cons, List.length_append, j3]; simp only [fullR, List.length_nil]; omega
      · rw [decG_text hlt hv h1 h2 h3 h4 ht h5] at hD
        exact absurd (congrArg Prod.fst hD) h5
    · rw [decG_var hlt hv h1] at hD
      exact absurd (congrArg Prod.fst hD) h1
/-- What is read without an error is laid as it stood there. -/
theorem dec_one {bs : List UInt8} (h : (decT bs).1 = 0) : checkF (decT bs).2 = 0 ∧ layL (decT bs).2 = bs := by
  by_cases h4 : 4096 < bs.length
  · rw [decT_long h4] at h; cases h
  · obtain ⟨e, L, c, eR⟩ : ∃ e L c, decG (bs.length + 1) ⟨bs, 0, 0, none⟩ 1 0 0 = (e, L, c) := ⟨_, _, _, rfl⟩
    rw [decT_eq (by omega) eR] at h ⊢
    have he : e = 0 := h
    subst he
    show checkF L = 0 ∧ layL L = bs
    obtain ⟨h1, h2, h3⟩ := one_law (bs.length + 1) ⟨bs, 0, 0, none⟩ 1 0 0 L c (by show bs.length - 0 < _; omega) rfl (Nat.zero_le _) (by omega) (by omega) eR
    have h1' : layL L = bs := h1
    refine ⟨?_, h1'⟩
    have e0 : ((0 : Nat) : Int) = 0 := rfl
    rw [e0] at h2
    rw [checkF, h2, if_neg (by simp), h1', if_neg h4]
end Go.Proofs.Ytgnciejbhaebeaa

/- The walk of the law TlvOne: it returns true. Conditions: the row's own. -/
namespace Go.Proofs.Ytgnciejbhaebeaa
open Go Go.RowKit

theorem decT_bad {bs : List UInt8} (h : (decT bs).1 ≠ 0) : (decT bs).2 = .nil := by
  by_cases h4 : 4096 < bs.length
  · rw [decT_long h4]
  · obtain ⟨e, L, c, eR⟩ : ∃ e L c, decG (bs.length + 1) ⟨bs, 0, 0, none⟩ 1 0 0 = (e, L, c) := ⟨_, _, _, rfl⟩
    rw [decT_eq (by omega) eR] at h ⊢
    exact if_neg h
set_option maxRecDepth 100000 in
set_option maxHeartbeats 4000000 in
theorem TlvOne_walk (w : World) (A : Option Addr) (n c : Nat) (bs : List UInt8) (hn : bs.length = n) (hr : Rd w A (bs.map bv)) (hc : n ≤ c) (hm : c ≤ maxLen) (hl : n ≤ 140737488351232) :
    Calls Try.prog 11 #[.slice A n c] w fun r w' => r = .returned (.bool true) ∧ Below w.heap.size w w' := by
  have HR := Lib.hid hr
  have HN := Lib.hid hn
  clear hr hn hc hm
  obtain ⟨D, hD⟩ : ∃ D, D = decT bs := ⟨_, rfl⟩
  obtain ⟨e, hE⟩ : ∃ e, e = D.1 := ⟨_, rfl⟩
  obtain ⟨L, hL⟩ : ∃ L, L = D.2 := ⟨_, rfl⟩
  have hsz : L.size ≤ 64 := by rw [hL, hD]; exact decT_size bs
  obtain ⟨k, hk⟩ : ∃ k, L.len = k := ⟨_, rfl⟩
  have hk64 : k ≤ 64 := by have := Fo.len_le L; omega
  have HD := Lib.hid hD
  have HE := Lib.hid hE
  have HL := Lib.hid hL
  have HK := Lib.hid hk
  clear hD hE hL hk hsz
  go_enter Try.func11, Try.ntmps11
  go_wp2_with (fail)
  refine (DecodeT_c bs A n c w HN.out HR.out (by omega)).mono ?_
  rintro _ w2 ⟨v2, rfl, ho2, hk2⟩
  rw [← HD.out] at ho2 ⊢
  rw [← HE.out]
  rw [← HL.out] at ho2
  obtain ⟨A2, c2, rfl, -, -, r2⟩ := ho2.form HK.out
  have K2 := Lib.hid hk2
  have R2 := Lib.hid r2
  clear ho2 hk2 r2
  by_cases h0 : e = 0
  · have ed : ((e : Int) != 0) = false := by rw [h0]; rfl
    have hone := dec_one (bs := bs) (by rw [← HD.out, ← HE.out]; exact h0)
    rw [← HD.out, ← HL.out] at hone
    obtain ⟨o1, o2⟩ := hone
    have O1 := Lib.hid o1
    have O2 := Lib.hid o2
    clear h0 o1 o2
    go_wp2_with (fail)
    refine (EncodeT_c L _ A2 k c2 w2 HK.out R2.out (by omega)).mono ?_
    rintro _ w3 ⟨v3, rfl, ho3, hk3⟩
    rw [O1.out]
    have hE : encF L = bs := by rw [encF, if_pos O1.out]; exact O2.out
    rw [hE] at ho3
    obtain ⟨A3, c3, rfl, -, -, r3, -⟩ := OwnB.form ho3
    rw [HN.out]
    have K3 := Lib.hid (K2.out.trans (hk3.mono K2.out.size))
    have R3 := Lib.hid r3
    clear ho3 hk3 r3 hE
    go_wp2_with (fail)
    refine (fixedT_c w3).mono ?_
    rintro _ w4 ⟨rfl, hk4⟩
    have K4 := Lib.hid (K3.out.trans (hk4.mono K3.out.size))
    have R4 := Lib.hid (R3.out.below hk4)
    clear hk4
    go_wp2_with (fail)
    refine (Same_t A3 A n n c3 c bs w4 HN.out HN.out R4.out (HR.out.below K4.out) (by unfold maxLen; omega)).mono ?_
    rintro _ w5 ⟨rfl, q5, rfl⟩
    go_wp2_with (fail)
    go_ret
    exact ⟨rfl, below_drewN K4.out q5⟩
  · have ed : ((e : Int) != 0) = true := by rw [bne_iff_ne]; omega
    have hb := decT_bad (bs := bs) (by rw [← HD.out, ← HE.out]; exact h0)
    rw [← HD.out, ← HL.out] at hb
    have hk0 : k = 0 := by rw [← HK.out, hb]; rfl
    subst hk0
    clear h0 hb
    go_wp2_with (fail)
    refine (fixedT_c w2).mono ?_
    rintro _ w3 ⟨rfl, hk3⟩
    have K3 := Lib.hid (K2.out.trans (hk3.mono K2.out.size))
    clear hk3
    go_wp2_with (fail)
    go_ret
    exact ⟨rfl, K3.out⟩
end Go.Proofs.Ytgnciejbhaebeaa
