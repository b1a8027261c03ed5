/- Parts one behind the other: The plain law on batches' bytes: what is laid is read as it was; what is read is just what is laid of it; What keys.numbers.get and the reference's read answer: a number read in a version's way; Rows of events that the call itself makes: appended, made, stored into; What slices.Clone, keys.clone and the reference's Copy answer of events: the same events in memory of one's own; What an inbox and a nil queue answer; What keys.numbers.event answers: an event read, or an error; What keys.numbers.event answers: no kind; a text; What keys.numbers.event answers: numbers; What keys.Decode answers: a batch read, or an error. Conditions: as told at each. -/
import Derived.Test.YtgnciejbhaebeaaPKeysBack2
import Derived.Test.YtgnciejbhaebeaaPKeysBack1
import Derived.Deep.RegionHeld3

/- The plain law on batches' bytes: what is laid is read as it was; what is read is just what is laid of it. Conditions: none. -/
namespace Go.Proofs.Ytgnciejbhaebeaa
open Go Go.RowKit

/-- What is not read yet. -/
def rest (s : RS) : List UInt8 := s.b.drop s.at_
theorem rest_add (s : RS) (k e : Nat) : rest { s with at_ := s.at_ + k, err := e } = (rest s).drop k := by
  unfold rest
  rw [List.drop_drop]
theorem get_laid {f : Bool} {s : RS} {n size : Nat} {more : List UInt8} (he : s.err = 0) (hn : U64 n) (hs1 : 1 ≤ size) (hs8 : size ≤ 8) (hlt : f = true → n < 256 ^ size) (hr : rest s = putL f n size ++ more) :
    ∃ s', getR f s size = (n, s') ∧ rest s' = more ∧ s'.err = 0 := by
  cases f
  · refine ⟨{ s with at_ := s.at_ + (varL n).length }, ?_, ?_, he⟩
    · rw [getR, if_neg (by decide), varR, if_neg (by simpa using he)]
      have : s.b.drop s.at_ = varL n ++ more := hr
      rw [this, varGo_laid hn]
    · have h2 := rest_add s (varL n).length s.err
      have hr' : rest s = varL n ++ more := hr
      rw [hr', List.drop_left] at h2
      exact h2
  · have hp : putL true n size = numL n size := by
      unfold putL numLI
      rw [if_pos rfl, if_pos (by omega)]
      rfl
    rw [hp] at hr
    have hl := congrArg List.length hr
    have hl2 : s.b.length - s.at_ = size + more.length := by
      have := hl
      unfold rest at this
      rw [List.length_drop, List.length_append, numL_length] at this
      exact this
    refine ⟨{ s with at_ := s.at_ + size }, ?_, ?_, he⟩
    · rw [getR, if_pos rfl, numR, if_neg (by simpa using he), if_neg (by omega), if_neg (by omega)]
      have : s.b.drop s.at_ = numL n size ++ more := hr
      rw [this, show ((size : Nat) : Int).toNat = size from rfl, List.take_left' (numL_length n size), beN_num, Nat.mod_eq_of_lt (hlt rfl)]
    · have h2 := rest_add s size s.err
      rw [hr, List.drop_left' (numL_length n size)] at h2
      exact h2
theorem numL_beN : ∀ (l : List UInt8), numL (beN l) l.length = l
  | [] => rfl
  | d :: l => by
    have h1 := beN_lt l
    have hd := UInt8.toNat_lt d
    rw [List.length_cons, numL_succ, beN_cons]
    have e1 : (d.toNat * 256 ^ l.length + beN l) / 256 ^ l.length = d.toNat := by
      rw [Nat.mul_comm, Nat.mul_add_div (Nat.pow_pos (by decide)), Nat.div_eq_of_lt h1, Nat.add_zero]
    have e2 : lo d.toNat = d := by
      apply UInt8.toNat_inj.1
      rw [lo_nat]; omega
    rw [e1, e2]
    congr 1
    have e3 : numL (d.toNat * 256 ^ l.length + beN l) l.length = numL (beN l) l.length := by
      unfold numL
      apply List.map_congr_left
      intro i hi
      have hi' : i < l.length := by simpa using hi
      apply UInt8.toNat_inj.1
      rw [lo_nat, lo_nat]
      have e4 : (256 : Nat) ^ l.length = 256 ^ (l.length - 1 - i) * (256 * 256 ^ i) := by
        rw [← Nat.pow_succ', ← Nat.pow_add]
        congr 1
        omega
      rw [e4, Nat.mul_comm d.toNat, Nat.mul_assoc, Nat.mul_add_div (Nat.pow_pos (by decide)), Nat.mul_assoc 256, Nat.mul_add_mod]
    rw [e3, numL_beN l]
theorem get_one {f : Bool} {s s' : RS} {n size : Nat} (he : s.err = 0) (hs1 : 1 ≤ size) (hs8 : size ≤ 8) (h : getR f s size = (n, s')) (he' : s'.err = 0) : rest s = putL f n size ++ rest s' := by
  cases f
  · rw [getR, if_neg (by decide), varR, if_neg (by simpa using he)] at h
    split at h
    · rename_i e hv
      injection h with _ h2
      have := varGo_err hv
      rw [← h2] at he'
      simp only at he'
      omega
    · rename_i m k hv
      injection h with h1 h2
      subst h1
      have h3 := (varGo_one _ _ _ _ hv).1
      have h4 := rest_add s k s.err
      rw [← h2, h4]
      show rest s = varL m ++ _
      have h3' : (rest s).take k = varL m := h3
      rw [← h3', List.take_append_drop]
  · rw [getR, if_pos rfl, numR, if_neg (by simpa using he), if_neg (by omega)] at h
    split at h
    · injection h with _ h2
      rw [← h2] at he'
      cases he'
    · rename_i hsh
      injection h with h1 h2
      have h4 := rest_add s size s.err
      rw [← h2]
      show rest s = _ ++ rest { s with at_ := s.at_ + ((size : Nat) : Int).toNat, err := s.err }
      rw [show ((size : Nat) : Int).toNat = size from rfl, h4]
      have hp : putL true n size = numL n size := by
        unfold putL numLI
        rw [if_pos rfl, if_pos (by omega)]
        rfl
      have hl : ((rest s).take size).length = size := by
        unfold rest
        rw [List.length_take, List.length_drop]; omega
      have h5 := numL_beN ((rest s).take size)
      rw [hl] at h5
      have h6 : beN ((rest s).take size) = n := h1
      rw [h6] at h5
      rw [hp, h5, List.take_append_drop]
theorem take_laid {s : RS} {t more : List UInt8} (he : s.err = 0) (hat : s.at_ ≤ s.b.length) (hr : rest s = t ++ more) : ∃ s', takeR s (t.length : Int) = (t, s') ∧ rest s' = more ∧ s'.err = 0 := by
  have hl : s.b.length - s.at_ = t.length + more.length := by
    have := congrArg List.length hr
    unfold rest at this
    rw [List.length_drop, List.length_append] at this
    exact this
  refine ⟨{ s with at_ := s.at_ + t.length }, ?_, ?_, he⟩
  · rw [takeR, if_neg (by simpa using he), if_neg (by omega), if_neg (by omega)]
    have : s.b.drop s.at_ = t ++ more := hr
    rw [this, show ((t.length : Nat) : Int).toNat = t.length from rfl, List.take_left]
  · have h2 := rest_add s t.length s.err
    rw [hr, List.drop_left] at h2
    exact h2
theorem take_one {s s' : RS} {n : Nat} {t : List UInt8} (he : s.err = 0) (h : takeR s (n : Int) = (t, s')) (he' : s'.err = 0) : rest s = t ++ rest s' ∧ t.length = n := by
  rw [takeR, if_neg (by simpa using he), if_neg (by omega)] at h
  split at h
  · injection h with _ h2
    rw [← h2] at he'
    cases he'
  · rename_i hsh
    injection h with h1 h2
    have h4 := rest_add s n s.err
    rw [← h2]
    show rest s = t ++ rest { s with at_ := s.at_ + ((n : Nat) : Int).toNat, err := s.err } ∧ _
    rw [show ((n : Nat) : Int).toNat = n from rfl, h4]
    have h5 : (rest s).take n = t := h1
    refine ⟨by rw [← h5, List.take_append_drop], ?_⟩
    rw [← h5]
    unfold rest
    rw [List.length_take, List.length_drop]; omega
/-- A reader that may read. -/
def Ok (s : RS) : Prop := s.err = 0 ∧ s.at_ ≤ s.b.length
theorem get_laid' {f : Bool} {s : RS} {n : Nat} (size : Nat) {more : List UInt8} (h : Ok s) (hn : U64 n) (hs1 : 1 ≤ size) (hs8 : size ≤ 8) (hlt : f = true → n < 256 ^ size) (hr : rest s = putL f n size ++ more) :
    ∃ s', getR f s size = (n, s') ∧ rest s' = more ∧ Ok s' := by
  obtain ⟨s', e, h1, h2⟩ := get_laid h.1 hn hs1 hs8 hlt hr
  have h3 := getR_at f s size h.2
  have h4 := (getR_b f s size).1
  rw [e] at h3 h4
  exact ⟨s', e, h1, h2, by rw [h4]; exact h3⟩
theorem take_laid' {s : RS} {t more : List UInt8} (h : Ok s) (hr : rest s = t ++ more) : ∃ s', takeR s (t.length : Int) = (t, s') ∧ rest s' = more ∧ Ok s' := by
  obtain ⟨s', e, h1, h2⟩ := take_laid h.1 h.2 hr
  have h3 := takeR_at s t.length h.2
  have h4 := (takeR_b s t.length).1
  rw [e] at h3 h4
  exact ⟨s', e, h1, h2, by rw [h4]; exact h3⟩
theorem getR_okk {f : Bool} {s s' : RS} {z : Int} {n : Nat} (h : s.at_ ≤ s.b.length) (e : getR f s z = (n, s')) : s'.at_ ≤ s'.b.length := by
  have h3 := getR_at f s z h
  have h4 := (getR_b f s z).1
  rw [e] at h3 h4
  rw [h4]; exact h3
theorem takeR_okk {s s' : RS} {z : Int} {t : List UInt8} (h : s.at_ ≤ s.b.length) (e : takeR s z = (t, s')) : s'.at_ ≤ s'.b.length := by
  have h3 := takeR_at s z h
  have h4 := (takeR_b s z).1
  rw [e] at h3 h4
  rw [h4]; exact h3

theorem ev_laid {f : Bool} {s : RS} {e : Ev} {more : List UInt8} (h : Ok s) (hm : e.may = true) (hr : rest s = evL f e ++ more) : ∃ s', evR f s = (0, e, s') ∧ rest s' = more ∧ Ok s' := by
  obtain ⟨h0, h1, h2, h3, h4, h5, h6, h7⟩ := may_bounds hm
  obtain ⟨k, t, x, y, b⟩ := e
  simp only at h0 h1 h2 h3 h4 h5 h6 h7
  obtain ⟨K, rfl⟩ : ∃ K : Nat, k = (K : Int) := ⟨k.toNat, by omega⟩
  obtain ⟨X, rfl⟩ : ∃ X : Nat, x = (X : Int) := ⟨x.toNat, by omega⟩
  obtain ⟨Y, rfl⟩ : ∃ Y : Nat, y = (Y : Int) := ⟨y.toNat, by omega⟩
  obtain ⟨Z, rfl⟩ : ∃ Z : Nat, b = (Z : Int) := ⟨b.toNat, by omega⟩
  have hp := of_decide_eq_true (show mayB (K : Int) (X : Int) (Y : Int) (Z : Int) t.length = true from hm)
  unfold mayP at hp
  unfold evL at hr
  simp only [Int.toNat_natCast] at hr
  rw [List.append_assoc] at hr
  obtain ⟨s1, e1, r1, k1⟩ := get_laid' 1 h (u64_small (by omega)) (by decide) (by decide) (fun _ => by omega) hr
  have e1' : getR f s 1 = (K, s1) := e1
  by_cases h12 : (K : Int) = 1 ∨ (K : Int) = 2
  · rw [if_pos h12, List.append_assoc] at r1
    obtain ⟨s2, e2, r2, k2⟩ := get_laid' 1 k1 (u64_small (by omega)) (by decide) (by decide) (fun _ => by omega) r1
    have e2' : getR f s1 1 = (t.length, s2) := e2
    obtain ⟨s3, e3, r3, k3⟩ := take_laid' k2 r2
    have hX : X = 0 ∧ Y = 0 ∧ Z = 0 := by omega
    obtain ⟨rfl, rfl, rfl⟩ := hX
    refine ⟨s3, ?_, r3, k3⟩
    have hmo : ¬ mostN K < t.length := by unfold mostN; split <;> omega
    rw [evR, e1', if_neg (by simpa using k1.1), if_neg (by simp only; omega), if_pos (by simp only; omega)]
    simp only [e2', e3]
    rw [if_neg (by simpa using k2.1), if_neg hmo, if_neg (by simpa using k3.1), if_neg (by have := hm; rw [show (((0 : Nat) : Int)) = 0 from rfl] at this; rw [this]; decide)]
    rfl
  · rw [if_neg h12, List.append_assoc, List.append_assoc] at r1
    have ht : t = [] := by
      apply List.eq_nil_of_length_eq_zero
      omega
    subst ht
    obtain ⟨s2, e2, r2, k2⟩ := get_laid' 1 k1 (u64_small (by omega)) (by decide) (by decide) (fun _ => by omega) r1
    have e2' : getR f s1 1 = (X, s2) := e2
    obtain ⟨s3, e3, r3, k3⟩ := get_laid' 1 k2 (u64_small (by omega)) (by decide) (by decide) (fun _ => by omega) r2
    have e3' : getR f s2 1 = (Y, s3) := e3
    by_cases hk3 : K = 3
    · subst hk3
      rw [if_pos (show ((3 : Nat) : Int) = 3 from rfl)] at r3
      obtain ⟨s4, e4, r4, k4⟩ := get_laid' 1 k3 (u64_small (by omega)) (by decide) (by decide) (fun _ => by omega) r3
      have e4' : getR f s3 1 = (Z, s4) := e4
      refine ⟨s4, ?_, r4, k4⟩
      rw [evR, e1', if_neg (by simpa using k1.1), if_neg (by simp only; omega), if_neg (by simp only; omega)]
      simp only [e2', e3', e4', if_true]
      rw [if_neg (by simpa using k4.1), if_neg (by omega), if_neg (by rw [hm]; decide)]
    · rw [if_neg (by omega), List.nil_append] at r3
      have hz : Z = 0 := by omega
      subst hz
      refine ⟨s3, ?_, r3, k3⟩
      rw [evR, e1', if_neg (by simpa using k1.1), if_neg (by simp only; omega), if_neg (by simp only; omega)]
      simp only [e2', e3', if_neg hk3]
      rw [if_neg (by simpa using k3.1), if_neg (by omega), if_neg (by rw [hm]; decide)]
theorem ev_one {f : Bool} {s s' : RS} {e : Ev} (h : Ok s) (hE : evR f s = (0, e, s')) : rest s = evL f e ++ rest s' ∧ e.may = true ∧ Ok s' := by
  obtain ⟨K, s1, e1⟩ : ∃ K s1, getR f s 1 = (K, s1) := ⟨_, _, rfl⟩
  have q1 := getR_okk h.2 e1
  rw [evR, e1] at hE
  simp only at hE
  by_cases h1 : s1.err ≠ 0
  · rw [if_pos h1] at hE
    injection hE with a _
    exact absurd a h1
  rw [if_neg h1] at hE
  have h1' : s1.err = 0 := Decidable.of_not_not h1
  by_cases hk : K < 1 ∨ 4 < K
  · rw [if_pos hk] at hE
    injection hE with a _
    cases a
  rw [if_neg hk] at hE
  have g1 := get_one (size := 1) h.1 (by decide) (by decide) e1 h1'
  by_cases h3 : K < 3
  · rw [if_pos h3] at hE
    obtain ⟨n, s2, e2⟩ : ∃ n s2, getR f s1 1 = (n, s2) := ⟨_, _, rfl⟩
    have q2 := getR_okk q1 e2
    rw [e2] at hE
    simp only at hE
    by_cases h2 : s2.err ≠ 0
    · rw [if_pos h2] at hE
      injection hE with a _
      exact absurd a h2
    rw [if_neg h2] at hE
    have h2' : s2.err = 0 := Decidable.of_not_not h2
    have g2 := get_one (size := 1) h1' (by decide) (by decide) e2 h2'
    split at hE
    · injection hE with a _; cases a
    obtain ⟨t, s3, e3⟩ : ∃ t s3, takeR s2 (n : Int) = (t, s3) := ⟨_, _, rfl⟩
    have q3 := takeR_okk q2 e3
    rw [e3] at hE
    simp only at hE
    by_cases h4 : s3.err ≠ 0
    · rw [if_pos h4] at hE
      injection hE with a _
      exact absurd a h4
    rw [if_neg h4] at hE
    have h4' : s3.err = 0 := Decidable.of_not_not h4
    obtain ⟨g3, gl⟩ := take_one h2' e3 h4'
    split at hE
    · injection hE with a _; cases a
    · rename_i hm
      injection hE with _ hE
      injection hE with a b
      subst a b
      refine ⟨?_, by simpa using hm, h4', q3⟩
      unfold evL
      simp only [Int.toNat_natCast]
      rw [if_pos (by omega), gl, g1, g2, g3]
      simp only [List.append_assoc]
      rfl
  · rw [if_neg h3] at hE
    obtain ⟨X, s2, e2⟩ : ∃ X s2, getR f s1 1 = (X, s2) := ⟨_, _, rfl⟩
    obtain ⟨Y, s3, e3⟩ : ∃ Y s3, getR f s2 1 = (Y, s3) := ⟨_, _, rfl⟩
    have q2 := getR_okk q1 e2
    have q3 := getR_okk q2 e3
    simp only [e2, e3] at hE
    -- an error stays
    have stay : ∀ {s s' : RS} {n : Nat}, getR f s 1 = (n, s') → s'.err = 0 → s.err = 0 := by
      intro s s' n e hs
      by_cases hh : s.err = 0
      · exact hh
      · rw [getR_err 1 hh] at e
        injection e with _ b
        rw [b] at hh
        exact absurd hs hh
    by_cases hk3 : K = 3
    · subst hk3
      obtain ⟨Z, s4, e4⟩ : ∃ Z s4, getR f s3 1 = (Z, s4) := ⟨_, _, rfl⟩
      have q4 := getR_okk q3 e4
      simp only [if_true, e4] at hE
      by_cases h5 : s4.err ≠ 0
      · rw [if_pos h5] at hE
        injection hE with a _
        exact absurd a h5
      rw [if_neg h5] at hE
      have h5' : s4.err = 0 := Decidable.of_not_not h5
      have h4' := stay e4 h5'
      have h3' := stay e3 h4'
      have g2 := get_one (size := 1) h1' (by decide) (by decide) e2 h3'
      have g3 := get_one (size := 1) h3' (by decide) (by decide) e3 h4'
      have g4 := get_one (size := 1) h4' (by decide) (by decide) e4 h5'
      split at hE
      · injection hE with a _; cases a
      split at hE
      · injection hE with a _; cases a
      · rename_i hm
        injection hE with _ hE
        injection hE with a b
        subst a b
        refine ⟨?_, by simpa using hm, h5', q4⟩
        unfold evL
        simp only [Int.toNat_natCast]
        rw [if_neg (by omega), if_pos (by rfl), g1, g2, g3, g4]
        simp only [List.append_assoc]
        rfl
    · simp only [if_neg hk3] at hE
      by_cases h5 : s3.err ≠ 0
      · rw [if_pos h5] at hE
        injection hE with a _
        exact absurd a h5
      rw [if_neg h5] at hE
      have h4' : s3.err = 0 := Decidable.of_not_not h5
      have h3' := stay e3 h4'
      have g2 := get_one (size := 1) h1' (by decide) (by decide) e2 h3'
      have g3 := get_one (size := 1) h3' (by decide) (by decide) e3 h4'
      split at hE
      · injection hE with a _; cases a
      split at hE
      · injection hE with a _; cases a
      · rename_i hm
        injection hE with _ hE
        injection hE with a b
        subst a b
        refine ⟨?_, by simpa using hm, h4', q3⟩
        unfold evL
        simp only [Int.toNat_natCast]
        rw [if_neg (by omega), if_neg (by omega), g1, g2, g3]
        simp only [List.append_assoc, List.nil_append]
        rfl
theorem evsL_cons (f : Bool) (e : Ev) (es : List Ev) : evsL f (e :: es) = evL f e ++ evsL f es := rfl
theorem go_laid {f : Bool} : ∀ (es : List Ev) (s : RS) (acc : List Ev) (more : List UInt8), Ok s → es.all Ev.may = true → rest s = evsL f es ++ more → ∃ s', goR f es.length s acc = (0, acc ++ es, s') ∧ rest s' = more ∧ Ok s'
  | [], s, acc, more, h, _, hr => ⟨s, by rw [List.append_nil]; rfl, hr, h⟩
  | e :: es, s, acc, more, h, hm, hr => by
    rw [List.all_cons, Bool.and_eq_true] at hm
    rw [evsL_cons, List.append_assoc] at hr
    obtain ⟨s1, e1, r1, k1⟩ := ev_laid h hm.1 hr
    obtain ⟨s2, e2, r2, k2⟩ := go_laid es s1 (acc ++ [e]) more k1 hm.2 r1
    refine ⟨s2, ?_, r2, k2⟩
    rw [List.length_cons, goR, e1, if_neg (by simp), e2, List.append_assoc]
    rfl
theorem go_one {f : Bool} : ∀ (n : Nat) (s s' : RS) (acc l : List Ev), Ok s → goR f n s acc = (0, l, s') → ∃ es, l = acc ++ es ∧ es.length = n ∧ es.all Ev.may = true ∧ rest s = evsL f es ++ rest s' ∧ Ok s'
  | 0, s, s', acc, l, h, hg => by
    rw [goR] at hg
    injection hg with _ hg
    injection hg with a b
    subst a b
    exact ⟨[], by rw [List.append_nil], rfl, rfl, rfl, h⟩
  | n + 1, s, s', acc, l, h, hg => by
    obtain ⟨er, e, s1, eE⟩ : ∃ er e s1, evR f s = (er, e, s1) := ⟨_, _, _, rfl⟩
    rw [goR, eE] at hg
    simp only at hg
    by_cases he : er = 0
    · subst he
      rw [if_neg (by simp)] at hg
      obtain ⟨g1, g2, g3⟩ := ev_one h eE
      obtain ⟨es, a1, a2, a3, a4, a5⟩ := go_one n s1 s' (acc ++ [e]) l g3 hg
      refine ⟨e :: es, by rw [a1, List.append_assoc]; rfl, by rw [List.length_cons, a2], by rw [List.all_cons, g2, a3]; rfl, ?_, a5⟩
      rw [g1, a4, evsL_cons, List.append_assoc]
    · rw [if_pos he] at hg
      injection hg with a _
      exact absurd a he
theorem rest_nil {s : RS} (h : Ok s) : rest s = [] ↔ ¬ s.at_ < s.b.length := by
  unfold rest
  rw [List.drop_eq_nil_iff]
  omega
/-- What is laid is read as it was. -/
theorem back_one {ver : Int} {base : Nat} {es : List Ev} {c : List UInt8} (hu : U64 base) (h : encE ver base es = (c, 0)) : decR ver c none = (base, es, 0) := by
  unfold encE at h
  split at h
  · injection h with _ b; cases b
  rename_i h1
  split at h
  · injection h with _ b; cases b
  rename_i h2
  injection h with h _
  have hv : 1 ≤ ver ∧ ver ≤ 3 := by omega
  have hne : es ≠ [] := fun e => h1 (.inr (.inr (.inl e)))
  have hm : es.all Ev.may = true := by
    cases hh : es.all Ev.may with
    | true => rfl
    | false => exact absurd (.inr (.inr (.inr hh))) h1
  have hl : 1 ≤ es.length := List.length_pos_iff.2 hne
  have k0 : Ok ⟨c, 0, 0, none⟩ := ⟨rfl, Nat.zero_le _⟩
  have r0 : rest ⟨c, 0, 0, none⟩ = putL (decide (ver = 1)) base 8 ++ (putL (decide (ver = 1)) es.length 1 ++ (evsL (decide (ver = 1)) es ++ [])) := by
    show c.drop 0 = _
    rw [List.drop_zero, ← h, encL, List.append_nil, List.append_assoc]
  obtain ⟨s1, e1, r1, k1⟩ := get_laid' 8 k0 hu (by decide) (by decide) (fun _ => by unfold U64 at hu; omega) r0
  obtain ⟨s2, e2, r2, k2⟩ := get_laid' 1 k1 (u64_small (by omega)) (by decide) (by decide) (fun _ => by omega) r1
  obtain ⟨s3, e3, r3, k3⟩ := go_laid es s2 [] [] k2 hm r2
  have e1' : getR (decide (ver = 1)) ⟨c, 0, 0, none⟩ 8 = (base, s1) := e1
  have e2' : getR (decide (ver = 1)) s1 1 = (es.length, s2) := e2
  have hat := (rest_nil k3).1 r3
  rw [decR, if_neg (by omega)]
  simp only [e1', e2', e3]
  rw [if_neg (by simpa using k2.1), if_neg (by omega), if_neg (by simp), if_neg hat]
  rfl
/-- What is read is just what is laid of it. -/
theorem only_one {ver : Int} {bs : List UInt8} {N : Nat} {l : List Ev} (h : decR ver bs none = (N, l, 0)) : encE ver N l = (bs, 0) := by
  unfold decR at h
  by_cases hv : ver < 1 ∨ 3 < ver
  · rw [if_pos hv] at h
    injection h with _ h
    injection h with _ h
    cases h
  rw [if_neg hv] at h
  obtain ⟨B, s1, e1⟩ : ∃ B s1, getR (decide (ver = 1)) ⟨bs, 0, 0, none⟩ 8 = (B, s1) := ⟨_, _, rfl⟩
  obtain ⟨C, s2, e2⟩ : ∃ C s2, getR (decide (ver = 1)) s1 1 = (C, s2) := ⟨_, _, rfl⟩
  obtain ⟨ge, gl, gs, e3⟩ : ∃ ge gl gs, goR (decide (ver = 1)) C s2 [] = (ge, gl, gs) := ⟨_, _, _, rfl⟩
  simp only [e1, e2, e3] at h
  by_cases h2 : s2.err ≠ 0
  · rw [if_pos h2] at h
    injection h with _ h
    injection h with _ h
    exact absurd h h2
  rw [if_neg h2] at h
  by_cases hC : C = 0 ∨ 16 < C
  · rw [if_pos hC] at h
    injection h with _ h
    injection h with _ h
    cases h
  rw [if_neg hC] at h
  by_cases hg : ge ≠ 0
  · rw [if_pos hg] at h
    injection h with _ h
    injection h with _ h
    exact absurd h hg
  rw [if_neg hg] at h
  by_cases hat : gs.at_ < gs.b.length
  · rw [if_pos hat] at h
    injection h with _ h
    injection h with _ h
    cases h
  rw [if_neg hat] at h
  injection h with a h
  injection h with b _
  subst a b
  have h2' : s2.err = 0 := Decidable.of_not_not h2
  have hg' : ge = 0 := Decidable.of_not_not hg
  subst hg'
  have h1' : s1.err = 0 := by
    by_cases hh : s1.err = 0
    · exact hh
    · rw [getR_err 1 hh] at e2
      injection e2 with _ b
      rw [b] at hh
      exact absurd h2' hh
  have k0 : Ok ⟨bs, 0, 0, none⟩ := ⟨rfl, Nat.zero_le _⟩
  have q1 := getR_okk k0.2 e1
  have q2 := getR_okk q1 e2
  have g1 := get_one (size := 8) k0.1 (by decide) (by decide) e1 h1'
  have g2 := get_one (size := 1) h1' (by decide) (by decide) e2 h2'
  obtain ⟨es, a1, a2, a3, a4, a5⟩ := go_one C s2 gs [] gl ⟨h2', q2⟩ e3
  rw [List.nil_append] at a1
  subst a1
  have hr := (rest_nil a5).2 hat
  have hbs : bs = encL (decide (ver = 1)) B gl := by
    have h0 : rest ⟨bs, 0, 0, none⟩ = bs := List.drop_zero
    rw [← h0, g1, g2, a4, hr, List.append_nil, encL, a2, List.append_assoc]
    rfl
  have hne : gl ≠ [] := by intro e; rw [e] at a2; simp at a2; omega
  rw [encE, if_neg (by
    rintro (h | h | h | h)
    · omega
    · omega
    · exact hne h
    · rw [a3] at h; cases h), if_neg (by omega), hbs]
theorem decR_u64 {ver : Int} {bs : List UInt8} {g : Option Addr} {N er : Nat} {l : List Ev} (h : decR ver bs g = (N, l, er)) : U64 N := by
  have h0 : U64 0 := by unfold U64; omega
  have h2 : U64 (decR ver bs g).1 := by
    unfold decR
    split
    · exact h0
    · simp only
      split
      · exact h0
      · split
        · exact h0
        · split
          · exact h0
          · split
            · exact h0
            · exact getR_u64 _ _ _
  rw [h] at h2
  exact h2
end Go.Proofs.Ytgnciejbhaebeaa

/- What keys.numbers.get and the reference's read answer: a number read in a version's way. Conditions: a reader. -/
namespace Go.Proofs.Ytgnciejbhaebeaa
open Go Go.RowKit

set_option maxRecDepth 100000 in
set_option maxHeartbeats 1000000 in
theorem get_c (f : Bool) (r : Nat) (s : RS) (z : Int) (w : World) (h : Rdr w r s) (hz : (Lit.int .i64 z).wf = true) :
    Calls Try.prog 75 #[.agg #[.bool f], .pointer (some ⟨r, 0, none⟩), .int .i64 z] w fun e w' => e = .returned (.int .u64 ((getR f s z).1 : Int)) ∧ Rdr w' r (getR f s z).2 ∧ Keeps (fun j => j = r) w w' := by
  have k0 : Keeps (fun j => j = r) w (w.alloc (.cells #[.bool f] 111)) := (Keeps.refl _ w).alloc _
  have h0 := h.below ((Below.refl _ _).alloc (Nat.le_refl _) (.cells #[.bool f] 111))
  have H0 := Lib.hid h0
  clear h h0
  cases f
  · go_enter Try.func75, Try.ntmps75
    go_wp2_with (fail)
    refine (Rvar_c r s _ H0.out).mono ?_
    rintro e w1 ⟨rfl, hr, hg⟩
    have HR := Lib.hid hr; clear hr
    go_wp2_with (fail)
    go_ret
    exact ⟨rfl, HR.out, k0.trans (Keeps.of_grown hg _ (fun j hj => by injection hj with hj; exact hj.symm))⟩
  · go_enter Try.func75, Try.ntmps75
    go_wp2_with (fail)
    refine (Rnum_c r s z _ H0.out hz).mono ?_
    rintro e w1 ⟨rfl, hr, hg⟩
    have HR := Lib.hid hr; clear hr
    go_wp2_with (fail)
    go_ret
    exact ⟨rfl, HR.out, k0.trans (Keeps.of_grown hg _ (fun j hj => by injection hj with hj; exact hj.symm))⟩
end Go.Proofs.Ytgnciejbhaebeaa

/- Rows of events that the call itself makes: appended, made, stored into. Conditions: lengths that fit. -/
namespace Go.Proofs.Ytgnciejbhaebeaa
open Go Go.RowKit

theorem run_appN {P : Program} (w : World) (base : Nat) (t ty e : TypeId) (i : TypeInfo) (z : Value) (size bytes : Nat) (ht : P.underlying t = some (.slice e)) (hi : P.info? e = some i) (hz : i.zero = some z)
    (hsize : i.size = size) (hby : i.bytes = bytes) (hzs : z.cells.size = size) (hsz : 0 < size)
    (v : Value) (n : Nat) (xs : List Value) (hown : w.ownsRow base e size v n xs) (A : Option Addr) (m c : Nat) (news : List Value) (hm : news.length = m * size) (hr : Rd w A news) (h1 : ∀ u ∈ news, u.oneCell' = true)
    (hlen : n + m ≤ maxLen) (hbytes : (n + m) * bytes ≤ 140737488355328) (hbase : base ≤ w.heap.size) :
    ∃ v' w', (Builtin.append_ #[t, t] ty #[v, .slice A m c]).run P w = .ok v' w' ∧ w'.ownsRow base e size v' (n + m) (xs ++ news) ∧ w.grownBy w' v.ownBlock ∧
      (v'.ownBlock = v.ownBlock ∨ v'.ownBlock = some w.heap.size) := by
  rcases A with _ | ad
  · have hn : news = [] := by
      rcases hr with h | ⟨_, _, h, _⟩
      · exact h
      · cases h
    subst hn
    have hm0 : m = 0 := by
      rcases Nat.eq_zero_or_pos m with h | h
      · exact h
      · have := Nat.mul_pos h hsz
        simp at hm; omega
    subst hm0
    exact ⟨v, w, run_append_of_nil w base t ty e i size ht hi v n xs hown c, by simpa using hown, World.grownBy.refl w _, .inl rfl⟩
  · obtain ⟨v', w', hrun, h2, h3, _, h5⟩ := run_append_own_at (P := P) w base t ty e i z size bytes ht hi hz hsize hby hzs hsz v n xs hown ad m c news hm (hr.cellsAt ad rfl) h1 hlen hbytes hbase
    exact ⟨v', w', hrun, h2, h3, h5⟩

theorem info_ev : (Try.prog.info? 36).map (fun i => (i.zero, i.size, i.bytes)) = some (some (.agg #[.int .i64 0, .slice none 0 0, .int .i64 0, .int .i64 0, .int .i64 0]), 5, 56) := by kernel_rfl

/-- 'append(v, xs...)' on events. -/
theorem wpList_appV (w : World) {ops : Array Oper} {rest : List Oper} {o : Oper} {a : Act} {Q : Exit → Act → World → Prop} (hgd : o.guard = none) (s x : Operand)
    (ho : o.op = .call { callee := .builtin .append, args := #[s, x], argTypes := #[23, 23] })
    (B : Nat) (v : Value) (ds : List EvV) (hs : a.eval s = v) (hown : OwnV w B v ds)
    (A : Option Addr) (m c : Nat) (ns : List EvV) (hx : a.eval x = .slice A m c) (hm : ns.length = m) (hr : Rd w A (cellsV ns))
    (hlen : ds.length + m ≤ 2513169434916) (hB : B ≤ w.heap.size)
    (h : ∀ v' w', OwnV w' B v' (ds ++ ns) → w.grownBy w' v.ownBlock → (v'.ownBlock = v.ownBlock ∨ v'.ownBlock = some w.heap.size) → wpList Try.prog ops Q rest (a.put o.dst v') w') : wpList Try.prog ops Q (o :: rest) a w := by
  obtain ⟨i0, hi, hz0, hz1, hz2⟩ := info_parts info_ev
  refine wpList_plain hgd fun K hK => ?_
  obtain ⟨v', w', hrun, h2, h3, h4⟩ := run_appN (P := Try.prog) w B 23 o.type 36 i0 _ 5 56 Try.underlying23 hi hz0 hz1 hz2 rfl (by decide) v ds.length (cellsV ds) hown A m c (cellsV ns) (by rw [cellsV_length, hm]) hr (cellsV_one _) (by unfold maxLen; omega) (by omega) hB
  unfold Oper.wp execOp
  simp only [ho, resolve, invoke, builtin, Sem.run_bind, Sem.run_pure, Result.andThen_ok, List.map_toArray, List.map_cons, List.map_nil, hs, hx, hrun]
  refine hK _ _ (h v' w' ?_ h3 h4)
  unfold OwnV
  rw [cellsV_append, List.length_append, hm]
  exact h2
def EvV.zero : EvV := ⟨0, none, 0, 0, 0, 0, 0⟩
theorem cellsV_zeros : ∀ n, (madeCells #[Value.int .i64 0, .slice none 0 0, .int .i64 0, .int .i64 0, .int .i64 0] (n * 5)).toList = cellsV (List.replicate n EvV.zero) := by
  intro n
  apply List.ext_getElem?
  intro j
  rcases Nat.lt_or_ge j (n * 5) with hj | hj
  · have hi : j / 5 < (List.replicate n EvV.zero).length := by rw [List.length_replicate]; omega
    have h := cellsV_get (List.replicate n EvV.zero) (j / 5) hi (j % 5) (Nat.mod_lt _ (by decide))
    rw [show j / 5 * 5 + j % 5 = j by omega] at h
    rw [h]
    have e : (madeCells #[Value.int .i64 0, .slice none 0 0, .int .i64 0, .int .i64 0, .int .i64 0] (n * 5)).toList[j]? = some (#[Value.int .i64 0, .slice none 0 0, .int .i64 0, .int .i64 0, .int .i64 0][j % 5]!) := by
      simp only [madeCells, Array.getElem?_toList, Array.getElem?_map]
      rw [Array.getElem?_eq_getElem (by simpa using hj)]
      simp
    rw [e, List.getElem_replicate]
    have h5 : j % 5 < 5 := Nat.mod_lt _ (by decide)
    generalize j % 5 = q at h5
    match q, h5 with
    | 0, _ => rfl
    | 1, _ => rfl
    | 2, _ => rfl
    | 3, _ => rfl
    | 4, _ => rfl
  · rw [List.getElem?_eq_none (by simp [madeCells]; omega), List.getElem?_eq_none (by rw [cellsV_length, List.length_replicate]; omega)]
/-- 'make([]Event, n)'. -/
theorem wpList_makeV (w : World) {ops : Array Oper} {rest : List Oper} {o : Oper} {a : Act} {Q : Exit → Act → World → Prop} (hgd : o.guard = none) (l c : Operand) (ho : o.op = Op.makeSlice 23 l c)
    (kl kc : IntKind) (L C : Int) (n : Nat) (hl : a.eval l = .int kl L) (hc : a.eval c = .int kc C) (hL : L = (n : Int)) (hC : C = (n : Int)) (hn : n ≤ 2513169434916)
    (h : ∀ w', OwnV w' w.heap.size (.slice (some ⟨w.heap.size, 0, none⟩) n n) (List.replicate n EvV.zero) → Below w.heap.size w w' → w.grownBy w' none → wpList Try.prog ops Q rest (a.put o.dst (.slice (some ⟨w.heap.size, 0, none⟩) n n)) w') :
    wpList Try.prog ops Q (o :: rest) a w := by
  obtain ⟨i0, hi, hz0, hz1, hz2⟩ := info_parts info_ev
  refine wpList_make_full w hgd l c 23 ho w.heap.size 36 i0 _ 5 Try.underlying23 hi hz0 hz1 kl kc L C n hl hc hL hC (by rw [hz2]; omega) (by unfold maxLen; omega) (Nat.le_refl _) ?_
  intro w' h1 h2
  refine h w' ?_ ((Below.refl _ _).grown h2 (Nat.le_refl _) (fun k hk => by cases hk)) h2
  unfold OwnV
  rw [List.length_replicate, ← cellsV_zeros]
  exact h1

section
variable {w : World} {B g n c : Nat} {ds : List EvV}
theorem OwnV.len (h : OwnV w B (.slice (some ⟨g, 0, none⟩) n c) ds) : n = ds.length ∧ ds.length ≤ c ∧ c ≤ maxLen ∧ B ≤ g ∧ g < w.heap.size := by
  rcases h.2 with ⟨h, _⟩ | ⟨g', cap, cur, hv, hb, hg, hn, hm, _⟩
  · cases h
  · injection hv with h1 h2 h3
    injection h1 with h1
    injection h1 with h1
    subst h1
    exact ⟨h2, by omega, by omega, hb, (Array.getElem?_eq_some_iff.1 hg).1⟩
theorem OwnV.to_n (h : OwnV w B (.slice (some ⟨g, 0, none⟩) n c) ds) : w.ownsRow B 36 5 (.slice (some ⟨g, 0, none⟩) n c) n (cellsV ds) := by
  have := h.len.1; subst this; exact h
theorem OwnV.five (h : OwnV w B (.slice (some ⟨g, 0, none⟩) n c) ds) (i : Nat) (hi : i < ds.length) :
    w.cell? ⟨g, i * 5, none⟩ = some (.int .i64 ds[i].k) ∧ w.cell? ⟨g, i * 5 + 1, none⟩ = some (.slice ds[i].A ds[i].n ds[i].c) ∧ w.cell? ⟨g, i * 5 + 2, none⟩ = some (.int .i64 ds[i].x) ∧
    w.cell? ⟨g, i * 5 + 3, none⟩ = some (.int .i64 ds[i].y) ∧ w.cell? ⟨g, i * 5 + 4, none⟩ = some (.int .i64 ds[i].b) := by
  have hl := h.len.1
  have get : ∀ j, j < 5 → w.cell? ⟨g, i * 5 + j, none⟩ = (ds[i].cells)[j]? := by
    intro j hj
    rw [h.to_n.cellAt (i * 5 + j) (by omega), cellsV_get ds i hi j hj]
  exact ⟨get 0 (by decide), get 1 (by decide), get 2 (by decide), get 3 (by decide), get 4 (by decide)⟩
theorem OwnV.free (h : OwnV w B (.slice (some ⟨g, 0, none⟩) n c) ds) (j : Nat) : w.frozen? ⟨g, j, none⟩ = false := h.to_n.frozenAt j
theorem OwnV.setT (h : OwnV w B (.slice (some ⟨g, 0, none⟩) n c) ds) (i : Nat) (hi : i < ds.length) (A' : Option Addr) (n' c' : Nat) :
    OwnV (w.setCell ⟨g, i * 5 + 1, none⟩ (.slice A' n' c')) B (.slice (some ⟨g, 0, none⟩) n c) (ds.set i (ds[i].txt A' n' c')) := by
  have h2 := (h.to_n.stored (i * 5 + 1) (.slice A' n' c')).1
  have hl := h.len.1
  rw [cellsV_txt ds i hi] at h2
  unfold OwnV
  rw [List.length_set, ← hl]
  exact h2
theorem OwnV.setX (h : OwnV w B (.slice (some ⟨g, 0, none⟩) n c) ds) (i : Nat) (hi : i < ds.length) (x : Int) :
    OwnV (w.setCell ⟨g, i * 5 + 2, none⟩ (.int .i64 x)) B (.slice (some ⟨g, 0, none⟩) n c) (ds.set i (ds[i].x' x)) := by
  have h2 := (h.to_n.stored (i * 5 + 2) (.int .i64 x)).1
  have hl := h.len.1
  rw [cellsV_x ds i hi] at h2
  unfold OwnV
  rw [List.length_set, ← hl]
  exact h2
theorem OwnV.setAll (h : OwnV w B (.slice (some ⟨g, 0, none⟩) n c) ds) (i : Nat) (hi : i < ds.length) (d : EvV) :
    OwnV (((((w.setCell ⟨g, i * 5, none⟩ (.int .i64 d.k)).setCell ⟨g, i * 5 + 1, none⟩ (.slice d.A d.n d.c)).setCell ⟨g, i * 5 + 2, none⟩ (.int .i64 d.x)).setCell ⟨g, i * 5 + 3, none⟩ (.int .i64 d.y)).setCell ⟨g, i * 5 + 4, none⟩ (.int .i64 d.b)) B
      (.slice (some ⟨g, 0, none⟩) n c) (ds.set i d) := by
  have hl := h.len.1
  have h2 := (((((h.to_n.stored (i * 5) (.int .i64 d.k)).1.stored (i * 5 + 1) (.slice d.A d.n d.c)).1.stored (i * 5 + 2) (.int .i64 d.x)).1.stored (i * 5 + 3) (.int .i64 d.y)).1.stored (i * 5 + 4) (.int .i64 d.b)).1
  rw [cellsV_all ds i hi d] at h2
  unfold OwnV
  rw [List.length_set, ← hl]
  exact h2
theorem OwnV.low {B' : Nat} {v : Value} (h : OwnV w B v ds) (hB : B' ≤ B) : OwnV w B' v ds := ⟨h.1, h.2.imp id (fun ⟨g, cap, cur, hv, hb, r⟩ => ⟨g, cap, cur, hv, Nat.le_trans hB hb, r⟩)⟩
theorem OwnV.below {w' : World} {v : Value} (h : OwnV w B v ds) (hb : Below w.heap.size w w') : OwnV w' B v ds := Own.frameK h (fun g e => hb.block g (World.ownsRow.lt h g e).2)
theorem OwnV.drewN {v : Value} (h : OwnV w B v ds) (q : Nat) : OwnV (w.drewN q) B v ds := h
end
end Go.Proofs.Ytgnciejbhaebeaa

/- What slices.Clone, keys.clone and the reference's Copy answer of events: the same events in memory of one's own. Conditions: events that can be read; lengths that fit. -/
namespace Go.Proofs.Ytgnciejbhaebeaa
open Go Go.RowKit

set_option maxRecDepth 100000 in
set_option maxHeartbeats 1000000 in
/-- slices.Clone: the same cells in a row of its own. -/
theorem CloneV_c (ok : Nat → Prop) (A : Option Addr) (n c : Nat) (ds : List EvV) (es : List Ev) (w : World) (hn : es.length = n) (hr : EvsR ok w A ds es) (hl : n ≤ 2513169434916) :
    Calls Try.prog 64 #[.slice A n c] w fun r w' => ∃ v, r = .returned v ∧ OwnV w' w.heap.size v ds ∧ Below w.heap.size w w' := by
  have hdn : ds.length = n := hr.len.trans hn
  have HD := Lib.hid hdn; clear hdn
  have HR := Lib.hid hr.row; clear hr hn
  cases A with
  | none =>
    have h0 : ds = [] := by
      rcases HR.out with h | ⟨_, _, h, _⟩
      · have := congrArg List.length h
        rw [cellsV_length] at this
        simp only [List.length_nil] at this
        exact List.eq_nil_of_length_eq_zero (by omega)
      · cases h
    subst h0
    have he : ∀ w : World, (binOp .eql 23 (.slice none n c) (.slice none 0 0)).run Try.prog w = .ok (.bool true) w := fun _ => rfl
    go_enter Try.func64, Try.ntmps64
    go_wp2_with (fail)
    go_ret
    exact ⟨_, rfl, World.ownsRow_nil _ _ _ _, Below.refl _ _⟩
  | some a =>
    have o1 : OwnV (w.alloc (.cells #[] 36)) w.heap.size (.slice (some ⟨w.heap.size, 0, none⟩) 0 0) [] := World.ownsRow_made w #[] 0 (Nat.le_refl _) (Nat.zero_le _) rfl
    have k1 : Below w.heap.size w (w.alloc (.cells #[] 36)) := (Below.refl _ _).alloc (Nat.le_refl _) _
    have O1 := Lib.hid o1; clear o1
    have he : ∀ w : World, (binOp .eql 23 (.slice (some a) n c) (.slice none 0 0)).run Try.prog w = .ok (.bool false) w := fun _ => rfl
    go_enter Try.func64, Try.ntmps64
    go_wp2_with (first | (at_builtin; refine wpList_appV _ rfl (.tmp 5) (.tmp 6) rfl w.heap.size _ [] rfl O1.out (some a) n c ds rfl HD.out (HR.out.below k1) (by simpa using hl) k1.size ?_; intro v2 w2 h2 h3 _; have H2 := Lib.hid h2; clear h2; have k2 := k1.grown h3 k1.size (fun k e => (World.ownsRow.lt O1.out k e).1); clear h3))
    go_ret
    exact ⟨_, rfl, by have := H2.out; simpa using this, k2⟩

/-- k of them have texts of their own. -/
def Cl (w : World) (B g n c : Nat) (ds : List EvV) (es : List Ev) (k : Nat) : Prop :=
  ∃ ds' : List EvV, ds'.length = n ∧ OwnV w B (.slice (some ⟨g, 0, none⟩) n c) ds' ∧ (∀ i (h1 : i < ds'.length) (h2 : i < es.length), i < k → EvO (g < ·) w ds'[i] es[i]) ∧ ∀ i (h1 : i < ds'.length) (h2 : i < ds.length), k ≤ i → ds'[i] = ds[i]
theorem Cl.below {w w' : World} {B g n c k : Nat} {ds : List EvV} {es : List Ev} (h : Cl w B g n c ds es k) (hb : Below w.heap.size w w') : Cl w' B g n c ds es k := by
  obtain ⟨ds', h1, h2, h3, h4⟩ := h
  exact ⟨ds', h1, h2.below hb, fun i g1 g2 g3 => (h3 i g1 g2 g3).frame (fun q _ hq => hb.block q hq), h4⟩
theorem Cl.put {w : World} {B g n c k : Nat} {ds : List EvV} {es : List Ev} (h : Cl w B g n c ds es k) (hds : ds.length = n) (hes : es.length = n) (hk : k < n) (A' : Option Addr) (n' c' : Nat)
    (ht : ∀ (h1 : k < ds.length) (h2 : k < es.length), EvO (g < ·) w (ds[k].txt A' n' c') es[k]) : Cl (w.setCell ⟨g, k * 5 + 1, none⟩ (.slice A' n' c')) B g n c ds es (k + 1) := by
  obtain ⟨ds', h1, h2, h3, h4⟩ := h
  have far : ∀ {d : EvV} {e : Ev}, EvO (g < ·) w d e → EvO (g < ·) (w.setCell ⟨g, k * 5 + 1, none⟩ (.slice A' n' c')) d e := fun h => h.frame (fun q hq _ => heap_far _ (by show q ≠ g; omega))
  have e := h4 k (by omega) (by omega) (Nat.le_refl _)
  refine ⟨_, by rw [List.length_set]; exact h1, h2.setT k (by omega) A' n' c', fun i g1 g2 g3 => ?_, fun i g1 g2 g3 => ?_⟩
  · rw [List.getElem_set]
    split
    · rename_i hki
      subst hki
      rw [e]
      exact far (ht _ _)
    · exact far (h3 i _ _ (by omega))
  · rw [List.getElem_set, if_neg (by omega)]
    exact h4 i _ _ (by omega)
theorem Cl.cell {w : World} {B g n c k : Nat} {ds : List EvV} {es : List Ev} (h : Cl w B g n c ds es k) (j : Nat) (hj : j < n) :
    ∃ u0 u1 u2 u3 u4, w.cell? ⟨g, j * 5, none⟩ = some u0 ∧ w.cell? ⟨g, j * 5 + 1, none⟩ = some u1 ∧ w.cell? ⟨g, j * 5 + 2, none⟩ = some u2 ∧ w.cell? ⟨g, j * 5 + 3, none⟩ = some u3 ∧ w.cell? ⟨g, j * 5 + 4, none⟩ = some u4 := by
  obtain ⟨ds', h1, h2, _⟩ := h
  obtain ⟨a0, a1, a2, a3, a4⟩ := h2.five j (by omega)
  exact ⟨_, _, _, _, _, a0, a1, a2, a3, a4⟩
theorem Cl.free {w : World} {B g n c k : Nat} {ds : List EvV} {es : List Ev} (h : Cl w B g n c ds es k) (j : Nat) : w.frozen? ⟨g, j, none⟩ = false := by
  obtain ⟨ds', _, h2, _⟩ := h
  exact h2.free j
theorem Cl.out {w : World} {B g n c : Nat} {ds : List EvV} {es : List Ev} (h : Cl w B g n c ds es n) (hes : es.length = n) : ∃ ds', EvsO (B ≤ ·) w (.slice (some ⟨g, 0, none⟩) n c) ds' es := by
  obtain ⟨ds', h1, h2, h3, h4⟩ := h
  have hg := h2.len.2.2.2.1
  refine ⟨ds', by omega, h2.low (Nat.zero_le _), fun k e => ?_, fun i g1 g2 => (h3 i g1 g2 (by omega)).weak (fun q hq _ => by have : g < q := hq; show B ≤ q; omega)⟩
  injection e with e
  subst e
  exact hg

set_option maxRecDepth 100000 in
set_option maxHeartbeats 2000000 in
theorem clone_c (ok : Nat → Prop) (A : Option Addr) (n c : Nat) (ds : List EvV) (es : List Ev) (w : World) (hn : es.length = n) (hr : EvsR ok w A ds es) (hl : n ≤ 2513169434916) :
    Calls Try.prog 63 #[.slice A n c] w fun r w' => ∃ v ds', r = .returned v ∧ EvsO (w.heap.size ≤ ·) w' v ds' es ∧ Below w.heap.size w w' := by
  have hdn : ds.length = n := hr.len.trans hn
  have HD := Lib.hid hdn; clear hdn
  have HN := Lib.hid hn
  go_enter Try.func63, Try.ntmps63
  go_wp2_with (fail)
  refine (CloneV_c ok A n c ds es w hn hr hl).mono ?_
  rintro e w1 ⟨v, rfl, ho1, hb1⟩
  obtain ⟨A1, c1, rfl, p1, p2, p3, p4, p5⟩ := OwnV.form ho1
  rw [HD.out] at p1 ho1 ⊢
  have HO1 := Lib.hid ho1; clear ho1
  rcases Nat.eq_zero_or_pos n with h0 | h0
  · subst h0
    have he : es = [] := List.eq_nil_of_length_eq_zero HN.out
    have hde : ds = [] := List.eq_nil_of_length_eq_zero HD.out
    subst he hde
    clear p3 p4 p5 hn hr
    go_wp2_with (fail)
    go_loopw [9] (fun i wr => i = .int .i64 (0 : Nat) ∧ wr = w1) (fun _ _ => 0)
    case atStart => exact ⟨rfl, rfl⟩
    case round =>
      obtain ⟨rfl, rfl⟩ := hrel
      go_wp2_with (fail)
      go_ret
      have h1 := HO1.out
      exact ⟨_, [], rfl, ⟨rfl, OwnV.low h1 (Nat.zero_le _), fun k e => (World.ownsRow.lt h1 k e).1, fun i h1 => absurd h1 (by simp)⟩, hb1⟩
  · obtain ⟨b, off, rfl, _⟩ := p3.addr (by rw [cellsV_length, HD.out]; omega)
    obtain ⟨q1, q2, q3, q4⟩ := p4 _ rfl
    simp only at q3 q4
    subst q3
    have hcl : Cl w1 w.heap.size b n c1 ds es 0 := ⟨ds, HD.out, HO1.out, fun i _ _ h => absurd h (by omega), fun i _ _ _ => rfl⟩
    have HC := Lib.hid hcl; clear hcl HO1
    clear p3 p4 p5 hn
    have hl2 := q2
    go_wp2_with (fail)
    go_loopw [9] (fun i wr => ∃ k : Nat, k ≤ n ∧ i = .int .i64 k ∧ Hid (Cl wr w.heap.size b n c1 ds es k) ∧ Below w.heap.size w wr ∧ b < wr.heap.size) (fun i _ => n - (intOf i).toNat)
    case atStart => exact ⟨0, Nat.zero_le _, rfl, HC, hb1, q2⟩
    case round =>
      clear HC hb1
      obtain ⟨k, hk, rfl, HC, kb, hbw⟩ := hrel
      rcases Nat.lt_or_ge k n with hlt | hge
      · obtain ⟨e, b1, o1, At, m, cm, ee, rfl, hb1, -, tt, c0, ca, cb, cc, cd⟩ := hr.at_ k (by rw [HN.out]; exact hlt)
        obtain ⟨t1, t2, t3, t4, -, t5⟩ := tt
        have ca' := ca
        rw [← kb.cell (p := ⟨b1, _, none⟩) hb1] at ca'
        have T1 := Lib.hid t1; clear t1
        have EE := Lib.hid ee; clear ee
        clear c0 ca cb cc cd
        have hlt' : (k : Int) < (n : Int) := by omega
        go_wp2_with (first | (at_builtin; refine wpList_cloneB _ rfl (.tmp 18) rfl At m cm e.t rfl T1.out (t2.below kb) (by omega) ?_; intro A2 c2 w2 g1 g2 g3 g4 g5 g6; have G1 := Lib.hid g1; clear g1 g5; have HC2 := Lib.hid (HC.out.below g2); have k2 := kb.trans (g2.mono kb.size); obtain ⟨u0, u1, u2, u3, u4, -, f1, -⟩ := HC2.out.cell k hlt; have fr := HC2.out.free (k * 5 + 1); have gs := g2.size))
        have ho : EvO (b < ·) w2 (ds[k]'(by rw [HD.out]; exact hlt) |>.txt A2 m c2) (es[k]'(by rw [HN.out]; exact hlt)) := by
          have h5 := hr.each k (by rw [HD.out]; exact hlt) (by rw [HN.out]; exact hlt)
          rw [← EE.out] at h5 ⊢
          exact ⟨h5.1, h5.2.1, h5.2.2.1, h5.2.2.2.1, T1.out, Own.low G1.out (Nat.zero_le _), fun a ea => Nat.lt_of_lt_of_le hbw (g6 a ea).1, t5⟩
        have hput := HC2.out.put HD.out HN.out hlt A2 m c2 (fun _ _ => ho)
        have kset := k2.grown (only_set b (k * 5 + 1) (.slice A2 m c2)) k2.size (fun q e => by injection e with e; omega)
        have hput' := Lib.hid hput
        clear hput ho
        go_roundw
        case rel => exact ⟨k + 1, by omega, by go_num, hput', kset, by show b < _; simp [World.setCell]; omega⟩
        case measure => simp [intOf]; omega
      · obtain rfl : n = k := by omega
        go_wp2_with (fail)
        go_ret
        obtain ⟨ds', h1⟩ := HC.out.out HN.out
        exact ⟨_, ds', rfl, h1, kb⟩
end Go.Proofs.Ytgnciejbhaebeaa

/- What an inbox and a nil queue answer. Conditions: events that can be read; lengths that fit. -/
namespace Go.Proofs.Ytgnciejbhaebeaa
open Go Go.RowKit

/-- Events of one's own. -/
def Evs (ok : Nat → Prop) (w : World) (v : Value) (es : List Ev) : Prop := ∃ ds, EvsO ok w v ds es
def U63 (n : Nat) : Prop := n < 9223372036854775808
theorem u64_wrapN {n : Nat} (h : U64 n) : IntKind.u64.wrap (n : Int) = (n : Int) := by
  unfold U64 at h
  unfold IntKind.wrap
  simp [IntKind.bits, IntKind.signed]
  omega
/-- Block b is an inbox to which so many came. -/
def Ib (w : World) (b got : Nat) : Prop := w.heap[b]? = some (.cells #[.int .u64 (got : Int)] 118 (0, 0))
section
variable {w w' : World} {b got : Nat}
theorem Ib.cell (h : Ib w b got) : w.cell? ⟨b, 0, none⟩ = some (.int .u64 (got : Int)) := by rw [heap_cell h]; rfl
theorem Ib.free (h : Ib w b got) : w.frozen? ⟨b, 0, none⟩ = false := heap_free h 0
theorem Ib.lt (h : Ib w b got) : b < w.heap.size := heap_lt h
theorem Ib.below (h : Ib w b got) (hb : Below w.heap.size w w') : Ib w' b got := (hb.block b h.lt).trans h
theorem Ib.keep (h : Ib w b got) (hb : w'.heap[b]? = w.heap[b]?) : Ib w' b got := hb.trans h
theorem Ib.set (h : Ib w b got) (m : Nat) : Ib (w.setCell ⟨b, 0, none⟩ (.int .u64 (m : Int))) b m := by
  unfold Ib
  rw [heap_set h]
  rfl
end
set_option maxRecDepth 100000 in
theorem NewInbox_c (w : World) : Calls Try.prog 28 #[] w fun r w' => r = .returned (.pointer (some ⟨w.heap.size, 0, none⟩)) ∧ Ib w' w.heap.size 0 ∧ Below w.heap.size w w' := by
  have k0 : Below w.heap.size w (w.alloc (.cells #[.int .u64 0] 118)) := (Below.refl _ _).alloc (Nat.le_refl _) _
  have h0 : Ib (w.alloc (.cells #[.int .u64 0] 118)) w.heap.size 0 := heap_alloc_new w _
  have H0 := Lib.hid h0; clear h0
  go_enter Try.func28, Try.ntmps28
  go_wp2_with (fail)
  go_ret
  exact ⟨rfl, H0.out, k0⟩
set_option maxRecDepth 100000 in
theorem NewQueue_c (w : World) : Calls Try.prog 25 #[] w fun r w' => r = .returned (.pointer (some ⟨w.heap.size, 0, none⟩)) ∧ w'.heap[w.heap.size]? = some (.cells #[.int .u64 0, .slice none 0 0] 116 (0, 0)) ∧ Below w.heap.size w w' ∧ w'.heap.size = w.heap.size + 1 := by
  have k0 : Below w.heap.size w (w.alloc (.cells #[.int .u64 0, .slice none 0 0] 116)) := (Below.refl _ _).alloc (Nat.le_refl _) _
  have h0 : (w.alloc (.cells #[.int .u64 0, .slice none 0 0] 116)).heap[w.heap.size]? = some (.cells #[.int .u64 0, .slice none 0 0] 116 (0, 0)) := heap_alloc_new w _
  have H0 := Lib.hid h0; clear h0
  go_enter Try.func25, Try.ntmps25
  go_wp2_with (fail)
  go_ret
  exact ⟨rfl, H0.out, k0, by simp⟩
set_option maxRecDepth 100000 in
theorem Got_c (b got : Nat) (w : World) (h : Ib w b got) : Calls Try.prog 37 #[.pointer (some ⟨b, 0, none⟩)] w fun r w' => r = .returned (.int .u64 (got : Int)) ∧ w = w' := by
  have c0 := h.cell
  go_enter Try.func37, Try.ntmps37
  go_wp2
  go_ret
  exact ⟨rfl, rfl⟩
set_option maxRecDepth 100000 in
theorem Got_n (w : World) : Calls Try.prog 37 #[.pointer none] w fun r w' => r = .returned (.int .u64 0) ∧ w = w' := by
  go_enter Try.func37, Try.ntmps37
  go_wp2
  go_ret
  exact ⟨rfl, rfl⟩
set_option maxRecDepth 100000 in
theorem Accepted_n (w : World) : Calls Try.prog 36 #[.pointer none] w fun r w' => r = .returned (.int .u64 0) ∧ w = w' := by
  go_enter Try.func36, Try.ntmps36
  go_wp2
  go_ret
  exact ⟨rfl, rfl⟩
set_option maxRecDepth 100000 in
theorem Batch_n (w : World) : Calls Try.prog 34 #[.pointer none] w fun r w' => r = .returned (.tuple #[.int .u64 0, .slice none 0 0]) ∧ w = w' := by
  go_enter Try.func34, Try.ntmps34
  go_wp2
  go_ret2
  exact ⟨rfl, rfl⟩
set_option maxRecDepth 100000 in
theorem Ack_n (n : Int) (w : World) : Calls Try.prog 27 #[.pointer none, .int .u64 n] w fun r w' => r = .returned (.int .i64 0) ∧ w = w' := by
  go_enter Try.func27, Try.ntmps27
  go_wp2
  go_ret
  exact ⟨rfl, rfl⟩
set_option maxRecDepth 100000 in
theorem Push_n (k x y b : Int) (A : Option Addr) (n c : Nat) (w : World) : Calls Try.prog 26 #[.pointer none, .agg #[.int .i64 k, .slice A n c, .int .i64 x, .int .i64 y, .int .i64 b]] w fun r w' => r = .returned (.tuple #[.int .u64 0, .int .i64 1]) ∧ Below w.heap.size w w' := by
  have kb : Below w.heap.size w (w.alloc (.cells #[.int .i64 k, .slice A n c, .int .i64 x, .int .i64 y, .int .i64 b] 36)) := (Below.refl _ _).alloc (Nat.le_refl _) _
  go_enter Try.func26, Try.ntmps26
  go_wp2
  go_ret2
  exact ⟨rfl, kb⟩
set_option maxRecDepth 100000 in
theorem Take_n (base : Int) (A : Option Addr) (n c : Nat) (w : World) : Calls Try.prog 32 #[.pointer none, .int .u64 base, .slice A n c] w fun r w' => r = .returned (.tuple #[.slice none 0 0, .int .i64 1]) ∧ w = w' := by
  go_enter Try.func32, Try.ntmps32
  go_wp2
  go_ret2
  exact ⟨rfl, rfl⟩

/-- What an inbox takes: the new ones, the error, how many came. -/
def tkR (got base : Nat) (es : List Ev) : List Ev × Nat × Nat :=
  if es = [] ∨ 16 < es.length then ([], 1, got) else if got < base then ([], 15, got) else if es.length ≤ got - base then ([], 16, got) else (es.drop (got - base), 0, got + (es.length - (got - base)))
theorem EvsR.cut {ok : Nat → Prop} {w : World} {A : Option Addr} {ds : List EvV} {es : List Ev} (h : EvsR ok w A ds es) {k c : Nat} (hk : k ≤ es.length) (hc : es.length ≤ c) : EvsR ok w (if c = k then A else A.map (fun x => x.add (k * 5))) (ds.drop k) (es.drop k) := by
  have hl := h.len
  have hcd : cellsV (ds.drop k) = (cellsV ds).drop (k * 5) := by
    have e : cellsV ds = cellsV (ds.take k) ++ cellsV (ds.drop k) := by rw [← cellsV_append, List.take_append_drop]
    rw [e, List.drop_left' (by rw [cellsV_length, List.length_take]; omega)]
  refine ⟨by rw [List.length_drop, List.length_drop, hl], ?_, fun h0 a e => ?_, fun i h1 h2 => ?_⟩
  · rw [hcd]
    rcases h.row with h2 | ⟨b, off, rfl, hb, hcc⟩
    · left; rw [h2]; simp
    · by_cases e : c = k
      · left
        apply List.eq_nil_of_length_eq_zero
        rw [List.length_drop, cellsV_length]; omega
      · rw [if_neg e]
        refine .inr ⟨b, off + k * 5, ?_, hb, fun j hj => ?_⟩
        · unfold Addr.add
          by_cases h0 : k * 5 = 0
          · have : k = 0 := by omega
            subst this; simp
          · simp [h0]
        · simp only [List.length_drop] at hj
          rw [Nat.add_assoc, hcc (k * 5 + j) (by omega)]
          simp
  · rw [List.length_drop] at h0
    split at e
    · exact h.ok_ (by omega) a e
    · obtain ⟨a', ha, rfl⟩ := Option.map_eq_some_iff.1 e
      have := h.ok_ (by omega) a' ha
      unfold Addr.add
      split <;> exact this
  · have h1' : k + i < ds.length := by rw [List.length_drop] at h1; omega
    have h2' : k + i < es.length := by omega
    have := h.each (k + i) h1' h2'
    rw [List.getElem_drop, List.getElem_drop]
    exact this

set_option maxRecDepth 100000 in
set_option maxHeartbeats 2000000 in
theorem Take24_c (ok : Nat → Prop) (b got base : Nat) (A : Option Addr) (n c : Nat) (ds : List EvV) (es : List Ev) (w : World) (hg : U63 got) (hu : U64 base) (hi : Ib w b got) (hn : es.length = n) (hr : EvsR ok w A ds es) (hc : n ≤ c) (hm : c ≤ maxLen) (hl : n ≤ 140737488355328) :
    Calls Try.prog 32 #[.pointer (some ⟨b, 0, none⟩), .int .u64 base, .slice A n c] w fun r w' => ∃ v, r = .returned (.tuple #[v, .int .i64 ((tkR got base es).2.1 : Int)]) ∧ Evs (w.heap.size ≤ ·) w' v (tkR got base es).1 ∧ Ib w' b (tkR got base es).2.2 ∧ w.grownBy w' (some b) := by
  have HN := Lib.hid hn; clear hn
  have c0 := hi.cell
  have HI := Lib.hid hi; clear hi
  obtain ⟨L, er, gt, eR⟩ : ∃ L er gt, tkR got base es = (L, er, gt) := ⟨_, _, _, rfl⟩
  rw [eR]
  have ER := Lib.hid eR; clear eR
  show Calls _ _ _ _ fun r w' => ∃ v, r = .returned (.tuple #[v, .int .i64 (er : Int)]) ∧ Evs (w.heap.size ≤ ·) w' v L ∧ Ib w' b gt ∧ w.grownBy w' (some b)
  have nil_ : ∀ w', EvsO (w.heap.size ≤ ·) w' (.slice none 0 0) [] [] := fun w' => ⟨rfl, World.ownsRow_nil _ _ _ _, fun k e => (by cases e), fun i h => absurd h (by simp)⟩
  have NIL := Lib.hid nil_; clear nil_
  rcases Nat.eq_zero_or_pos n with h0 | h0
  · have hR : tkR got base es = ([], 1, got) := by rw [tkR, if_pos (.inl (List.eq_nil_of_length_eq_zero (HN.out.trans h0)))]
    rw [ER.out] at hR
    injection hR with r1 r2
    injection r2 with r2 r3
    have r3 := r3.symm
    subst r1 r2 r3 h0
    go_enter Try.func32, Try.ntmps32
    go_wp2_with (fail)
    go_ret2
    exact ⟨_, rfl, ⟨[], NIL.out _⟩, HI.out, World.grownBy.refl _ _⟩
  have d3 : ((n : Int) == 0) = false := by rw [beq_eq_false_iff_ne]; omega
  by_cases hbig : 16 < n
  · have hR : tkR got base es = ([], 1, got) := by rw [tkR, if_pos (.inr (by rw [HN.out]; exact hbig))]
    rw [ER.out] at hR
    injection hR with r1 r2
    injection r2 with r2 r3
    have r3 := r3.symm
    subst r1 r2 r3
    have d4 : decide ((16 : Int) < (n : Int)) = true := decide_eq_true (by omega)
    clear hbig
    go_enter Try.func32, Try.ntmps32
    go_wp2_with (fail)
    go_ret2
    exact ⟨_, rfl, ⟨[], NIL.out _⟩, HI.out, World.grownBy.refl _ _⟩
  have hnb : ¬ (es = [] ∨ 16 < es.length) := by
    rintro (h | h)
    · have := HN.out; rw [h] at this; simp at this; omega
    · rw [HN.out] at h; exact hbig h
  have d4 : decide ((16 : Int) < (n : Int)) = false := decide_eq_false (by omega)
  have hsm : n ≤ 16 := by omega
  clear hbig
  rcases Nat.lt_or_ge got base with hgb | hgb
  · have hR : tkR got base es = ([], 15, got) := by rw [tkR, if_neg hnb, if_pos hgb]
    rw [ER.out] at hR
    injection hR with r1 r2
    injection r2 with r2 r3
    have r3 := r3.symm
    subst r1 r2 r3
    have d5 : decide (got < base) = true := decide_eq_true (by omega)
    clear hnb hgb
    go_enter Try.func32, Try.ntmps32
    go_wp2_with (fail)
    go_ret2
    exact ⟨_, rfl, ⟨[], NIL.out _⟩, HI.out, World.grownBy.refl _ _⟩
  have d5 : decide (got < base) = false := decide_eq_false (by omega)
  obtain ⟨K, eK⟩ : ∃ K, K = got - base := ⟨_, rfl⟩
  have wd : IntKind.u64.wrap ((got : Int) - (base : Int)) = (K : Int) := by
    have : (got : Int) - (base : Int) = (K : Int) := by omega
    rw [this]
    exact u64_wrapN (by unfold U63 at hg; unfold U64; omega)
  have wn : IntKind.u64.wrap (n : Int) = (n : Int) := u64_wrapN (by unfold U64; omega)
  rcases Nat.lt_or_ge K n with hKn | hKn
  · have hR : tkR got base es = (es.drop K, 0, got + (n - K)) := by rw [tkR, if_neg hnb, if_neg (by omega), ← eK, HN.out, if_neg (by omega)]
    rw [ER.out] at hR
    injection hR with r1 r2
    injection r2 with r2 r3
    subst r2
    have d6 : decide (n ≤ K) = false := decide_eq_false (by omega)
    have R1 := Lib.hid r1; have R3 := Lib.hid r3
    have wa : IntKind.u64.wrap ((got : Int) + ((n - K : Nat) : Int)) = ((got + (n - K) : Nat) : Int) := by
      rw [show (got : Int) + ((n - K : Nat) : Int) = ((got + (n - K) : Nat) : Int) by omega]
      exact u64_wrapN (by unfold U63 at hg; unfold U64; omega)
    have wn2 : IntKind.u64.wrap ((n - K : Nat) : Int) = ((n - K : Nat) : Int) := u64_wrapN (by unfold U64; omega)
    have cut := hr.cut (k := K) (c := c) (by rw [HN.out]; omega) (by rw [HN.out]; exact hc)
    have CUT := Lib.hid cut
    have EK := Lib.hid eK
    clear hnb hgb r1 r3 eK cut hr
    go_enter Try.func32, Try.ntmps32
    go_wp2_with (fail)
    have cut := CUT.out
    rw [if_neg (by omega)] at cut
    refine (clone_c ok _ (n - K) (c - K) _ _ w (by rw [List.length_drop, HN.out]) cut (by omega)).mono ?_
    rintro r w1 ⟨v, ds', rfl, ho, hb⟩
    obtain ⟨A', c', rfl, p1, p2, p3⟩ := ho.form
    have hI1 := HI.out.below hb
    have hlen : (es.drop K).length = n - K := by rw [List.length_drop, HN.out]
    rw [hlen] at p1 ho ⊢
    have c1 := hI1.cell
    have f1 := hI1.free
    have HO := Lib.hid ho; clear ho
    have HI1 := Lib.hid hI1; clear hI1
    have HB := Lib.hid hb; clear hb
    have HL := Lib.hid hlen
    clear cut c0 p1 p2 p3 hlen
    go_wp2_with (fail)
    go_ret2
    have hlt := HI.out.lt
    refine ⟨_, rfl, ⟨ds', ?_⟩, ?_, ?_⟩
    · rw [R1.out]
      refine HO.out.frame (fun k hk _ => heap_far _ ?_)
      have : w.heap.size ≤ k := hk
      show k ≠ b; omega
    · rw [R3.out]
      exact HI1.out.set _
    · exact only_trans (grownBy_of_below HB.out (some b)) (only_set b 0 _)
  · have hR : tkR got base es = ([], 16, got) := by rw [tkR, if_neg hnb, if_neg (by omega), ← eK, HN.out, if_pos hKn]
    rw [ER.out] at hR
    injection hR with r1 r2
    injection r2 with r2 r3
    have r3 := r3.symm
    subst r1 r2 r3
    have d6 : decide (n ≤ K) = true := decide_eq_true (by omega)
    clear hnb hgb hKn eK
    go_enter Try.func32, Try.ntmps32
    go_wp2_with (fail)
    go_ret2
    exact ⟨_, rfl, ⟨[], NIL.out _⟩, HI.out, World.grownBy.refl _ _⟩
end Go.Proofs.Ytgnciejbhaebeaa

/- What keys.numbers.event answers: an event read, or an error. Conditions: a reader. -/
namespace Go.Proofs.Ytgnciejbhaebeaa
open Go Go.RowKit

/-- What is known within an event's reading: the reader, the version's box, the result's cells. -/
structure EvS (w0 : World) (r g2 g4 : Nat) (f : Bool) (s : RS) (w : World) : Prop where
  rd : Rdr w r s
  b2 : w.heap[g2]? = some (.cells #[.bool f] 111 (0, 0))
  b4 : w.heap[g4]? = some (.cells #[.int .i64 0, .slice none 0 0, .int .i64 0, .int .i64 0, .int .i64 0] 36 (0, 0))
  kp : Keeps (fun j => j = r) w0 w
  lo : r < g2 ∧ g2 < g4 ∧ w0.heap.size ≤ g2
  ga : ∀ a, s.gA = some a → a.block < g2
theorem EvS.step {w0 w w' : World} {r g2 g4 : Nat} {f : Bool} {s s' : RS} (h : EvS w0 r g2 g4 f s w) (hr : Rdr w' r s') (hk : Keeps (fun j => j = r) w w') (hg : s'.gA = s.gA) : EvS w0 r g2 g4 f s' w' :=
  ⟨hr, (hk.block g2 (heap_lt h.b2) (by have := h.lo; omega)).trans h.b2, (hk.block g4 (heap_lt h.b4) (by have := h.lo; omega)).trans h.b4, h.kp.trans hk, h.lo, by rw [hg]; exact h.ga⟩
theorem EvS.c2 {w0 w : World} {r g2 g4 : Nat} {f : Bool} {s : RS} (h : EvS w0 r g2 g4 f s w) : w.cell? ⟨g2, 0, none⟩ = some (.bool f) := by rw [heap_cell h.b2]; rfl
theorem five_cells {w : World} {g : Nat} {u0 u1 u2 u3 u4 : Value} {t : TypeId} (h : w.heap[g]? = some (.cells #[u0, u1, u2, u3, u4] t (0, 0))) :
    (w.cell? ⟨g, 0, none⟩ = some u0 ∧ w.cell? ⟨g, 1, none⟩ = some u1 ∧ w.cell? ⟨g, 2, none⟩ = some u2 ∧ w.cell? ⟨g, 3, none⟩ = some u3 ∧ w.cell? ⟨g, 4, none⟩ = some u4) ∧
    (w.frozen? ⟨g, 0, none⟩ = false ∧ w.frozen? ⟨g, 1, none⟩ = false ∧ w.frozen? ⟨g, 2, none⟩ = false ∧ w.frozen? ⟨g, 3, none⟩ = false ∧ w.frozen? ⟨g, 4, none⟩ = false) :=
  ⟨⟨by rw [heap_cell h]; rfl, by rw [heap_cell h]; rfl, by rw [heap_cell h]; rfl, by rw [heap_cell h]; rfl, by rw [heap_cell h]; rfl⟩, heap_free h 0, heap_free h 1, heap_free h 2, heap_free h 3, heap_free h 4⟩
theorem Rerr_e (r : Nat) (s : RS) (E : Nat) (w : World) (h : Rdr w r s) (he : s.err = E) : Calls Try.prog 76 #[.pointer (some ⟨r, 0, none⟩)] w fun e w' => e = .returned (.int .i64 (E : Int)) ∧ w = w' := by
  subst he
  exact Rerr_c r s w h
theorem get_e (f : Bool) (r : Nat) (s s' : RS) (z : Int) (K : Nat) (w : World) (h : Rdr w r s) (hz : (Lit.int .i64 z).wf = true) (e : getR f s z = (K, s')) :
    Calls Try.prog 75 #[.agg #[.bool f], .pointer (some ⟨r, 0, none⟩), .int .i64 z] w fun e w' => e = .returned (.int .u64 (K : Int)) ∧ Rdr w' r s' ∧ Keeps (fun j => j = r) w w' := by
  have := get_c f r s z w h hz
  rw [e] at this
  exact this
theorem i64_w {n : Nat} (h : U63 n) : IntKind.i64.wrap (n : Int) = (n : Int) := by
  unfold U63 at h
  unfold IntKind.wrap
  simp [IntKind.bits, IntKind.signed]
  omega
/-- 'max(x, y, z)' of three numbers. -/
theorem wpList_max3 (w : World) {ops : Array Oper} {rest : List Oper} {o : Oper} {a : Act} {Q : Exit → Act → World → Prop} (hgd : o.guard = none) (x y z : Operand) (ts : Array TypeId)
    (ho : o.op = .call { callee := .builtin .max, args := #[x, y, z], argTypes := ts }) (X Y Z : Nat) (hx : a.eval x = .int .u64 (X : Int)) (hy : a.eval y = .int .u64 (Y : Int)) (hz : a.eval z = .int .u64 (Z : Int))
    (h : ∀ M : Nat, (255 < M ↔ 255 < X ∨ 255 < Y ∨ 255 < Z) → wpList Try.prog ops Q rest (a.put o.dst (.int .u64 (M : Int))) w) : wpList Try.prog ops Q (o :: rest) a w := by
  refine wpList_plain hgd fun K hK => ?_
  unfold Oper.wp execOp
  simp only [ho, resolve, invoke, builtin, Sem.run_bind, Sem.run_pure, Result.andThen_ok, List.map_toArray, List.map_cons, List.map_nil, hx, hy, hz, run_max_int3]
  have e : (if (Z : Int) > (if (Y : Int) > (X : Int) then (Y : Int) else (X : Int)) then (Z : Int) else (if (Y : Int) > (X : Int) then (Y : Int) else (X : Int))) = ((max (max X Y) Z : Nat) : Int) := by
    by_cases h1 : (Y : Int) > (X : Int)
    · simp only [if_pos h1]
      by_cases h2 : (Z : Int) > (Y : Int)
      · rw [if_pos h2]; omega
      · rw [if_neg h2]; omega
    · simp only [if_neg h1]
      by_cases h2 : (Z : Int) > (X : Int)
      · rw [if_pos h2]; omega
      · rw [if_neg h2]; omega
  rw [e]
  exact hK _ _ (h _ (by omega))
/-- And the event's own box. -/
structure EvB (w0 : World) (r g2 g4 g7 : Nat) (f : Bool) (s : RS) (u0 u1 u2 u3 u4 : Value) (w : World) : Prop where
  es : EvS w0 r g2 g4 f s w
  b7 : w.heap[g7]? = some (.cells #[u0, u1, u2, u3, u4] 36 (0, 0))
  lo : g4 < g7
theorem EvB.step {w0 w w' : World} {r g2 g4 g7 : Nat} {f : Bool} {s s' : RS} {u0 u1 u2 u3 u4 : Value} (h : EvB w0 r g2 g4 g7 f s u0 u1 u2 u3 u4 w) (hr : Rdr w' r s') (hk : Keeps (fun j => j = r) w w') (hg : s'.gA = s.gA) : EvB w0 r g2 g4 g7 f s' u0 u1 u2 u3 u4 w' :=
  ⟨h.es.step hr hk hg, (hk.block g7 (heap_lt h.b7) (by have := h.lo; have := h.es.lo; omega)).trans h.b7, h.lo⟩
theorem getR_ga {f : Bool} {s s' : RS} {z : Int} {K : Nat} (e : getR f s z = (K, s')) : s'.gA = s.gA := by
  have := (getR_b f s z).2
  rw [e] at this
  exact this
theorem getR_lt {f : Bool} {s s' : RS} {z : Int} {K : Nat} (e : getR f s z = (K, s')) : U64 K := by
  have := getR_u64 f s z
  rw [e] at this
  exact this
theorem Rdr.keeps {S : Nat → Prop} {w w' : World} {r : Nat} {s : RS} (h : Rdr w r s) (hk : Keeps S w w') (hr : ¬ S r) (hA : ∀ a, s.gA = some a → a.block < w.heap.size → ¬ S a.block) : Rdr w' r s := by
  obtain ⟨A, c, h1, h2, h3, h4⟩ := h
  refine ⟨A, c, (hk.block r (heap_lt h1) hr).trans h1, h2.of_blocks (fun b hb ⟨off, e⟩ => hk.block b hb ?_) hk.size, h3, h4⟩
  exact hA ⟨b, off, none⟩ (by rw [← h3.1, e]) hb
theorem Keeps.setNew {w0 w : World} {r g i : Nat} {u : Value} (h : Keeps (fun j => j = r) w0 w) (hg : w0.heap.size ≤ g) : Keeps (fun j => j = r) w0 (w.setCell ⟨g, i, none⟩ u) := by
  have hk := Keeps.set (fun j => j = g) w ⟨g, i, none⟩ u rfl
  exact ⟨hk.os.trans h.os, hk.tape.trans h.tape, hk.output.trans h.output, Nat.le_trans h.size hk.size, fun j hj hn => (hk.block j (Nat.lt_of_lt_of_le hj h.size) (by omega)).trans (h.block j hj hn)⟩
theorem EvS.far {w0 w : World} {r g2 g4 g i : Nat} {f : Bool} {s : RS} {u : Value} (h : EvS w0 r g2 g4 f s w) (hg : g4 < g) : EvS w0 r g2 g4 f s (w.setCell ⟨g, i, none⟩ u) := by
  have hl := h.lo
  exact ⟨h.rd.keeps (Keeps.set (fun j => j = g) w ⟨g, i, none⟩ u rfl) (by omega) (fun a ha _ => by have := h.ga a ha; omega), (heap_far u (by show g2 ≠ g; omega)).trans h.b2, (heap_far u (by show g4 ≠ g; omega)).trans h.b4, h.kp.setNew (by omega), h.lo, h.ga⟩
theorem EvB.set1 {w0 w : World} {r g2 g4 g7 : Nat} {f : Bool} {s : RS} {u0 u1 u2 u3 u4 u : Value} (h : EvB w0 r g2 g4 g7 f s u0 u1 u2 u3 u4 w) : EvB w0 r g2 g4 g7 f s u0 u u2 u3 u4 (w.setCell ⟨g7, 1, none⟩ u) :=
  ⟨h.es.far h.lo, by rw [heap_set h.b7 1]; rfl, h.lo⟩
theorem EvB.set234 {w0 w : World} {r g2 g4 g7 : Nat} {f : Bool} {s : RS} {u0 u1 u2 u3 u4 x y z : Value} (h : EvB w0 r g2 g4 g7 f s u0 u1 u2 u3 u4 w) : EvB w0 r g2 g4 g7 f s u0 u1 x y z (((w.setCell ⟨g7, 2, none⟩ x).setCell ⟨g7, 3, none⟩ y).setCell ⟨g7, 4, none⟩ z) := by
  have h2 := heap_set h.b7 2 x
  have h3 := heap_set h2 3 y
  have h4 := heap_set h3 4 z
  exact ⟨((h.es.far h.lo).far h.lo).far h.lo, by rw [h4]; rfl, h.lo⟩
theorem EvB.below {w0 w w' : World} {r g2 g4 g7 : Nat} {f : Bool} {s : RS} {u0 u1 u2 u3 u4 : Value} (h : EvB w0 r g2 g4 g7 f s u0 u1 u2 u3 u4 w) (hb : Below w.heap.size w w') : EvB w0 r g2 g4 g7 f s u0 u1 u2 u3 u4 w' :=
  h.step (h.es.rd.below hb) (Keeps.of_below hb _ (fun _ hk _ => hk)) rfl
/-- The bytes of a text that was taken. -/
theorem EvB.took {w0 w w' : World} {r g2 g4 g7 : Nat} {f : Bool} {s s' : RS} {u0 u1 u2 u3 u4 : Value} {A : Option Addr} {n c : Nat} {bs : List UInt8} (h : EvB w0 r g2 g4 g7 f s u0 u1 u2 u3 u4 w) (hr : Rdr w' r s') (hk : Keeps (fun j => j = r) w w') (hg : s'.gA = s.gA) (ho : OwnB w' w.heap.size (.slice A n c) bs) (hn : bs.length = n) (hl : n ≤ 140737488355328) :
    EvB w0 r g2 g4 g7 f s' u0 (.slice A n c) u2 u3 u4 (w'.setCell ⟨g7, 1, none⟩ (.slice A n c)) ∧ TxtO (fun j => w0.heap.size ≤ j ∧ j ≠ g4) (w'.setCell ⟨g7, 1, none⟩ (.slice A n c)) A n c bs := by
  have h7 := heap_lt h.b7
  have hlo := h.lo
  have hl2 := h.es.lo
  have hown := Own.lt ho
  refine ⟨(h.step hr hk hg).set1, hn, Own.frameK (Own.low ho (Nat.zero_le _)) (fun g eg => heap_far _ (by have := (hown g eg).1; show g ≠ g7; omega)), fun a ea => ?_, hl⟩
  have := (hown a.block (by rw [ea]; rfl)).1
  exact ⟨by omega, by omega⟩
/-- What is answered: the error, and an event of one's own where there is none. -/
def EvQ (w0 : World) (r : Nat) (R : Nat × Ev × RS) (res : Ending) (w' : World) : Prop := ∃ d : EvV, res = .returned (.tuple #[.agg #[.int .i64 d.k, .slice d.A d.n d.c, .int .i64 d.x, .int .i64 d.y, .int .i64 d.b], .int .i64 (R.1 : Int)]) ∧
  (R.1 = 0 → EvO (w0.heap.size ≤ ·) w' d R.2.1) ∧ Rdr w' r R.2.2 ∧ Keeps (fun j => j = r) w0 w'

/-- Five cells stored. -/
def set5 (w : World) (g : Nat) (u0 u1 u2 u3 u4 : Value) : World := ((((w.setCell ⟨g, 0, none⟩ u0).setCell ⟨g, 1, none⟩ u1).setCell ⟨g, 2, none⟩ u2).setCell ⟨g, 3, none⟩ u3).setCell ⟨g, 4, none⟩ u4
theorem set5_heap {w : World} {g : Nat} {a0 a1 a2 a3 a4 u0 u1 u2 u3 u4 : Value} {t : TypeId} (h : w.heap[g]? = some (.cells #[a0, a1, a2, a3, a4] t (0, 0))) : (set5 w g u0 u1 u2 u3 u4).heap[g]? = some (.cells #[u0, u1, u2, u3, u4] t (0, 0)) := by
  unfold set5
  have h1 := heap_set h 0 u0
  have h2 := heap_set h1 1 u1
  have h3 := heap_set h2 2 u2
  have h4 := heap_set h3 3 u3
  have h5 := heap_set h4 4 u4
  rw [h5]
  rfl
theorem set5_keeps (w : World) (g : Nat) (u0 u1 u2 u3 u4 : Value) : Keeps (fun j => j = g) w (set5 w g u0 u1 u2 u3 u4) :=
  ((((Keeps.set (fun j => j = g) w ⟨g, 0, none⟩ u0 rfl).trans (Keeps.set _ _ ⟨g, 1, none⟩ u1 rfl)).trans (Keeps.set _ _ ⟨g, 2, none⟩ u2 rfl)).trans (Keeps.set _ _ ⟨g, 3, none⟩ u3 rfl)).trans (Keeps.set _ _ ⟨g, 4, none⟩ u4 rfl)
/-- The end: the result's cells are stored. -/
theorem EvS.ends {w0 w : World} {r g2 g4 : Nat} {f : Bool} {s : RS} {R : Nat × Ev × RS} (h : EvS w0 r g2 g4 f s w) (d : EvV) (er : Nat) (e : Ev) (hR : R = (er, e, s)) (hd : er = 0 → EvO (fun j => w0.heap.size ≤ j ∧ j ≠ g4) w d e) :
    EvQ w0 r R (.returned (.tuple #[.agg #[.int .i64 d.k, .slice d.A d.n d.c, .int .i64 d.x, .int .i64 d.y, .int .i64 d.b], .int .i64 (er : Int)])) (set5 w g4 (.int .i64 d.k) (.slice d.A d.n d.c) (.int .i64 d.x) (.int .i64 d.y) (.int .i64 d.b)) := by
  subst hR
  have hl := h.lo
  have hk := set5_keeps w g4 (.int .i64 d.k) (.slice d.A d.n d.c) (.int .i64 d.x) (.int .i64 d.y) (.int .i64 d.b)
  refine ⟨d, rfl, fun he => ?_, h.rd.keeps hk (by omega) (fun a ha _ => by have := h.ga a ha; omega), ⟨hk.os.trans h.kp.os, hk.tape.trans h.kp.tape, hk.output.trans h.kp.output, Nat.le_trans h.kp.size hk.size, fun j hj hn => (hk.block j (Nat.lt_of_lt_of_le hj h.kp.size) (by omega)).trans (h.kp.block j hj hn)⟩⟩
  exact ((hd he).frame (fun k hk' hl' => hk.block k hl' hk'.2)).weak (fun k hk' _ => hk'.1)

end Go.Proofs.Ytgnciejbhaebeaa

/- What keys.numbers.event answers: no kind; a text. Conditions: a reader. -/
namespace Go.Proofs.Ytgnciejbhaebeaa
open Go Go.RowKit

set_option maxRecDepth 100000 in
set_option maxHeartbeats 4000000 in
theorem event_p (f : Bool) (r : Nat) (s : RS) (w : World) (h : Rdr w r s) (hA : ∀ a, s.gA = some a → a.block < w.heap.size) (hyp : (getR f s 1).2.err = 0 ∧ ((getR f s 1).1 < 1 ∨ 4 < (getR f s 1).1)) : Calls Try.prog 77 #[.agg #[.bool f], .pointer (some ⟨r, 0, none⟩)] w (EvQ w r (evR f s)) := by
  have HYP := Lib.hid hyp; clear hyp
  obtain ⟨R, eR⟩ : ∃ R, R = evR f s := ⟨_, rfl⟩
  rw [← eR]
  have ER := Lib.hid eR; clear eR
  obtain ⟨wa, ewa⟩ : ∃ wa, wa = (w.alloc (.cells #[.bool f] 111)).alloc (.cells #[.int .i64 0, .slice none 0 0, .int .i64 0, .int .i64 0, .int .i64 0] 36) := ⟨_, rfl⟩
  obtain ⟨g2, eg2⟩ : ∃ g2, g2 = w.heap.size := ⟨_, rfl⟩
  obtain ⟨g4, eg4⟩ : ∃ g4, g4 = g2 + 1 := ⟨_, rfl⟩
  have hs : EvS w r g2 g4 f s wa := by
    have hb : Below w.heap.size w wa := by rw [ewa]; exact ((Below.refl _ _).alloc (Nat.le_refl _) _).alloc (by simp) _
    have hl := h.lt
    refine ⟨h.below hb, ?_, ?_, ?_, ?_, ?_⟩
    · rw [ewa, eg2]; exact heap2_old w _ _
    · rw [ewa, eg4, eg2]; exact heap2_new w _ _
    · rw [ewa]; exact ((Keeps.refl _ w).alloc _).alloc _
    · omega
    · rw [eg2]; exact hA
  have HS := Lib.hid hs
  have EWA := Lib.hid ewa
  have EG2 := Lib.hid eg2
  have EG4 := Lib.hid eg4
  clear hs ewa eg2 eg4 h hA
  have hku := getR_u64 f s 1
  have hkz := getR_zero (f := f) (s := s) (z := 1)
  have hkg := (getR_b f s 1).2
  obtain ⟨K, s1, eA⟩ : ∃ K s1, getR f s 1 = (K, s1) := ⟨_, _, rfl⟩
  rw [eA] at hku hkz hkg
  have hku : U64 K := hku
  have HKZ : Hid (s1.err ≠ 0 → K = 0) := Lib.hid hkz
  have HKG : Hid (s1.gA = s.gA) := Lib.hid hkg
  have EA := Lib.hid eA
  clear hkz eA hkg
  go_enter Try.func77, Try.ntmps77
  go_wp2_with (fail)
  rw [← EWA.out, ← EG2.out, ← EG4.out]
  refine (get_e f r s s1 1 K wa HS.out.rd (by decide) EA.out).mono ?_
  rintro e w1 ⟨rfl, hr1, hk1⟩
  have HS1 := Lib.hid (HS.out.step hr1 hk1 HKG.out)
  clear hr1 hk1 HS EWA EG2 EG4
  have hlow := HS1.out.lo
  have c2 := HS1.out.c2
  obtain ⟨⟨d0, d1, d2, d3, d4⟩, y0, y1, y2, y3, y4⟩ := five_cells HS1.out.b4
  have hyp := HYP.out
  rw [EA.out] at hyp
  obtain ⟨he, hk⟩ : s1.err = 0 ∧ (K < 1 ∨ 4 < K) := hyp
  have hR : R = (3, ev0, s1) := by rw [ER.out, evR, EA.out, if_neg (by simpa using he), if_pos hk]
  have HR := Lib.hid hR; clear hR
  have HE := Lib.hid he; clear he
  go_wp2_with (fail)
  refine (Rerr_e r s1 0 w1 HS1.out.rd HE.out).mono ?_
  rintro e w1' ⟨rfl, rfl⟩
  rcases hk with hk | hk
  · have hk0 : ((K : Int) < 1) := by omega
    go_wp2_with (fail)
    refine bodyPost_ret (v := .tuple #[.agg #[.int .i64 0, .slice none 0 0, .int .i64 0, .int .i64 0, .int .i64 0], .int .i64 3]) (by simp [results, Try.results77, go_sem, d0, d1, d2, d3, d4]) rfl (HS1.out.ends ⟨0, none, 0, 0, 0, 0, 0⟩ 3 _ HR.out (fun h => by cases h))
  · have hk0 : ¬ ((K : Int) < 1) := by omega
    have hk4 : ((4 : Int) < (K : Int)) := by omega
    go_wp2_with (fail)
    refine bodyPost_ret (v := .tuple #[.agg #[.int .i64 0, .slice none 0 0, .int .i64 0, .int .i64 0, .int .i64 0], .int .i64 3]) (by simp [results, Try.results77, go_sem, d0, d1, d2, d3, d4]) rfl (HS1.out.ends ⟨0, none, 0, 0, 0, 0, 0⟩ 3 _ HR.out (fun h => by cases h))

set_option maxRecDepth 100000 in
set_option maxHeartbeats 4000000 in
theorem event_t (f : Bool) (r : Nat) (s : RS) (w : World) (h : Rdr w r s) (hA : ∀ a, s.gA = some a → a.block < w.heap.size) (hyp : ¬ ((getR f s 1).2.err = 0 ∧ ((getR f s 1).1 < 1 ∨ 4 < (getR f s 1).1)) ∧ ((getR f s 1).1 = 1 ∨ (getR f s 1).1 = 2)) : Calls Try.prog 77 #[.agg #[.bool f], .pointer (some ⟨r, 0, none⟩)] w (EvQ w r (evR f s)) := by
  have HYP := Lib.hid hyp; clear hyp
  obtain ⟨R, eR⟩ : ∃ R, R = evR f s := ⟨_, rfl⟩
  rw [← eR]
  have ER := Lib.hid eR; clear eR
  obtain ⟨wa, ewa⟩ : ∃ wa, wa = (w.alloc (.cells #[.bool f] 111)).alloc (.cells #[.int .i64 0, .slice none 0 0, .int .i64 0, .int .i64 0, .int .i64 0] 36) := ⟨_, rfl⟩
  obtain ⟨g2, eg2⟩ : ∃ g2, g2 = w.heap.size := ⟨_, rfl⟩
  obtain ⟨g4, eg4⟩ : ∃ g4, g4 = g2 + 1 := ⟨_, rfl⟩
  have hs : EvS w r g2 g4 f s wa := by
    have hb : Below w.heap.size w wa := by rw [ewa]; exact ((Below.refl _ _).alloc (Nat.le_refl _) _).alloc (by simp) _
    have hl := h.lt
    refine ⟨h.below hb, ?_, ?_, ?_, ?_, ?_⟩
    · rw [ewa, eg2]; exact heap2_old w _ _
    · rw [ewa, eg4, eg2]; exact heap2_new w _ _
    · rw [ewa]; exact ((Keeps.refl _ w).alloc _).alloc _
    · omega
    · rw [eg2]; exact hA
  have HS := Lib.hid hs
  have EWA := Lib.hid ewa
  have EG2 := Lib.hid eg2
  have EG4 := Lib.hid eg4
  clear hs ewa eg2 eg4 h hA
  have hku := getR_u64 f s 1
  have hkz := getR_zero (f := f) (s := s) (z := 1)
  have hkg := (getR_b f s 1).2
  obtain ⟨K, s1, eA⟩ : ∃ K s1, getR f s 1 = (K, s1) := ⟨_, _, rfl⟩
  rw [eA] at hku hkz hkg
  have hku : U64 K := hku
  have HKZ : Hid (s1.err ≠ 0 → K = 0) := Lib.hid hkz
  have HKG : Hid (s1.gA = s.gA) := Lib.hid hkg
  have EA := Lib.hid eA
  clear hkz eA hkg
  go_enter Try.func77, Try.ntmps77
  go_wp2_with (fail)
  rw [← EWA.out, ← EG2.out, ← EG4.out]
  refine (get_e f r s s1 1 K wa HS.out.rd (by decide) EA.out).mono ?_
  rintro e w1 ⟨rfl, hr1, hk1⟩
  have HS1 := Lib.hid (HS.out.step hr1 hk1 HKG.out)
  clear hr1 hk1 HS EWA EG2 EG4
  have hlow := HS1.out.lo
  have c2 := HS1.out.c2
  obtain ⟨⟨d0, d1, d2, d3, d4⟩, y0, y1, y2, y3, y4⟩ := five_cells HS1.out.b4
  have hyp := HYP.out
  rw [EA.out] at hyp
  obtain ⟨hP, h12⟩ : ¬ (s1.err = 0 ∧ (K < 1 ∨ 4 < K)) ∧ (K = 1 ∨ K = 2) := hyp
  have hK : (s1.err = 0 ∧ 1 ≤ K ∧ K ≤ 4) ∨ (s1.err ≠ 0 ∧ K = 0) := by
    by_cases he : s1.err = 0
    · left; have : ¬ (K < 1 ∨ 4 < K) := fun h => hP ⟨he, h⟩; exact ⟨he, by omega⟩
    · right; exact ⟨he, HKZ.out he⟩
  have HK := Lib.hid hK
  clear hP
  go_upto_region 2 with (fail)
  go_cut [26] (fun s26 wx => s26 = .bool false ∧ w1 = wx)
  case first =>
    go_wp2_with (fail)
    obtain ⟨E, eE⟩ : ∃ E, E = s1.err := ⟨_, rfl⟩
    rw [← eE] at hK
    refine (Rerr_e r s1 E w1 HS1.out.rd eE.symm).mono ?_
    clear eE
    rintro e w1' ⟨rfl, rfl⟩
    rcases hK with ⟨rfl, k1, k4⟩ | ⟨hE, rfl⟩
    · have j1 : decide ((K : Int) < 1) = false := decide_eq_false (by omega)
      have j4 : decide ((4 : Int) < (K : Int)) = false := decide_eq_false (by omega)
      clear k1 k4
      go_wp2_with (fail)
      go_meet
      exact ⟨rfl, rfl⟩
    · have e0 : ((E : Int) == 0) = false := by rw [beq_eq_false_iff_ne]; omega
      clear hE
      go_wp2_with (fail)
      go_meet
      exact ⟨rfl, rfl⟩
  case rest =>
    obtain ⟨rfl, rfl⟩ := hcut
    clear hK
    have hK4 : K ≤ 4 := by have := HK.out; omega
    have wK := i64_w (n := K) (by unfold U63; omega)
    obtain ⟨w2, ew2⟩ : ∃ w2, w2 = w1.alloc (.cells #[.int .i64 (K : Int), .slice none 0 0, .int .i64 0, .int .i64 0, .int .i64 0] 36) := ⟨_, rfl⟩
    obtain ⟨g7, eg7⟩ : ∃ g7, g7 = w1.heap.size := ⟨_, rfl⟩
    have hB2 : EvB w r g2 g4 g7 f s1 (.int .i64 (K : Int)) (.slice none 0 0) (.int .i64 0) (.int .i64 0) (.int .i64 0) w2 := by
      refine ⟨HS1.out.step ?_ ?_ rfl, ?_, ?_⟩
      · rw [ew2]; exact HS1.out.rd.below ((Below.refl _ _).alloc (Nat.le_refl _) _)
      · rw [ew2]; exact (Keeps.refl _ w1).alloc _
      · rw [ew2, eg7]; exact heap_alloc_new w1 _
      · rw [eg7]; exact heap_lt HS1.out.b4
    have HB2 := Lib.hid hB2
    have EW2 := Lib.hid ew2
    have EG7 := Lib.hid eg7
    clear ew2 eg7 hB2 c2 d0 d1 d2 d3 d4 y0 y1 y2 y3 y4
    go_wp2_with (fail)
    rw [← EW2.out, ← EG7.out]
    refine (most_c (K : Int) w2).mono ?_
    rintro e w2' ⟨rfl, rfl⟩
    clear EW2 EG7 HS1
    have hMI : mostI (K : Int) = (mostN K : Int) := by
      rcases h12 with rfl | rfl <;> rfl
    rw [hMI]
    clear hMI
    have hM64 : mostN K ≤ 64 := by unfold mostN; split <;> omega
    obtain ⟨M, eM⟩ : ∃ M, M = mostN K := ⟨_, rfl⟩
    rw [← eM] at hM64 ⊢
    have EM := Lib.hid eM; clear eM
    have he1 : Hid (s1.err = 0) := Lib.hid (by have := HK.out; omega)
    have hRt : Hid (R = (let b := getR f s1 1
        if b.2.err ≠ 0 then (b.2.err, ev0, b.2) else if mostN K < b.1 then (3, ev0, b.2)
        else if (takeR b.2 b.1).2.err ≠ 0 then ((takeR b.2 b.1).2.err, ev0, (takeR b.2 b.1).2)
        else if Ev.may ⟨K, (takeR b.2 b.1).1, 0, 0, 0⟩ = false then (3, ev0, (takeR b.2 b.1).2)
        else (0, ⟨K, (takeR b.2 b.1).1, 0, 0, 0⟩, (takeR b.2 b.1).2))) := Lib.hid (by
      rw [ER.out, evR, EA.out, if_neg (by simpa using he1.out), if_neg (by simp only; omega), if_pos (by simp only; omega)])
    obtain ⟨N, s2, eB⟩ : ∃ N s2, getR f s1 1 = (N, s2) := ⟨_, _, rfl⟩
    have hNu : U64 N := getR_lt eB
    have hga2 := getR_ga eB
    have hNz : Hid (s2.err ≠ 0 → N = 0) := Lib.hid (by have := getR_zero (f := f) (s := s1) (z := 1); rw [eB] at this; exact this)
    have EB := Lib.hid eB; clear eB
    have HG2 := Lib.hid hga2; clear hga2
    have c2 := HB2.out.es.c2
    have m0 : (0 : Int) ≤ (M : Int) := by omega
    have wM := u64_wrapN (n := M) (by unfold U64; omega)
    go_wp2_with (fail)
    refine (get_e f r s1 s2 1 N w2 HB2.out.es.rd (by decide) EB.out).mono ?_
    rintro e w3 ⟨rfl, hr3, hk3⟩
    have HB3 := Lib.hid (HB2.out.step hr3 hk3 HG2.out)
    clear hr3 hk3 HB2 c2
    obtain ⟨⟨d0, d1, d2, d3, d4⟩, y0, y1, y2, y3, y4⟩ := five_cells HB3.out.es.b4
    obtain ⟨E2, eE2⟩ : ∃ E2, E2 = s2.err := ⟨_, rfl⟩
    have HE2 := Lib.hid eE2
    by_cases hlong : E2 = 0 ∧ M < N
    · obtain ⟨rfl, hlong⟩ := hlong
      have hR : R = (3, ev0, s2) := by rw [hRt.out]; simp only [EB.out]; rw [if_neg (by rw [← HE2.out]; simp), if_pos (by rw [← EM.out]; exact hlong)]
      have HR := Lib.hid hR; clear hR eE2
      have l1 : decide ((M : Int) < (N : Int)) = true := decide_eq_true (by omega)
      have l2 : decide (M < N) = true := decide_eq_true hlong
      clear hlong
      go_wp2_with (fail)
      refine (Rerr_e r s2 0 w3 HB3.out.es.rd HE2.out.symm).mono ?_
      rintro e w3' ⟨rfl, rfl⟩
      go_wp2_with (fail)
      refine bodyPost_ret (v := .tuple #[.agg #[.int .i64 0, .slice none 0 0, .int .i64 0, .int .i64 0, .int .i64 0], .int .i64 3]) (by simp [results, Try.results77, go_sem, d0, d1, d2, d3, d4]) rfl (HB3.out.es.ends ⟨0, none, 0, 0, 0, 0, 0⟩ 3 _ HR.out (fun h => by cases h))
    · have hN64 : N ≤ 64 := by
        by_cases hh : E2 = 0
        · have : ¬ M < N := fun h => hlong ⟨hh, h⟩
          omega
        · have := hNz.out (by rw [← eE2]; exact hh); omega
      have hN := Lib.hid hlong
      clear eE2 hNu hlong
      have wN := i64_w (n := N) (by unfold U63; omega)
      obtain ⟨t, s4, eT⟩ : ∃ t s4, takeR s2 (N : Int) = (t, s4) := ⟨_, _, rfl⟩
      have hga4 : s4.gA = s2.gA := by have := (takeR_b s2 (N : Int)).2; rw [eT] at this; exact this
      have htl : t.length ≤ N := by
        have : (takeR s2 (N : Int)).1.length ≤ N := by
          unfold takeR
          split
          · exact Nat.zero_le _
          · split
            · exact Nat.zero_le _
            · split
              · exact Nat.zero_le _
              · show (List.take _ _).length ≤ N
                rw [List.length_take]; omega
        rw [eT] at this; exact this
      have ET := Lib.hid eT; clear eT
      have HG4 := Lib.hid hga4; clear hga4
      have tk := Rtake_c r s2 (N : Int) w3 HB3.out.es.rd (by simp [Lit.wf, IntKind.min, IntKind.max, IntKind.signed, IntKind.bits]; omega)
      rw [ET.out] at tk
      have TK := Lib.hid tk; clear tk
      obtain ⟨⟨x0, x1, x2, x3, x4⟩, z0, z1, z2, z3, z4⟩ := five_cells HB3.out.b7
      go_upto_region 8 with (fail)
      go_cut [47] (fun s47 wx => s47 = .bool false ∧ w3 = wx)
      case first =>
        go_wp2_with (fail)
        refine (Rerr_e r s2 E2 w3 HB3.out.es.rd HE2.out.symm).mono ?_
        rintro e w3' ⟨rfl, rfl⟩
        by_cases hh : E2 = 0
        · subst hh
          have l1 : decide ((M : Int) < (N : Int)) = false := decide_eq_false (by have := hN.out; omega)
          have l2 : decide (M < N) = false := decide_eq_false (by have := hN.out; omega)
          go_wp2_with (fail)
          go_meet
          exact ⟨rfl, rfl⟩
        · have e0 : ((E2 : Int) == 0) = false := by rw [beq_eq_false_iff_ne]; omega
          clear hh
          go_wp2_with (fail)
          go_meet
          exact ⟨rfl, rfl⟩
      case rest =>
        obtain ⟨rfl, rfl⟩ := hcut
        go_wp2_with (fail)
        refine TK.out.mono ?_
        rintro e w4 ⟨v4, rfl, ho4, hr4, hg4⟩
        obtain ⟨A4, c4, ev4, f1, f2, -, -⟩ := OwnB.form ho4
        obtain ⟨n4, en4⟩ : ∃ n4, n4 = t.length := ⟨_, rfl⟩
        replace ev4 : v4 = .slice A4 n4 c4 := by rw [en4]; exact ev4
        subst ev4
        have hk4 := Keeps.of_grown hg4 (fun j => j = r) (fun j hj => by injection hj with hj; exact hj.symm)
        obtain ⟨hB5, hT5⟩ := HB3.out.took (s' := s4) hr4 hk4 HG4.out ho4 en4.symm (by rw [en4]; omega)
        obtain ⟨⟨-, q1, -⟩, -, p1, -⟩ := five_cells (HB3.out.step (s' := s4) hr4 hk4 HG4.out).b7
        obtain ⟨w5, ew5⟩ : ∃ w5, w5 = w4.setCell ⟨g7, 1, none⟩ (.slice A4 n4 c4) := ⟨_, rfl⟩
        rw [← ew5] at hB5 hT5
        have HB5 := Lib.hid hB5
        have HT5 := Lib.hid hT5
        have EW5 := Lib.hid ew5
        have EN4 := Lib.hid en4
        clear hB5 hT5 ew5 en4 ho4 hr4 hg4 hk4 f1 f2 x0 x1 x2 x3 x4 z0 z1 z2 z3 z4 TK HB3 d0 d1 d2 d3 d4 y0 y1 y2 y3 y4 wN
        go_wp2_with (fail)
        rw [← EW5.out]
        clear q1 p1 EW5
        obtain ⟨E4, eE4⟩ : ∃ E4, E4 = s4.err := ⟨_, rfl⟩
        have HE4 := Lib.hid eE4; clear eE4
        have hb2 : Hid (s2.err = 0 → ¬ mostN K < N) := Lib.hid (fun h => by have := hN.out; rw [← EM.out]; intro h2; exact this ⟨by rw [HE2.out]; exact h, h2⟩)
        refine (Rerr_e r s4 E4 w5 HB5.out.es.rd HE4.out.symm).mono ?_
        rintro e w5' ⟨rfl, rfl⟩
        obtain ⟨⟨d0, d1, d2, d3, d4⟩, y0, y1, y2, y3, y4⟩ := five_cells HB5.out.es.b4
        obtain ⟨⟨x0, x1, x2, x3, x4⟩, z0, z1, z2, z3, z4⟩ := five_cells HB5.out.b7
        by_cases h4 : E4 = 0
        · subst h4
          have hR4 : Hid (R = if Ev.may ⟨K, t, 0, 0, 0⟩ = false then (3, ev0, s4) else (0, ⟨K, t, 0, 0, 0⟩, s4)) := Lib.hid (by
            have h2 : s2.err = 0 := by
              by_cases hh : s2.err = 0
              · exact hh
              · have := takeR_err (s := s2) (N : Int) hh
                rw [ET.out] at this
                injection this with _ e2
                have := HE4.out
                rw [e2] at this
                exact this.symm
            rw [hRt.out]
            simp only [EB.out, ET.out]
            rw [if_neg (by simpa using h2), if_neg (hb2.out h2), if_neg (by rw [← HE4.out]; simp)])
          have hmay : Ev.may ⟨(K : Int), t, 0, 0, 0⟩ = mayB (K : Int) 0 0 0 n4 := by rw [Ev.may, EN4.out]
          obtain ⟨M4, eM4⟩ : ∃ M4, M4 = mayB (K : Int) 0 0 0 n4 := ⟨_, rfl⟩
          rw [← eM4] at hmay
          have HM := Lib.hid hmay; clear hmay
          go_wp2_with (fail)
          refine (May_c (K : Int) 0 0 0 A4 n4 c4 w5).mono ?_
          rintro e w6 ⟨rfl, hb6⟩
          rw [← eM4]
          have HB6 := Lib.hid (HB5.out.below hb6)
          have HT6 := Lib.hid (HT5.out.frame (w' := w6) (fun j _ hj => hb6.block j hj))
          clear hb6 eM4 HB5 HT5 d0 d1 d2 d3 d4 y0 y1 y2 y3 y4 x0 x1 x2 x3 x4 z0 z1 z2 z3 z4
          obtain ⟨⟨d0, d1, d2, d3, d4⟩, y0, y1, y2, y3, y4⟩ := five_cells HB6.out.es.b4
          obtain ⟨⟨x0, x1, x2, x3, x4⟩, z0, z1, z2, z3, z4⟩ := five_cells HB6.out.b7
          cases M4 with
          | false =>
            have hR : R = (3, ev0, s4) := by rw [hR4.out, HM.out, if_pos rfl]
            have HR := Lib.hid hR; clear hR
            go_wp2_with (fail)
            refine bodyPost_ret (v := .tuple #[.agg #[.int .i64 0, .slice none 0 0, .int .i64 0, .int .i64 0, .int .i64 0], .int .i64 3]) (by simp [results, Try.results77, go_sem, d0, d1, d2, d3, d4]) rfl (HB6.out.es.ends ⟨0, none, 0, 0, 0, 0, 0⟩ 3 _ HR.out (fun h => by cases h))
          | true =>
            have hR : R = (0, ⟨K, t, 0, 0, 0⟩, s4) := by rw [hR4.out, HM.out, if_neg (by decide)]
            have HR := Lib.hid hR; clear hR
            go_wp2_with (fail)
            refine bodyPost_ret (v := .tuple #[.agg #[.int .i64 (K : Int), .slice A4 n4 c4, .int .i64 0, .int .i64 0, .int .i64 0], .int .i64 0]) (by simp [results, Try.results77, go_sem, d0, d1, d2, d3, d4]) rfl (HB6.out.es.ends ⟨(K : Int), A4, n4, c4, 0, 0, 0⟩ 0 _ HR.out (fun _ => ⟨rfl, rfl, rfl, rfl, HT6.out⟩))
        · have hR : R = (E4, ev0, s4) := by
            rw [hRt.out]
            simp only [EB.out, ET.out]
            by_cases h2 : s2.err = 0
            · rw [if_neg (by simpa using h2), if_neg (hb2.out h2), if_pos (by rw [← HE4.out]; exact h4), ← HE4.out]
            · have := takeR_err (s := s2) (N : Int) h2
              rw [ET.out] at this
              injection this with _ e2
              rw [if_pos h2, HE4.out, e2]
          have HR := Lib.hid hR; clear hR
          have e0 : ((E4 : Int) != 0) = true := by rw [bne_iff_ne]; omega
          have H4 := Lib.hid h4; clear h4
          go_wp2_with (fail)
          refine (Rerr_e r s4 E4 w5 HB5.out.es.rd HE4.out.symm).mono ?_
          rintro e w5' ⟨rfl, rfl⟩
          go_wp2_with (fail)
          refine bodyPost_ret (v := .tuple #[.agg #[.int .i64 0, .slice none 0 0, .int .i64 0, .int .i64 0, .int .i64 0], .int .i64 (E4 : Int)]) (by simp [results, Try.results77, go_sem, d0, d1, d2, d3, d4]) rfl (HB5.out.es.ends ⟨0, none, 0, 0, 0, 0, 0⟩ E4 _ HR.out (fun h => absurd h H4.out))
end Go.Proofs.Ytgnciejbhaebeaa

/- What keys.numbers.event answers: numbers. Conditions: a reader. -/
namespace Go.Proofs.Ytgnciejbhaebeaa
open Go Go.RowKit

set_option maxRecDepth 100000 in
set_option maxHeartbeats 4000000 in
theorem event_n (f : Bool) (r : Nat) (s : RS) (w : World) (h : Rdr w r s) (hA : ∀ a, s.gA = some a → a.block < w.heap.size) (hyp : ¬ ((getR f s 1).2.err = 0 ∧ ((getR f s 1).1 < 1 ∨ 4 < (getR f s 1).1)) ∧ ¬ ((getR f s 1).1 = 1 ∨ (getR f s 1).1 = 2)) : Calls Try.prog 77 #[.agg #[.bool f], .pointer (some ⟨r, 0, none⟩)] w (EvQ w r (evR f s)) := by
  have HYP := Lib.hid hyp; clear hyp
  obtain ⟨R, eR⟩ : ∃ R, R = evR f s := ⟨_, rfl⟩
  rw [← eR]
  have ER := Lib.hid eR; clear eR
  obtain ⟨wa, ewa⟩ : ∃ wa, wa = (w.alloc (.cells #[.bool f] 111)).alloc (.cells #[.int .i64 0, .slice none 0 0, .int .i64 0, .int .i64 0, .int .i64 0] 36) := ⟨_, rfl⟩
  obtain ⟨g2, eg2⟩ : ∃ g2, g2 = w.heap.size := ⟨_, rfl⟩
  obtain ⟨g4, eg4⟩ : ∃ g4, g4 = g2 + 1 := ⟨_, rfl⟩
  have hs : EvS w r g2 g4 f s wa := by
    have hb : Below w.heap.size w wa := by rw [ewa]; exact ((Below.refl _ _).alloc (Nat.le_refl _) _).alloc (by simp) _
    have hl := h.lt
    refine ⟨h.below hb, ?_, ?_, ?_, ?_, ?_⟩
    · rw [ewa, eg2]; exact heap2_old w _ _
    · rw [ewa, eg4, eg2]; exact heap2_new w _ _
    · rw [ewa]; exact ((Keeps.refl _ w).alloc _).alloc _
    · omega
    · rw [eg2]; exact hA
  have HS := Lib.hid hs
  have EWA := Lib.hid ewa
  have EG2 := Lib.hid eg2
  have EG4 := Lib.hid eg4
  clear hs ewa eg2 eg4 h hA
  have hku := getR_u64 f s 1
  have hkz := getR_zero (f := f) (s := s) (z := 1)
  have hkg := (getR_b f s 1).2
  obtain ⟨K, s1, eA⟩ : ∃ K s1, getR f s 1 = (K, s1) := ⟨_, _, rfl⟩
  rw [eA] at hku hkz hkg
  have hku : U64 K := hku
  have HKZ : Hid (s1.err ≠ 0 → K = 0) := Lib.hid hkz
  have HKG : Hid (s1.gA = s.gA) := Lib.hid hkg
  have EA := Lib.hid eA
  clear hkz eA hkg
  go_enter Try.func77, Try.ntmps77
  go_wp2_with (fail)
  rw [← EWA.out, ← EG2.out, ← EG4.out]
  refine (get_e f r s s1 1 K wa HS.out.rd (by decide) EA.out).mono ?_
  rintro e w1 ⟨rfl, hr1, hk1⟩
  have HS1 := Lib.hid (HS.out.step hr1 hk1 HKG.out)
  clear hr1 hk1 HS EWA EG2 EG4
  have hlow := HS1.out.lo
  have c2 := HS1.out.c2
  obtain ⟨⟨d0, d1, d2, d3, d4⟩, y0, y1, y2, y3, y4⟩ := five_cells HS1.out.b4
  have hyp := HYP.out
  rw [EA.out] at hyp
  obtain ⟨hP, h12'⟩ : ¬ (s1.err = 0 ∧ (K < 1 ∨ 4 < K)) ∧ ¬ (K = 1 ∨ K = 2) := hyp
  have h12 := Lib.hid h12'; clear h12'
  have hK : (s1.err = 0 ∧ 1 ≤ K ∧ K ≤ 4) ∨ (s1.err ≠ 0 ∧ K = 0) := by
    by_cases he : s1.err = 0
    · left; have : ¬ (K < 1 ∨ 4 < K) := fun h => hP ⟨he, h⟩; exact ⟨he, by omega⟩
    · right; exact ⟨he, HKZ.out he⟩
  have HK := Lib.hid hK
  clear hP
  go_upto_region 2 with (fail)
  go_cut [26] (fun s26 wx => s26 = .bool false ∧ w1 = wx)
  case first =>
    go_wp2_with (fail)
    obtain ⟨E, eE⟩ : ∃ E, E = s1.err := ⟨_, rfl⟩
    rw [← eE] at hK
    refine (Rerr_e r s1 E w1 HS1.out.rd eE.symm).mono ?_
    clear eE
    rintro e w1' ⟨rfl, rfl⟩
    rcases hK with ⟨rfl, k1, k4⟩ | ⟨hE, rfl⟩
    · have j1 : decide ((K : Int) < 1) = false := decide_eq_false (by omega)
      have j4 : decide ((4 : Int) < (K : Int)) = false := decide_eq_false (by omega)
      clear k1 k4
      go_wp2_with (fail)
      go_meet
      exact ⟨rfl, rfl⟩
    · have e0 : ((E : Int) == 0) = false := by rw [beq_eq_false_iff_ne]; omega
      clear hE
      go_wp2_with (fail)
      go_meet
      exact ⟨rfl, rfl⟩
  case rest =>
    obtain ⟨rfl, rfl⟩ := hcut
    clear hK
    have hK4 : K ≤ 4 := by have := HK.out; omega
    have wK := i64_w (n := K) (by unfold U63; omega)
    obtain ⟨w2, ew2⟩ : ∃ w2, w2 = w1.alloc (.cells #[.int .i64 (K : Int), .slice none 0 0, .int .i64 0, .int .i64 0, .int .i64 0] 36) := ⟨_, rfl⟩
    obtain ⟨g7, eg7⟩ : ∃ g7, g7 = w1.heap.size := ⟨_, rfl⟩
    have hB2 : EvB w r g2 g4 g7 f s1 (.int .i64 (K : Int)) (.slice none 0 0) (.int .i64 0) (.int .i64 0) (.int .i64 0) w2 := by
      refine ⟨HS1.out.step ?_ ?_ rfl, ?_, ?_⟩
      · rw [ew2]; exact HS1.out.rd.below ((Below.refl _ _).alloc (Nat.le_refl _) _)
      · rw [ew2]; exact (Keeps.refl _ w1).alloc _
      · rw [ew2, eg7]; exact heap_alloc_new w1 _
      · rw [eg7]; exact heap_lt HS1.out.b4
    have HB2 := Lib.hid hB2
    have EW2 := Lib.hid ew2
    have EG7 := Lib.hid eg7
    clear ew2 eg7 hB2 c2 d0 d1 d2 d3 d4 y0 y1 y2 y3 y4
    go_wp2_with (fail)
    rw [← EW2.out, ← EG7.out]
    refine (most_c (K : Int) w2).mono ?_
    rintro e w2' ⟨rfl, rfl⟩
    clear EW2 EG7 HS1
    have h12n := h12.out
    have hMI : mostI (K : Int) = -1 := by
      unfold mostI
      rw [if_neg (by omega), if_neg (by omega)]
    rw [hMI]
    clear hMI
    obtain ⟨X, s2, eX⟩ : ∃ X s2, getR f s1 1 = (X, s2) := ⟨_, _, rfl⟩
    obtain ⟨Y, s3, eY⟩ : ∃ Y s3, getR f s2 1 = (Y, s3) := ⟨_, _, rfl⟩
    obtain ⟨Z, s4, eZ⟩ : ∃ Z s4, (if K = 3 then getR f s3 1 else (0, s3)) = (Z, s4) := ⟨_, _, rfl⟩
    have hXu := getR_lt eX
    have hYu := getR_lt eY
    have hZu : U64 Z := by
      by_cases h3 : K = 3
      · rw [if_pos h3] at eZ; exact getR_lt eZ
      · rw [if_neg h3] at eZ; injection eZ with e1; rw [← e1]; unfold U64; omega
    have hg2 := getR_ga eX
    have hg3 := getR_ga eY
    have hg4 : s4.gA = s3.gA := by
      by_cases h3 : K = 3
      · rw [if_pos h3] at eZ; exact getR_ga eZ
      · rw [if_neg h3] at eZ; injection eZ with _ e2; rw [e2]
    have hRt : Hid (R = if s4.err ≠ 0 then (s4.err, ev0, s4) else if 255 < X ∨ 255 < Y ∨ 255 < Z then (3, ev0, s4) else if Ev.may ⟨K, [], X, Y, Z⟩ = false then (3, ev0, s4) else (0, ⟨K, [], X, Y, Z⟩, s4)) := Lib.hid (by
      rcases HK.out with ⟨h1, h2, h3⟩ | ⟨h1, h2⟩
      · rw [ER.out, evR, EA.out, if_neg (by simpa using h1), if_neg (by simp only; omega), if_neg (by simp only; omega)]
        simp only [eX, eY, eZ]
      · have q1 := getR_err (f := f) 1 h1
        rw [eX] at q1
        injection q1 with q1 q2
        rw [q2, getR_err (f := f) 1 h1] at eY
        injection eY with q3 q4
        rw [if_neg (by omega)] at eZ
        injection eZ with q5 q6
        rw [← q6, ← q4, if_pos h1, ER.out, evR, EA.out, if_pos h1])
    have EX := Lib.hid eX
    have EY := Lib.hid eY
    have EZ := Lib.hid eZ
    have HG2 := Lib.hid hg2
    have HG3 := Lib.hid hg3
    have HG4 := Lib.hid hg4
    clear eX eY eZ hg2 hg3 hg4
    clear h12n
    have c2 := HB2.out.es.c2
    go_upto_region 11 with (fail)
    have hrd : Hid (Rdr w2.drew r s1) := Lib.hid (HB2.out.es.rd.drewN 1)
    have hBd : Hid (EvB w r g2 g4 g7 f s1 (.int .i64 (K : Int)) (.slice none 0 0) (.int .i64 0) (.int .i64 0) (.int .i64 0) w2.drew) := Lib.hid (HB2.out.below (below_drewN (Below.refl _ _) 1))
    go_region_held3 (fun w' => w'.cell? ⟨g2, 0, none⟩ = some (.bool f)) (first | exact c2 | (with_reducible assumption)) (first
      | (go_at_call 75; (with_reducible refine (get_e f r s1 s2 1 X w2.drew hrd.out (by decide) EX.out).mono ?_); rintro _ w3 ⟨rfl, hr3, hk3⟩; have HB3 := Lib.hid (hBd.out.step hr3 hk3 HG2.out); have c3 := HB3.out.es.c2; clear hr3 hk3)
      | (go_at_call 75; (with_reducible refine (get_e f r s2 s3 1 Y w3 HB3.out.es.rd (by decide) EY.out).mono ?_); rintro _ w4 ⟨rfl, hr4, hk4⟩; have HB4 := Lib.hid (HB3.out.step hr4 hk4 HG3.out); have c4 := HB4.out.es.c2; clear hr4 hk4))
    clear HB2 hBd hrd HB3 c2 c3
    obtain ⟨⟨x0, x1, x2, x3, x4⟩, z0, z1, z2, z3, z4⟩ := five_cells HB4.out.b7
    go_upto_if 62 with (fail)
    go_cut [12] (fun s12 wx => s12 = .int .u64 (Z : Int) ∧ Hid (EvB w r g2 g4 g7 f s4 (.int .i64 (K : Int)) (.slice none 0 0) (.int .i64 0) (.int .i64 0) (.int .i64 0) wx))
    case first =>
      by_cases h3 : K = 3
      · subst h3
        have eZ3 : Hid (getR f s3 1 = (Z, s4)) := Lib.hid (by have := EZ.out; rw [if_pos rfl] at this; exact this)
        go_wp2_with (fail)
        refine (get_e f r s3 s4 1 Z w4 HB4.out.es.rd (by decide) eZ3.out).mono ?_
        rintro e w5 ⟨rfl, hr5, hk5⟩
        have HB5 := Lib.hid (HB4.out.step hr5 hk5 HG4.out)
        clear hr5 hk5
        go_wp2_with (fail)
        go_meet
        exact ⟨rfl, HB5⟩
      · have e3 : ((K : Int) == 3) = false := by rw [beq_eq_false_iff_ne]; omega
        have hz : Hid (Z = 0 ∧ s4 = s3) := Lib.hid (by have := EZ.out; rw [if_neg h3] at this; injection this with a b; exact ⟨a.symm, b.symm⟩)
        clear h3
        go_wp2_with (fail)
        go_meet
        exact ⟨by rw [hz.out.1]; rfl, by rw [hz.out.2]; exact HB4⟩
    case rest =>
      obtain ⟨rfl, HB5⟩ := hcut
      clear HB4 c4 x0 x1 x2 x3 x4 z0 z1 z2 z3 z4
      by_cases hbig : 255 < X ∨ 255 < Y ∨ 255 < Z
      · have HBG := Lib.hid hbig
        go_upto_if 70 with (refine wpList_max3 _ rfl (.tmp 66) (.tmp 67) (.tmp 68) _ rfl X Y Z rfl rfl rfl ?_; intro Mx hMx; have l1 : decide ((255 : Int) < (Mx : Int)) = true := decide_eq_true (by omega); have l2 : decide (255 < Mx) = true := decide_eq_true (by omega); clear hMx)
        clear hbig
        obtain ⟨⟨x0, x1, x2, x3, x4⟩, z0, z1, z2, z3, z4⟩ := five_cells HB5.out.b7
        obtain ⟨w6, ew6⟩ : ∃ w6, w6 = ((wc.setCell ⟨g7, 2, none⟩ (.int .i64 255)).setCell ⟨g7, 3, none⟩ (.int .i64 255)).setCell ⟨g7, 4, none⟩ (.int .i64 255) := ⟨_, rfl⟩
        have hB6 := HB5.out.set234 (x := .int .i64 255) (y := .int .i64 255) (z := .int .i64 255)
        rw [← ew6] at hB6
        have HB6 := Lib.hid hB6
        have EW6 := Lib.hid ew6
        clear hB6 ew6 HB5
        go_wp2_with (fail)
        rw [← EW6.out]
        clear x0 x1 x2 x3 x4 z0 z1 z2 z3 z4 EW6
        obtain ⟨E4, eE4⟩ : ∃ E4, E4 = s4.err := ⟨_, rfl⟩
        have HE4 := Lib.hid eE4; clear eE4
        refine (Rerr_e r s4 E4 w6 HB6.out.es.rd HE4.out.symm).mono ?_
        rintro e w6' ⟨rfl, rfl⟩
        obtain ⟨⟨d0, d1, d2, d3, d4⟩, y0, y1, y2, y3, y4⟩ := five_cells HB6.out.es.b4
        obtain ⟨⟨x0, x1, x2, x3, x4⟩, z0, z1, z2, z3, z4⟩ := five_cells HB6.out.b7
        by_cases h4 : E4 = 0
        · subst h4
          obtain ⟨M4, eM4⟩ : ∃ M4, M4 = mayB (K : Int) 255 255 255 0 := ⟨_, rfl⟩
          have HM4 := Lib.hid eM4
          go_wp2_with (fail)
          refine (May_c (K : Int) 255 255 255 none 0 0 w6).mono ?_
          rintro e w7 ⟨rfl, hb7⟩
          rw [← eM4]
          have HB7 := Lib.hid (HB6.out.below hb7)
          clear hb7 eM4 HB6 d0 d1 d2 d3 d4 y0 y1 y2 y3 y4 x0 x1 x2 x3 x4 z0 z1 z2 z3 z4
          obtain ⟨⟨d0, d1, d2, d3, d4⟩, y0, y1, y2, y3, y4⟩ := five_cells HB7.out.es.b4
          obtain ⟨⟨x0, x1, x2, x3, x4⟩, z0, z1, z2, z3, z4⟩ := five_cells HB7.out.b7
          cases M4 with
          | false =>
            have hR : R = (3, ev0, s4) := by rw [hRt.out, if_neg (by rw [← HE4.out]; simp), if_pos HBG.out]
            have HR := Lib.hid hR; clear hR
            go_wp2_with (fail)
            refine bodyPost_ret (v := .tuple #[.agg #[.int .i64 0, .slice none 0 0, .int .i64 0, .int .i64 0, .int .i64 0], .int .i64 3]) (by simp [results, Try.results77, go_sem, d0, d1, d2, d3, d4]) rfl (HB7.out.es.ends ⟨0, none, 0, 0, 0, 0, 0⟩ 3 _ HR.out (fun h => by cases h))
          | true =>
            have := HM4.out
            rw [show mayB (K : Int) 255 255 255 0 = false from decide_eq_false (by unfold mayP; have := HK.out; have := h12.out; omega)] at this
            cases this
        · have hR : R = (E4, ev0, s4) := by rw [hRt.out, if_pos (by rw [← HE4.out]; exact h4), ← HE4.out]
          have HR := Lib.hid hR; clear hR
          have e0 : ((E4 : Int) != 0) = true := by rw [bne_iff_ne]; omega
          have H4 := Lib.hid h4; clear h4
          go_wp2_with (fail)
          refine (Rerr_e r s4 E4 w6 HB6.out.es.rd HE4.out.symm).mono ?_
          rintro e w6' ⟨rfl, rfl⟩
          go_wp2_with (fail)
          refine bodyPost_ret (v := .tuple #[.agg #[.int .i64 0, .slice none 0 0, .int .i64 0, .int .i64 0, .int .i64 0], .int .i64 (E4 : Int)]) (by simp [results, Try.results77, go_sem, d0, d1, d2, d3, d4]) rfl (HB6.out.es.ends ⟨0, none, 0, 0, 0, 0, 0⟩ E4 _ HR.out (fun h => absurd h H4.out))
      · have HBG := Lib.hid hbig
        go_upto_if 70 with (refine wpList_max3 _ rfl (.tmp 66) (.tmp 67) (.tmp 68) _ rfl X Y Z rfl rfl rfl ?_; intro Mx hMx; have l1 : decide ((255 : Int) < (Mx : Int)) = false := decide_eq_false (by omega); have l2 : decide (255 < Mx) = false := decide_eq_false (by omega); clear hMx)
        have hX : X ≤ 255 ∧ Y ≤ 255 ∧ Z ≤ 255 := by omega
        clear hbig
        obtain ⟨⟨x0, x1, x2, x3, x4⟩, z0, z1, z2, z3, z4⟩ := five_cells HB5.out.b7
        have wX := i64_w (n := X) (by unfold U63; omega)
        have wY := i64_w (n := Y) (by unfold U63; omega)
        have wZ := i64_w (n := Z) (by unfold U63; omega)
        clear hX
        obtain ⟨w6, ew6⟩ : ∃ w6, w6 = ((wc.setCell ⟨g7, 2, none⟩ (.int .i64 (X : Int))).setCell ⟨g7, 3, none⟩ (.int .i64 (Y : Int))).setCell ⟨g7, 4, none⟩ (.int .i64 (Z : Int)) := ⟨_, rfl⟩
        have hB6 := HB5.out.set234 (x := .int .i64 (X : Int)) (y := .int .i64 (Y : Int)) (z := .int .i64 (Z : Int))
        rw [← ew6] at hB6
        have HB6 := Lib.hid hB6
        have EW6 := Lib.hid ew6
        clear hB6 ew6 HB5
        go_wp2_with (fail)
        rw [← EW6.out]
        clear x0 x1 x2 x3 x4 z0 z1 z2 z3 z4 EW6
        obtain ⟨E4, eE4⟩ : ∃ E4, E4 = s4.err := ⟨_, rfl⟩
        have HE4 := Lib.hid eE4; clear eE4
        refine (Rerr_e r s4 E4 w6 HB6.out.es.rd HE4.out.symm).mono ?_
        rintro e w6' ⟨rfl, rfl⟩
        obtain ⟨⟨d0, d1, d2, d3, d4⟩, y0, y1, y2, y3, y4⟩ := five_cells HB6.out.es.b4
        obtain ⟨⟨x0, x1, x2, x3, x4⟩, z0, z1, z2, z3, z4⟩ := five_cells HB6.out.b7
        by_cases h4 : E4 = 0
        · subst h4
          obtain ⟨M4, eM4⟩ : ∃ M4, M4 = mayB (K : Int) (X : Int) (Y : Int) (Z : Int) 0 := ⟨_, rfl⟩
          have HM4 := Lib.hid eM4
          go_wp2_with (fail)
          refine (May_c (K : Int) (X : Int) (Y : Int) (Z : Int) none 0 0 w6).mono ?_
          rintro e w7 ⟨rfl, hb7⟩
          rw [← eM4]
          have HB7 := Lib.hid (HB6.out.below hb7)
          clear hb7 eM4 HB6 d0 d1 d2 d3 d4 y0 y1 y2 y3 y4 x0 x1 x2 x3 x4 z0 z1 z2 z3 z4
          obtain ⟨⟨d0, d1, d2, d3, d4⟩, y0, y1, y2, y3, y4⟩ := five_cells HB7.out.es.b4
          obtain ⟨⟨x0, x1, x2, x3, x4⟩, z0, z1, z2, z3, z4⟩ := five_cells HB7.out.b7
          cases M4 with
          | false =>
            have hR : R = (3, ev0, s4) := by rw [hRt.out, if_neg (by rw [← HE4.out]; simp), if_neg HBG.out, if_pos (by rw [Ev.may]; exact HM4.out.symm)]
            have HR := Lib.hid hR; clear hR
            go_wp2_with (fail)
            refine bodyPost_ret (v := .tuple #[.agg #[.int .i64 0, .slice none 0 0, .int .i64 0, .int .i64 0, .int .i64 0], .int .i64 3]) (by simp [results, Try.results77, go_sem, d0, d1, d2, d3, d4]) rfl (HB7.out.es.ends ⟨0, none, 0, 0, 0, 0, 0⟩ 3 _ HR.out (fun h => by cases h))
          | true =>
            have hR : R = (0, ⟨K, [], X, Y, Z⟩, s4) := by rw [hRt.out, if_neg (by rw [← HE4.out]; simp), if_neg HBG.out, if_neg (by rw [Ev.may]; show ¬ mayB (K : Int) (X : Int) (Y : Int) (Z : Int) 0 = false; rw [← HM4.out]; decide)]
            have HR := Lib.hid hR; clear hR
            go_wp2_with (fail)
            refine bodyPost_ret (v := .tuple #[.agg #[.int .i64 (K : Int), .slice none 0 0, .int .i64 (X : Int), .int .i64 (Y : Int), .int .i64 (Z : Int)], .int .i64 0]) (by simp [results, Try.results77, go_sem, d0, d1, d2, d3, d4]) rfl (HB7.out.es.ends ⟨(K : Int), none, 0, 0, (X : Int), (Y : Int), (Z : Int)⟩ 0 _ HR.out (fun _ => ⟨rfl, rfl, rfl, rfl, rfl, Own.nil_ _ _ _, fun a ea => (by cases ea), Nat.zero_le _⟩))
        · have hR : R = (E4, ev0, s4) := by rw [hRt.out, if_pos (by rw [← HE4.out]; exact h4), ← HE4.out]
          have HR := Lib.hid hR; clear hR
          have e0 : ((E4 : Int) != 0) = true := by rw [bne_iff_ne]; omega
          have H4 := Lib.hid h4; clear h4
          go_wp2_with (fail)
          refine (Rerr_e r s4 E4 w6 HB6.out.es.rd HE4.out.symm).mono ?_
          rintro e w6' ⟨rfl, rfl⟩
          go_wp2_with (fail)
          refine bodyPost_ret (v := .tuple #[.agg #[.int .i64 0, .slice none 0 0, .int .i64 0, .int .i64 0, .int .i64 0], .int .i64 (E4 : Int)]) (by simp [results, Try.results77, go_sem, d0, d1, d2, d3, d4]) rfl (HB6.out.es.ends ⟨0, none, 0, 0, 0, 0, 0⟩ E4 _ HR.out (fun h => absurd h H4.out))
end Go.Proofs.Ytgnciejbhaebeaa

/- What keys.Decode answers: a batch read, or an error. Conditions: lengths that fit. -/
namespace Go.Proofs.Ytgnciejbhaebeaa
open Go Go.RowKit

theorem event_c (f : Bool) (r : Nat) (s : RS) (w : World) (h : Rdr w r s) (hA : ∀ a, s.gA = some a → a.block < w.heap.size) : Calls Try.prog 77 #[.agg #[.bool f], .pointer (some ⟨r, 0, none⟩)] w (EvQ w r (evR f s)) := by
  by_cases hP : (getR f s 1).2.err = 0 ∧ ((getR f s 1).1 < 1 ∨ 4 < (getR f s 1).1)
  · exact event_p f r s w h hA hP
  · by_cases h12 : (getR f s 1).1 = 1 ∨ (getR f s 1).1 = 2
    · exact event_t f r s w h hA ⟨hP, h12⟩
    · exact event_n f r s w h hA ⟨hP, h12⟩
theorem evR_ga {f : Bool} {s : RS} : (evR f s).2.2.gA = s.gA := by
  have h := evR_g f s none
  have h2 : s = s.at s.gA := rfl
  have h3 := evR_g f s s.gA
  rw [← h2] at h3
  have := congrArg (fun p => p.2.2.gA) h3
  exact this
theorem evR_e {f : Bool} {s s' : RS} {er : Nat} {e : Ev} (h : evR f s = (er, e, s')) : s'.gA = s.gA := by
  have := evR_ga (f := f) (s := s)
  rw [h] at this
  exact this
theorem event_e (f : Bool) (r : Nat) (s s' : RS) (er : Nat) (ev : Ev) (w : World) (h : Rdr w r s) (hA : ∀ a, s.gA = some a → a.block < w.heap.size) (e : evR f s = (er, ev, s')) :
    Calls Try.prog 77 #[.agg #[.bool f], .pointer (some ⟨r, 0, none⟩)] w (EvQ w r (er, ev, s')) := by
  have := event_c f r s w h hA
  rw [e] at this
  exact this
theorem goR_succ {f : Bool} {n : Nat} {s s' : RS} {acc : List Ev} {er : Nat} {e : Ev} (h : evR f s = (er, e, s')) : goR f (n + 1) s acc = if er ≠ 0 then (er, [], s') else goR f n s' (acc ++ [e]) := by
  rw [goR, h]
theorem TxtO.ne_row {ok : Nat → Prop} {w : World} {A : Option Addr} {n c B k : Nat} {bs : List UInt8} {v : Value} {vs : List Value} (ht : TxtO ok w A n c bs) (hrow : w.ownsRow B 36 5 v k vs) (a : Addr) (hA : A = some a) : v.ownBlock ≠ some a.block := by
  intro e
  have h2 := ht.2.1
  unfold OwnB Own at h2
  rw [List.length_map, ht.1, hA] at h2
  rcases h2.2 with ⟨hv, _⟩ | ⟨g', _, cur, hv, _, hg, _⟩
  · cases hv
  · injection hv with hv _ _
    injection hv with hv
    subst hv
    rcases hrow.2 with ⟨hv, _⟩ | ⟨g1, cap, cur1, hv, _, hg1, _⟩
    · rw [hv] at e; cases e
    · rw [hv] at e
      injection e with e
      have e' : g1 = g' := e
      subst e'
      rw [hg] at hg1
      injection hg1 with hg1
      injection hg1 with _ h6
      exact absurd h6 (by decide)
/-- One more event stands behind. -/
theorem EvsO.more {ok : Nat → Prop} {w w' : World} {v v' : Value} {ds : List EvV} {es : List Ev} {d : EvV} {e : Ev} (h : EvsO ok w v ds es) (hd : EvO ok w d e) (ho : OwnV w' 0 v' (ds ++ [d])) (hg : w.grownBy w' v.ownBlock) (hv : v'.ownBlock = v.ownBlock ∨ v'.ownBlock = some w.heap.size) (hok : ok w.heap.size) :
    EvsO ok w' v' (ds ++ [d]) (es ++ [e]) := by
  have hl := h.len
  have txt : ∀ (d : EvV) (e : Ev), EvO ok w d e → EvO ok w' d e := by
    intro d e hd
    obtain ⟨q0, q1, q2, q3, t1, t2, t3, t4⟩ := hd
    refine ⟨q0, q1, q2, q3, t1, Own.frameK t2 (fun g eg => ?_), t3, t4⟩
    cases hA : d.A with
    | none => rw [hA] at eg; cases eg
    | some a =>
      rw [hA] at eg
      injection eg with eg
      subst eg
      have hlt : a.block < w.heap.size := (TxtO.lt ⟨t1, t2, t3, t4⟩) a hA
      exact hg.block _ hlt (fun e' => TxtO.ne_row ⟨t1, t2, t3, t4⟩ h.row a hA e'.symm)
  refine ⟨by simp [hl], ho, fun k ek => ?_, fun i h1 h2 => ?_⟩
  · rcases hv with hv | hv
    · rw [hv] at ek; exact h.ok_ k ek
    · rw [hv] at ek; injection ek with ek; rw [← ek]; exact hok
  · rcases Nat.lt_or_ge i ds.length with hi | hi
    · rw [List.getElem_append_left hi, List.getElem_append_left (by omega)]
      exact txt _ _ (h.each i hi (by omega))
    · simp only [List.length_append, List.length_cons, List.length_nil] at h1
      obtain rfl : i = ds.length := by omega
      have e1 : (ds ++ [d])[ds.length] = d := by simp
      have e2 : (es ++ [e])[ds.length] = e := by simp [hl]
      rw [e1, e2]
      exact txt d e hd
/-- The blocks of what Decode answers. -/
def DOk (w0 : World) (r g7 : Nat) (gA : Option Addr) (j : Nat) : Prop := w0.heap.size ≤ j ∧ j ≠ r ∧ j ≠ g7 ∧ ∀ a, gA = some a → j ≠ a.block
/-- The state of Decode's loop: the reader, the version's box, the events so far. -/
structure DeS (w0 : World) (r g7 : Nat) (gA : Option Addr) (f : Bool) (s : RS) (v : Value) (acc : List Ev) (w : World) : Prop where
  rd : Rdr w r s
  b7 : w.heap[g7]? = some (.cells #[.bool f] 111 (0, 0))
  ev : ∃ ds, EvsO (DOk w0 r g7 gA) w v ds acc
  bel : Below w0.heap.size w0 w
  lo : w0.heap.size ≤ g7 ∧ g7 < r
  ga : s.gA = gA
  gl : ∀ a, gA = some a → a.block < w.heap.size ∧ w0.heap.size ≤ a.block
section
variable {w0 w w' : World} {r g7 : Nat} {gA : Option Addr} {f : Bool} {s s' : RS} {v : Value} {acc : List Ev}
theorem DeS.c7 (h : DeS w0 r g7 gA f s v acc w) : w.cell? ⟨g7, 0, none⟩ = some (.bool f) := by rw [heap_cell h.b7]; rfl
theorem DeS.step (h : DeS w0 r g7 gA f s v acc w) (hr : Rdr w' r s') (hk : Keeps (fun j => j = r) w w') (hg : s'.gA = s.gA) : DeS w0 r g7 gA f s' v acc w' := by
  obtain ⟨ds, he⟩ := h.ev
  have hl := h.lo
  exact ⟨hr, (hk.block g7 (heap_lt h.b7) (by omega)).trans h.b7, ⟨ds, he.frame (fun k h1 h2 => hk.block k h2 h1.2.1)⟩, h.bel.trans (hk.below (fun j hj => ⟨Nat.lt_of_lt_of_le hj h.bel.size, by omega⟩)), h.lo, hg.trans h.ga, fun a ha => ⟨Nat.lt_of_lt_of_le (h.gl a ha).1 hk.size, (h.gl a ha).2⟩⟩
theorem DeS.below (h : DeS w0 r g7 gA f s v acc w) (hb : Below w.heap.size w w') : DeS w0 r g7 gA f s v acc w' := h.step (h.rd.below hb) (Keeps.of_below hb _ (fun _ hk _ => hk)) rfl
theorem DeS.fresh (h : DeS w0 r g7 gA f s v acc w) {j : Nat} (hj : w.heap.size ≤ j) : DOk w0 r g7 gA j := by
  have h1 := h.bel.size
  have h2 := h.rd.lt
  have h3 := heap_lt h.b7
  exact ⟨by omega, by omega, by omega, fun a ha => by have := h.gl a ha; omega⟩
theorem DeS.more (h : DeS w0 r g7 gA f s v acc w) {ds : List EvV} {d : EvV} {e : Ev} {v' : Value} (hds : EvsO (DOk w0 r g7 gA) w v ds acc) (hd : EvO (DOk w0 r g7 gA) w d e) (ho : OwnV w' 0 v' (ds ++ [d])) (hg : w.grownBy w' v.ownBlock) (hv : v'.ownBlock = v.ownBlock ∨ v'.ownBlock = some w.heap.size) :
    DeS w0 r g7 gA f s v' (acc ++ [e]) w' := by
  have hk : Keeps (fun j => v.ownBlock = some j) w w' := Keeps.of_grown hg _ (fun j hj => hj)
  have hl := h.lo
  refine ⟨h.rd.keeps hk (fun e' => (hds.ok_ r e').2.1 rfl) (fun a ha _ e' => (hds.ok_ _ e').2.2.2 a (by rw [← h.ga]; exact ha) rfl), (hk.block g7 (heap_lt h.b7) (fun e' => (hds.ok_ g7 e').2.2.1 rfl)).trans h.b7,
    ⟨_, hds.more hd ho hg hv (h.fresh (Nat.le_refl _))⟩, h.bel.trans (hk.below (fun j hj => ⟨Nat.lt_of_lt_of_le hj h.bel.size, fun e' => by have := (hds.ok_ j e').1; omega⟩)), h.lo, h.ga, fun a ha => ⟨Nat.lt_of_lt_of_le (h.gl a ha).1 hk.size, (h.gl a ha).2⟩⟩
end
end Go.Proofs.Ytgnciejbhaebeaa
