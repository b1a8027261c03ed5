/- Parts one behind the other: What is put as data is got as it was: plain data; What is put as data, in any version, is got as it was, and is short enough: plain data; How a law's argument is opened: an event by value; a slice of events; How a law's argument is opened: a list of items; How a law's argument is opened: data with a part, by value; An array of 32 bytes by value, opened: its bytes. Conditions: as told at each. -/
import Derived.Test.YtcffinkkfdfcaaaPB22
import Derived.Test.YtcffinkkfdfcaaaPB21
import Derived.Test.YtcffinkkfdfcaaaPB13
import Derived.Test.YtcffinkkfdfcaaaPB1
import Derived.Test.YtcffinkkfdfcaaaPB11
import Derived.Deep.Fields
import Derived.Test.YtcffinkkfdfcaaaPB2
import Derived.WideKeyArr2

set_option linter.unusedVariables false
set_option linter.unusedSimpArgs false
/- What is put as data is got as it was: plain data. Conditions: data's ranges. -/
namespace Go.Proofs.Ytcffinkkfdfcaaa
open Go Go.RowKit

/-- A reader that has run through: the number. -/
theorem varR_all {n : Nat} (h : U64 n) : (varR ⟨varL n, 0, 0, none⟩).1 = n ∧ endR (varR ⟨varL n, 0, 0, none⟩).2 = 0 := by
  have := (varR_laid (s := ⟨varL n, 0, 0, none⟩) (n := n) (more := []) rfl h (by simp)).1
  rw [this]
  refine ⟨rfl, ?_⟩
  unfold endR
  simp
theorem whole_var {k : Int} {cr : Bool} {n : Nat} (h : U64 n) : whB (.cons k cr false (varL n) .nil .nil) = true ∧ whN (.cons k cr false (varL n) .nil .nil) = n := by
  obtain ⟨h1, h2⟩ := varR_all h
  refine ⟨?_, h1⟩
  unfold whB
  show (!false && decide (endR (varR ⟨varL n, 0, 0, none⟩).2 = 0)) = true
  rw [h2]; rfl
theorem nxS_there {s : FS} {m : Bool} (h0 : s.err = 0) (hb : nxB s = true) : nxS s m = ⟨s.l, s.at_ + 1, 0⟩ := by
  unfold nxS
  rw [if_neg (by rw [hb]; simp), h0]
theorem nxS_away {s : FS} (h0 : s.err = 0) : nxS s false = ⟨s.l, s.at_ + 1, 0⟩ := by
  unfold nxS
  rw [if_neg (by simp), h0]
theorem nu_there {f : Fo} {i : Nat} {k : Int} {cr : Bool} {n : Nat} {m : Bool} (hb : hasI ((i + 1 : Nat) : Int) f = true) (hg : getI ((i + 1 : Nat) : Int) f = .cons k cr false (varL n) .nil .nil) (hu : U64 n) (hm : m = true ∨ n ≠ 0) :
    nuN ⟨f, i, 0⟩ = n ∧ nuS ⟨f, i, 0⟩ m = ⟨f, i + 1, 0⟩ := by
  have hB : nxB ⟨f, i, 0⟩ = true := by unfold nxB; rw [if_pos rfl]; exact hb
  have hI : nxI ⟨f, i, 0⟩ = .cons k cr false (varL n) .nil .nil := by unfold nxI; rw [if_pos rfl]; exact hg
  obtain ⟨h1, h2⟩ := whole_var (k := k) (cr := cr) hu
  have hn : nuN ⟨f, i, 0⟩ = n := by rw [nuN_some hB, hI, h2]
  refine ⟨hn, ?_⟩
  obtain ⟨e1, e2⟩ := varR_all hu
  unfold nuS
  rw [if_pos hB, nxS_there rfl hB, hn, hI]
  show badS ⟨f, i + 1, 0⟩ (false || (decide (endR (varR ⟨varL n, 0, 0, none⟩).2 ≠ 0) || (!m && decide (n = 0)))) = _
  rw [e2]
  rcases hm with rfl | hm
  · rfl
  · rw [decide_eq_false hm]; cases m <;> rfl
theorem nu_away {f : Fo} {i : Nat} (hb : hasI ((i + 1 : Nat) : Int) f = false) : nuN ⟨f, i, 0⟩ = 0 ∧ nuS ⟨f, i, 0⟩ false = ⟨f, i + 1, 0⟩ := by
  have hB : nxB ⟨f, i, 0⟩ = false := by unfold nxB; rw [if_pos rfl]; exact hb
  refine ⟨nuN_none hB, ?_⟩
  unfold nuS
  rw [if_neg (by rw [hB]; simp), nxS_away rfl]
theorem part_pick (p : PartD) : pickT (kindsL 4) (partF p) = (0, partF p) := by
  have h : ∀ z : Int, z = 1 ∨ z = 2 ∨ z = 3 ∨ z = 4 → z ∈ kindsL 4 := by
    rintro z (rfl | rfl | rfl | rfl) <;> decide
  unfold pickT partF
  simp [critF, pickF, h]
theorem part_back {p : PartD} (h1 : p.id < 4294967296) (h2 : partP p.ix p.ct p.bs.length) : (ptP5 (partF p) 0).err = 0 ∧ ptD (partF p) 0 = p := by
  obtain ⟨q1, q2, q3, q4, q5, -⟩ := h2
  have s1 : ptP1 (partF p) 0 = ⟨partF p, 0, 0⟩ := by
    unfold ptP1 knS
    rw [if_neg (by simp), part_pick]
  obtain ⟨a1, a2⟩ := nu_there (f := partF p) (i := 0) (k := 1) (cr := true) (n := p.id) (m := true) (by simp [partF, hasI]) (by simp [partF, getI]) (by unfold U64; omega) (.inl rfl)
  obtain ⟨b1, b2⟩ := nu_there (f := partF p) (i := 1) (k := 2) (cr := true) (n := p.ix.toNat) (m := true) (by simp [partF, hasI]) (by simp [partF, getI]) (by unfold U64; omega) (.inl rfl)
  obtain ⟨c1, c2⟩ := nu_there (f := partF p) (i := 2) (k := 3) (cr := true) (n := p.ct.toNat) (m := true) (by simp [partF, hasI]) (by simp [partF, getI]) (by unfold U64; omega) (.inl rfl)
  have s2 : ptP2 (partF p) 0 = ⟨partF p, 1, 0⟩ := by rw [ptP2, s1, a2]
  have s3 : ptP3 (partF p) 0 = ⟨partF p, 2, 0⟩ := by rw [ptP3, s2, b2]
  have s4 : ptP4 (partF p) 0 = ⟨partF p, 3, 0⟩ := by rw [ptP4, s3, c2]
  have n1 : nuN (ptP1 (partF p) 0) = p.id := by rw [s1, a1]
  have n2 : nuN (ptP2 (partF p) 0) = p.ix.toNat := by rw [s2, b1]
  have n3 : nuN (ptP3 (partF p) 0) = p.ct.toNat := by rw [s3, c1]
  have hB : nxB (ptP4 (partF p) 0) = true := by rw [s4]; simp [nxB, partF, hasI]
  have hY : ptY (partF p) 0 = .cons 4 true false p.bs .nil .nil := by rw [ptY, s4]; simp [nxI, partF, getI]
  refine ⟨pt_good hB ?_, ?_⟩
  · rw [hY, n1, n2, n3]
    unfold ptBad
    show (false || _) = false
    rw [decide_eq_false (by omega), decide_eq_false (by omega), decide_eq_false (by omega)]
    rfl
  · unfold ptD
    rw [hY, n1, n2, n3]
    show (⟨p.id, (p.ix.toNat : Int), (p.ct.toNat : Int), p.bs⟩ : PartD) = p
    rw [Int.toNat_of_nonneg (by omega), Int.toNat_of_nonneg (by omega)]
/-- What data's items are, kind by kind. -/
theorem hasI_app (x : Int) (g : Fo) : ∀ f : Fo, hasI x (f.app g) = (hasI x f || hasI x g)
  | .nil => rfl
  | .cons k cr li bs sub rest => by
    rw [Fo.app, hasI, hasI]
    split
    · rfl
    · exact hasI_app x g rest
theorem getI_app (x : Int) (g : Fo) : ∀ f : Fo, getI x (f.app g) = if hasI x f = true then getI x f else getI x g
  | .nil => by simp [Fo.app, hasI]
  | .cons k cr li bs sub rest => by
    rw [Fo.app, getI, hasI, getI]
    by_cases h : k = x
    · simp [h]
    · simp only [if_neg h]; exact getI_app x g rest
theorem d2_has (d : DataD) (x : Int) : hasI x (d2F d) = (decide (x = 1) || (decide (x = 2) && !decide (d.ec = 65535))) := by
  unfold d2F
  by_cases h : d.ec = 65535
  · simp [h, d1F, oneF, hasI, eq_comm]
  · simp [h, hasI_app, d1F, oneF, hasI, eq_comm]
theorem d3_has (d : DataD) (x : Int) : hasI x (d3F d) = (hasI x (d2F d) || (decide (x = 3) && !decide (d.ak = 0))) := by
  unfold d3F
  by_cases h : d.ak = 0
  · simp [h]
  · simp [h, hasI_app, oneF, hasI, eq_comm]
theorem d4_has (d : DataD) (x : Int) : hasI x (d4F d) = (hasI x (d3F d) || (decide (x = 4) && !decide (d.th = 0))) := by
  unfold d4F
  by_cases h : d.th = 0
  · simp [h]
  · simp [h, hasI_app, oneF, hasI, eq_comm]
theorem d5_has (d : DataD) (x : Int) : hasI x (d5F d) = (hasI x (d4F d) || (decide (x = 5) && d.has)) := by
  unfold d5F
  by_cases h : d.has = true
  · simp [h, hasI_app, hasI, eq_comm]
  · simp [h]
theorem d1_get (d : DataD) : getI 1 (d5F d) = .cons 1 true false (numL d.st 2) .nil .nil := by
  have e1 : getI 1 (d2F d) = .cons 1 true false (numL d.st 2) .nil .nil := by
    unfold d2F
    by_cases h : d.ec = 65535
    · simp [h, d1F, oneF, getI]
    · simp [h, getI_app, d1F, oneF, getI, hasI]
  have e2 : getI 1 (d3F d) = getI 1 (d2F d) := by
    unfold d3F
    by_cases h : d.ak = 0
    · simp [h]
    · simp [h, getI_app, d2_has]
  have e3 : getI 1 (d4F d) = getI 1 (d3F d) := by
    unfold d4F
    by_cases h : d.th = 0
    · simp [h]
    · simp [h, getI_app, d3_has, d2_has]
  have e4 : getI 1 (d5F d) = getI 1 (d4F d) := by
    unfold d5F
    by_cases h : d.has = true
    · simp [h, getI_app, d4_has, d3_has, d2_has]
    · simp [h]
  rw [e4, e3, e2, e1]
theorem d2_get (d : DataD) (hd : d.ec ≠ 65535) : getI 2 (d5F d) = .cons 2 false false (numL d.ec 2) .nil .nil := by
  have e1 : getI 2 (d2F d) = .cons 2 false false (numL d.ec 2) .nil .nil := by
    unfold d2F
    simp [hd, getI_app, d1F, oneF, getI, hasI]
  have e2 : getI 2 (d3F d) = getI 2 (d2F d) := by
    unfold d3F
    by_cases h : d.ak = 0
    · simp [h]
    · simp [h, getI_app, d2_has, hd]
  have e3 : getI 2 (d4F d) = getI 2 (d3F d) := by
    unfold d4F
    by_cases h : d.th = 0
    · simp [h]
    · simp [h, getI_app, d3_has, d2_has, hd]
  have e4 : getI 2 (d5F d) = getI 2 (d4F d) := by
    unfold d5F
    by_cases h : d.has = true
    · simp [h, getI_app, d4_has, d3_has, d2_has, hd]
    · simp [h]
  rw [e4, e3, e2, e1]
theorem d3_get (d : DataD) (hd : d.ak ≠ 0) : getI 3 (d5F d) = .cons 3 true false (varL d.ak) .nil .nil := by
  have e2 : getI 3 (d3F d) = .cons 3 true false (varL d.ak) .nil .nil := by
    unfold d3F
    simp [hd, getI_app, d2_has, oneF, getI]
  have e3 : getI 3 (d4F d) = getI 3 (d3F d) := by
    unfold d4F
    by_cases h : d.th = 0
    · simp [h]
    · simp [h, getI_app, d3_has, d2_has, hd]
  have e4 : getI 3 (d5F d) = getI 3 (d4F d) := by
    unfold d5F
    by_cases h : d.has = true
    · simp [h, getI_app, d4_has, d3_has, d2_has, hd]
    · simp [h]
  rw [e4, e3, e2]
theorem d4_get (d : DataD) (hd : d.th ≠ 0) : getI 4 (d5F d) = .cons 4 true false (varL d.th) .nil .nil := by
  have e3 : getI 4 (d4F d) = .cons 4 true false (varL d.th) .nil .nil := by
    unfold d4F
    simp [hd, getI_app, d3_has, d2_has, oneF, getI]
  have e4 : getI 4 (d5F d) = getI 4 (d4F d) := by
    unfold d5F
    by_cases h : d.has = true
    · simp [h, getI_app, d4_has, d3_has, d2_has, hd]
    · simp [h]
  rw [e4, e3]
theorem d5_get (d : DataD) (hd : d.has = true) : getI 5 (d5F d) = .cons 5 true true [] (partF d.p) .nil := by
  unfold d5F
  simp [hd, getI_app, d4_has, d3_has, d2_has, getI]
theorem d5_pick (d : DataD) : pickF (kindsL 5) (d5F d) = d5F d ∧ critF (kindsL 5) (d5F d) = false := by
  have h : ∀ z : Int, z = 1 ∨ z = 2 ∨ z = 3 ∨ z = 4 ∨ z = 5 → z ∈ kindsL 5 := by
    rintro z (rfl | rfl | rfl | rfl | rfl) <;> decide
  have h1 : pickF (kindsL 5) (d1F d) = d1F d ∧ critF (kindsL 5) (d1F d) = false := by simp [d1F, oneF, pickF, critF, h]
  have h2 : pickF (kindsL 5) (d2F d) = d2F d ∧ critF (kindsL 5) (d2F d) = false := by
    unfold d2F
    split
    · exact h1
    · rw [pickF_app, critF_app, h1.1, h1.2]; simp [oneF, pickF, critF, h]
  have h3 : pickF (kindsL 5) (d3F d) = d3F d ∧ critF (kindsL 5) (d3F d) = false := by
    unfold d3F
    split
    · exact h2
    · rw [pickF_app, critF_app, h2.1, h2.2]; simp [oneF, pickF, critF, h]
  have h4 : pickF (kindsL 5) (d4F d) = d4F d ∧ critF (kindsL 5) (d4F d) = false := by
    unfold d4F
    split
    · exact h3
    · rw [pickF_app, critF_app, h3.1, h3.2]; simp [oneF, pickF, critF, h]
  unfold d5F
  split
  · rw [pickF_app, critF_app, h4.1, h4.2]; simp [pickF, critF, h]
  · exact h4
theorem two_num {n : Nat} (h : n < 65536) : beN (numL n 2) = n := by rw [beN_num]; exact Nat.mod_eq_of_lt (by simpa using h)
/-- Data whose items are read from a walk's list. -/
theorem itm_at {bs : List UInt8} {d : DataD} (hA : itA1 bs = ⟨d5F d, 0, 0⟩) (h1 : d.st < 65536) (h2 : d.ec < 65536) (h3 : U64 d.ak) (h4 : U64 d.th) (h5 : d.p.id < 4294967296) (hm : d.may = true) :
    itmE bs = 0 ∧ itmD bs = d := by
  obtain ⟨f, ef⟩ : ∃ f, d5F d = f := ⟨_, rfl⟩
  rw [ef] at hA
  have b1 : nxB ⟨f, 0, 0⟩ = true := by unfold nxB; rw [if_pos rfl]; show hasI 1 f = true; rw [← ef, d5_has, d4_has, d3_has, d2_has]; simp
  have i1 : nxI ⟨f, 0, 0⟩ = .cons 1 true false (numL d.st 2) .nil .nil := by unfold nxI; rw [if_pos rfl]; show getI 1 f = _; rw [← ef, d1_get]
  obtain ⟨y1, y2⟩ := by_good (s := ⟨f, 0, 0⟩) (n := 2) b1 (by rw [i1]; rfl) (by rw [i1]; exact numL_length _ _)
  have s2 : itA2 bs = ⟨f, 1, 0⟩ := by
    have e1 : (byS ⟨f, 0, 0⟩ 2).l = f := byS_l _ _
    have e2 : (byS ⟨f, 0, 0⟩ 2).at_ = 1 := byS_at _ _
    rw [itA2, hA]
    cases hh : byS ⟨f, 0, 0⟩ 2 with
    | mk l a e => rw [hh] at y1 e1 e2; simp only at y1 e1 e2; rw [y1, e1, e2]
  have n1 : itSt bs = d.st := by rw [itSt, hA, y2, i1]; exact two_num h1
  have r3 : itA3 bs = ⟨f, 2, 0⟩ ∧ itEc bs = d.ec := by
    have e1 : (ecS ⟨f, 1, 0⟩).l = f := ecS_l _
    have e2 : (ecS ⟨f, 1, 0⟩).at_ = 2 := ecS_at _
    have e3 : (ecS ⟨f, 1, 0⟩).err = 0 ∧ ecN ⟨f, 1, 0⟩ = d.ec := by
      by_cases q : d.ec = 65535
      · have b : nxB ⟨f, 1, 0⟩ = false := by unfold nxB; rw [if_pos rfl]; show hasI 2 f = false; rw [← ef, d5_has, d4_has, d3_has, d2_has]; simp [q]
        obtain ⟨c1, c2⟩ := ec_none (s := ⟨f, 1, 0⟩) rfl b
        exact ⟨c1, by rw [c2, q]⟩
      · have b : nxB ⟨f, 1, 0⟩ = true := by unfold nxB; rw [if_pos rfl]; show hasI 2 f = true; rw [← ef, d5_has, d4_has, d3_has, d2_has]; simp [q]
        have i : nxI ⟨f, 1, 0⟩ = .cons 2 false false (numL d.ec 2) .nil .nil := by unfold nxI; rw [if_pos rfl]; show getI 2 f = _; rw [← ef, d2_get d q]
        obtain ⟨c1, c2⟩ := ec_some (s := ⟨f, 1, 0⟩) b (by rw [i]; rfl) (by rw [i]; exact numL_length _ _)
        rw [i] at c1 c2
        have hb : beN (itB (.cons 2 false false (numL d.ec 2) .nil .nil)) = d.ec := two_num h2
        rw [hb] at c1 c2
        exact ⟨by rw [c2, if_neg q], c1⟩
    refine ⟨?_, by rw [itEc, s2]; exact e3.2⟩
    rw [itA3, s2]
    cases hh : ecS ⟨f, 1, 0⟩ with
    | mk l a e => rw [hh] at e1 e2 e3; simp only at e1 e2 e3; rw [e1, e2, e3.1]
  have r4 : itA4 bs = ⟨f, 3, 0⟩ ∧ itAk bs = d.ak := by
    rw [itA4, itAk, r3.1]
    by_cases q : d.ak = 0
    · obtain ⟨c1, c2⟩ := nu_away (f := f) (i := 2) (by show hasI 3 f = false; rw [← ef, d5_has, d4_has, d3_has, d2_has]; simp [q])
      exact ⟨c2, by rw [c1, q]⟩
    · obtain ⟨c1, c2⟩ := nu_there (f := f) (i := 2) (k := 3) (cr := true) (n := d.ak) (m := false) (by show hasI 3 f = true; rw [← ef, d5_has, d4_has, d3_has, d2_has]; simp [q]) (by show getI 3 f = _; rw [← ef, d3_get d q]) h3 (.inr q)
      exact ⟨c2, c1⟩
  have r5 : itA5 bs = ⟨f, 4, 0⟩ ∧ itTh bs = d.th := by
    rw [itA5, itTh, r4.1]
    by_cases q : d.th = 0
    · obtain ⟨c1, c2⟩ := nu_away (f := f) (i := 3) (by show hasI 4 f = false; rw [← ef, d5_has, d4_has, d3_has, d2_has]; simp [q])
      exact ⟨c2, by rw [c1, q]⟩
    · obtain ⟨c1, c2⟩ := nu_there (f := f) (i := 3) (k := 4) (cr := true) (n := d.th) (m := false) (by show hasI 4 f = true; rw [← ef, d5_has, d4_has, d3_has, d2_has]; simp [q]) (by show getI 4 f = _; rw [← ef, d4_get d q]) h4 (.inr q)
      exact ⟨c2, c1⟩
  obtain ⟨st, ec, ak, th, has, p⟩ := d
  simp only at *
  by_cases q : has = true
  · have b : nxB (itA5 bs) = true := by rw [r5.1]; unfold nxB; rw [if_pos rfl]; show hasI 5 f = true; rw [← ef, d5_has]; simp [q]
    have i : itI5 bs = .cons 5 true true [] (partF p) .nil := by
      have := d5_get ⟨st, ec, ak, th, has, p⟩ q
      rw [itI5, r5.1]; unfold nxI; rw [if_pos rfl]; show getI 5 f = _; rw [← ef, this]
    obtain ⟨c1, c2⟩ := itm_part b (by rw [i]; rfl)
    rw [i] at c1 c2
    have hp : partP p.ix p.ct p.bs.length := by
      unfold DataD.may dataB at hm
      simp only [q, if_true] at hm
      exact of_decide_eq_true hm
    obtain ⟨g1, g2⟩ := part_back h5 hp
    have e : itS (.cons 5 true true [] (partF p) .nil) = partF p := rfl
    rw [e] at c1 c2
    rw [c1, c2, g1, g2, n1, r3.2, r4.2, r5.2, q]
    exact ⟨rfl, rfl⟩
  · have q' : has = false := by cases has <;> simp_all
    have b : nxB (itA5 bs) = false := by rw [r5.1]; unfold nxB; rw [if_pos rfl]; show hasI 5 f = false; rw [← ef, d5_has, d4_has, d3_has, d2_has]; simp [q']
    have hp : p = ⟨0, 0, 0, []⟩ := by
      unfold DataD.may dataB at hm
      simp only [q', Bool.false_eq_true, if_false] at hm
      obtain ⟨z1, z2, z3, z4⟩ := of_decide_eq_true hm
      obtain ⟨p1, p2, p3, p4⟩ := p
      simp only at z1 z2 z3 z4
      rw [z1, z2, z3, List.length_eq_zero_iff.1 z4]
    refine ⟨itm_none (by rw [r5.1]) b, ?_⟩
    rw [itmD, if_neg (by rw [b]; simp), n1, r3.2, r4.2, r5.2, q', hp]
end Go.Proofs.Ytcffinkkfdfcaaa

/- What is put as data, in any version, is got as it was, and is short enough: plain data. Conditions: data's ranges. -/
namespace Go.Proofs.Ytcffinkkfdfcaaa
open Go Go.RowKit

theorem num8 {n : Nat} (h : U64 n) : beN (numL n 8) = n := by rw [beN_num]; unfold U64 at h; exact Nat.mod_eq_of_lt (by simpa using h)
theorem num4 {n : Nat} (h : n < 4294967296) : beN (numL n 4) = n := by rw [beN_num]; exact Nat.mod_eq_of_lt (by simpa using h)
theorem cut_at {l0 l1 l2 : List UInt8} {k z : Nat} (h0 : l0.length = k) (h1 : l1.length = z) : ((l0 ++ (l1 ++ l2)).drop k).take z = l1 := by
  rw [← h0, List.drop_left, ← h1, List.take_left]
theorem fir_back {d : DataD} (h1 : d.st < 65536) (h2 : d.ec < 65536) (h3 : U64 d.ak) (h4 : U64 d.th) (h5 : d.p.id < 4294967296) (hm : d.may = true) :
    firE (firstL d) = 0 ∧ firD (firstL d) = d ∧ (firstL d).length ≤ 512 := by
  obtain ⟨st, ec, ak, th, has, ⟨id, ix, ct, bs⟩⟩ := d
  simp only at h1 h2 h3 h4 h5
  unfold DataD.may dataB at hm
  simp only at hm
  -- the rest behind the head
  have main : ∀ R : List UInt8, fstD (numL st 2 ++ numL ec 2 ++ numL ak 8 ++ numL th 8 ++ R) = ⟨st, ec, ak, th, false, ⟨0, 0, 0, []⟩⟩ ∧ (numL st 2 ++ numL ec 2 ++ numL ak 8 ++ numL th 8 ++ R).length = 20 + R.length ∧ ∀ k, (numL st 2 ++ numL ec 2 ++ numL ak 8 ++ numL th 8 ++ R).drop (20 + k) = R.drop k := by
    intro R
    refine ⟨?_, by simp [numL_length]; omega, fun k => ?_⟩
    · unfold fstD
      have a1 : (numL st 2 ++ numL ec 2 ++ numL ak 8 ++ numL th 8 ++ R).take 2 = numL st 2 := by
        have := cut_at (l0 := []) (l1 := numL st 2) (l2 := numL ec 2 ++ numL ak 8 ++ numL th 8 ++ R) (k := 0) rfl (numL_length st 2)
        simpa [List.append_assoc] using this
      have a2 : ((numL st 2 ++ numL ec 2 ++ numL ak 8 ++ numL th 8 ++ R).drop 2).take 2 = numL ec 2 := by
        have := cut_at (l0 := numL st 2) (l1 := numL ec 2) (l2 := numL ak 8 ++ numL th 8 ++ R) (numL_length st 2) (numL_length ec 2)
        simpa [List.append_assoc] using this
      have a3 : ((numL st 2 ++ numL ec 2 ++ numL ak 8 ++ numL th 8 ++ R).drop 4).take 8 = numL ak 8 := by
        have := cut_at (l0 := numL st 2 ++ numL ec 2) (l1 := numL ak 8) (l2 := numL th 8 ++ R) (k := 4) (by simp [numL_length]) (numL_length ak 8)
        simpa [List.append_assoc] using this
      have a4 : ((numL st 2 ++ numL ec 2 ++ numL ak 8 ++ numL th 8 ++ R).drop 12).take 8 = numL th 8 := by
        have := cut_at (l0 := numL st 2 ++ numL ec 2 ++ numL ak 8) (l1 := numL th 8) (l2 := R) (k := 12) (by simp [numL_length]) (numL_length th 8)
        simpa [List.append_assoc] using this
      rw [a1, a2, a3, a4, two_num h1, two_num h2, num8 h3, num8 h4]
    · rw [← List.drop_drop]
      have e : (numL st 2 ++ numL ec 2 ++ numL ak 8 ++ numL th 8).length = 20 := by simp [numL_length]
      have e2 := List.drop_left (l₁ := numL st 2 ++ numL ec 2 ++ numL ak 8 ++ numL th 8) (l₂ := R)
      rw [e] at e2
      rw [e2]
  cases has with
  | false =>
    simp only [Bool.false_eq_true, if_false] at hm
    obtain ⟨z1, z2, z3, z4⟩ := of_decide_eq_true hm
    have z4' := List.length_eq_zero_iff.1 z4
    subst z1 z2 z3 z4'
    have e : firstL ⟨st, ec, ak, th, false, ⟨0, 0, 0, []⟩⟩ = numL st 2 ++ numL ec 2 ++ numL ak 8 ++ numL th 8 ++ [0] := by unfold firstL headD; simp
    obtain ⟨m1, m2, m3⟩ := main [0]
    rw [e]
    have b20 : bAt (numL st 2 ++ numL ec 2 ++ numL ak 8 ++ numL th 8 ++ [0]) 20 = 0 := by
      unfold bAt
      rw [m3 0]; rfl
    simp only [List.length_cons, List.length_nil] at m2
    refine ⟨?_, ?_, by omega⟩
    · rw [firE, if_neg (by omega), b20, if_neg (by omega), if_pos rfl, if_neg (by omega)]
    · rw [firD, b20, if_pos rfl, m1]
  | true =>
    simp only [if_true] at hm
    obtain ⟨q1, q2, q3, q4, q5, -⟩ := of_decide_eq_true hm
    have e : firstL ⟨st, ec, ak, th, true, ⟨id, ix, ct, bs⟩⟩ = numL st 2 ++ numL ec 2 ++ numL ak 8 ++ numL th 8 ++ ([1] ++ (numL id 4 ++ ([lo ix.toNat, lo ct.toNat] ++ bs))) := by unfold firstL headD; simp [List.append_assoc]
    obtain ⟨m1, m2, m3⟩ := main ([1] ++ (numL id 4 ++ ([lo ix.toNat, lo ct.toNat] ++ bs)))
    rw [e]
    obtain ⟨B, eB⟩ : ∃ B, numL st 2 ++ numL ec 2 ++ numL ak 8 ++ numL th 8 ++ ([1] ++ (numL id 4 ++ ([lo ix.toNat, lo ct.toNat] ++ bs))) = B := ⟨_, rfl⟩
    rw [eB] at m1 m2 m3 ⊢
    have n4 : (numL id 4).length = 4 := numL_length id 4
    have b20 : bAt B 20 = 1 := by
      unfold bAt
      rw [m3 0]; rfl
    have b21 : (B.drop 21).take 4 = numL id 4 := by
      rw [m3 1]
      exact cut_at (l0 := [1]) (l1 := numL id 4) (k := 1) rfl n4
    have d25 : B.drop 25 = [lo ix.toNat, lo ct.toNat] ++ bs := by
      rw [m3 5]
      have := List.drop_left (l₁ := [(1 : UInt8)] ++ numL id 4) (l₂ := [lo ix.toNat, lo ct.toNat] ++ bs)
      rw [show ([(1 : UInt8)] ++ numL id 4).length = 5 by simp [n4]] at this
      rw [List.append_assoc] at this
      exact this
    have b25 : bAt B 25 = ix.toNat := by
      unfold bAt
      rw [d25]
      show beN [lo ix.toNat] = _
      simp [beN, lo_nat]; omega
    have b26 : bAt B 26 = ct.toNat := by
      unfold bAt
      rw [show (26 : Nat) = 25 + 1 from rfl, ← List.drop_drop, d25]
      show beN [lo ct.toNat] = _
      simp [beN, lo_nat]; omega
    have b27 : B.drop 27 = bs := by
      rw [show (27 : Nat) = 25 + 2 from rfl, ← List.drop_drop, d25]; rfl
    simp only [List.length_append, List.length_cons, List.length_nil, n4] at m2
    refine ⟨?_, ?_, by omega⟩
    · rw [firE, if_neg (by omega), b20, if_neg (by omega), if_neg (by omega), if_neg (by omega)]
    · rw [firD, b20, if_neg (by omega), m1, b21, b25, b26, b27, num4 h5]
      show (⟨st, ec, ak, th, true, ⟨id, (ix.toNat : Int), (ct.toNat : Int), bs⟩⟩ : DataD) = _
      rw [Int.toNat_of_nonneg (by omega), Int.toNat_of_nonneg (by omega)]
theorem layL_app (g : Fo) : ∀ f : Fo, layL (f.app g) = layL f ++ layL g
  | .nil => rfl
  | .cons k cr li bs sub rest => by rw [Fo.app, layL, layL, layL_app g rest]; simp only [List.append_assoc]
theorem var_le {n : Nat} (k : Nat) (h : n < 128 ^ (k + 1)) : (varL n).length ≤ k + 1 := varL_len k n h
theorem one_len {k : Int} {cr : Bool} {bs : List UInt8} (hk : 0 ≤ k ∧ k ≤ 30) (hb : bs.length < 128) : (layL (oneF k cr bs)).length = 2 + bs.length := by
  have h1 : numI k cr false < 128 := by unfold numI; cases cr <;> simp <;> omega
  unfold oneF
  rw [layL]
  simp only [Bool.false_eq_true, if_false, layL, List.append_nil]
  rw [varL_lo h1, varL_lo hb]
  simp
  omega
theorem part_len {p : PartD} (h1 : p.id < 4294967296) (h2 : partP p.ix p.ct p.bs.length) : (layL (partF p)).length ≤ 465 := by
  obtain ⟨q1, q2, q3, q4, q5, -⟩ := h2
  have i1 : (varL p.id).length ≤ 5 := var_le 4 (by omega)
  have i2 : (varL p.ix.toNat).length ≤ 1 := var_le 0 (by omega)
  have i3 : (varL p.ct.toNat).length ≤ 2 := var_le 1 (by omega)
  have i4 : (varL p.bs.length).length ≤ 2 := var_le 1 (by omega)
  have n1 : ∀ k : Int, 0 ≤ k → k ≤ 30 → (varL (numI k true false)).length = 1 := fun k a b => by
    rw [varL_lo (by unfold numI; simp; omega)]; rfl
  have l1 : (varL (varL p.id).length).length = 1 := by rw [varL_lo (by omega)]; rfl
  have l2 : (varL (varL p.ix.toNat).length).length = 1 := by rw [varL_lo (by omega)]; rfl
  have l3 : (varL (varL p.ct.toNat).length).length = 1 := by rw [varL_lo (by omega)]; rfl
  unfold partF
  simp only [layL, Bool.false_eq_true, if_false, List.length_append, List.append_nil, List.length_nil, n1 1 (by decide) (by decide), n1 2 (by decide) (by decide), n1 3 (by decide) (by decide), n1 4 (by decide) (by decide), l1, l2, l3]
  omega
theorem d5_len512 {d : DataD} (h3 : U64 d.ak) (h4 : U64 d.th) (h5 : d.p.id < 4294967296) (hm : d.may = true) : (layL (d5F d)).length ≤ 512 := by
  have v3 : (varL d.ak).length ≤ 10 := var_le 9 (by unfold U64 at h3; omega)
  have v4 : (varL d.th).length ≤ 10 := var_le 9 (by unfold U64 at h4; omega)
  have e1 : (layL (d1F d)).length = 4 := by unfold d1F; rw [one_len (by decide) (by rw [numL_length]; decide), numL_length]
  have e2 : (layL (d2F d)).length ≤ 8 := by
    unfold d2F
    split
    · omega
    · rw [layL_app, List.length_append, one_len (by decide) (by rw [numL_length]; decide), numL_length]; omega
  have e3 : (layL (d3F d)).length ≤ 20 := by
    unfold d3F
    split
    · omega
    · rw [layL_app, List.length_append, one_len (by decide) (by omega)]; omega
  have e4 : (layL (d4F d)).length ≤ 32 := by
    unfold d4F
    split
    · omega
    · rw [layL_app, List.length_append, one_len (by decide) (by omega)]; omega
  unfold d5F
  split
  · next hh =>
    have hp : partP d.p.ix d.p.ct d.p.bs.length := by
      unfold DataD.may dataB at hm
      rw [if_pos hh] at hm
      exact of_decide_eq_true hm
    have hl := part_len h5 hp
    have n1 : (varL (numI 5 true true)).length = 1 := by rw [varL_lo (by unfold numI; simp)]; rfl
    have n2 : (varL (layL (partF d.p)).length).length ≤ 2 := var_le 1 (by omega)
    rw [layL_app, List.length_append]
    simp only [layL, if_true, List.length_append, List.append_nil, List.length_nil, n1]
    omega
  · omega
/-- What is put is got as it was, and has at most as many bytes as a datagram's body. -/
theorem dat_back {v : Int} {d : DataD} (h1 : d.st < 65536) (h2 : d.ec < 65536) (h3 : U64 d.ak) (h4 : U64 d.th) (h5 : d.p.id < 4294967296) (h : (putD v d).1 = 0) :
    getE v (putD v d).2 = 0 ∧ getD v (putD v d).2 = d ∧ (putD v d).2.length ≤ 512 := by
  have hv : ¬ (v < 1 ∨ 3 < v ∨ d.may = false) := fun q => by
    unfold putD at h
    rw [if_pos q] at h
    cases h
  have hm : d.may = true := by
    cases hh : d.may with
    | true => rfl
    | false => exact absurd (Or.inr (Or.inr hh)) hv
  have fin : ∀ B, getG v B = (0, d) → getE v B = 0 ∧ getD v B = d := fun B hB => by
    have hE : getE v B = 0 := by rw [getE, hB, if_neg (fun q => by rw [hm] at q; cases q.2)]
    exact ⟨hE, by rw [getD, if_pos hE, hB]⟩
  by_cases v1 : v = 1
  · have e : (putD v d).2 = firstL d := by unfold putD; rw [if_neg hv, if_pos v1]
    rw [e]
    obtain ⟨g1, g2, g3⟩ := fir_back h1 h2 h3 h4 h5 hm
    obtain ⟨f1, f2⟩ := fin (firstL d) (by unfold getG; rw [if_pos v1, g1, g2])
    exact ⟨f1, f2, g3⟩
  · have hc : checkF (d5F d) = 0 := by unfold putD at h; rw [if_neg hv, if_neg v1] at h; exact h
    have e : (putD v d).2 = encF (d5F d) := by unfold putD; rw [if_neg hv, if_neg v1]
    rw [e]
    have hp : pickT (kindsL 5) (d5F d) = (0, d5F d) := by
      obtain ⟨p1, p2⟩ := d5_pick d
      unfold pickT
      rw [p1, p2]; rfl
    have hA : itA1 (encF (d5F d)) = ⟨d5F d, 0, 0⟩ := by rw [itA1, opS_enc hc, hp]
    obtain ⟨g1, g2⟩ := itm_at hA h1 h2 h3 h4 h5 hm
    obtain ⟨f1, f2⟩ := fin (encF (d5F d)) (by unfold getG; rw [if_neg v1, if_pos (by omega), g1, g2])
    exact ⟨f1, f2, by rw [enc_lay hc]; exact d5_len512 h3 h4 h5 hm⟩
end Go.Proofs.Ytcffinkkfdfcaaa

/- How a law's argument is opened: an event by value; a slice of events. Conditions: none. -/
namespace Go.Proofs.Ytcffinkkfdfcaaa
open Go Go.RowKit Go.ChangeShapes Go.WideShapes

/-- The fields of an event's type. -/
structure EvT (P : Program) (t : TypeId) (f0 f1 f2 f3 f4 : Field) (e : TypeId) : Prop where
  hs : P.underlying t = some (.struct #[f0, f1, f2, f3, f4])
  hone : Deep.oneCellFields P #[f0, f1, f2, f3, f4] = true
  hC : P.cellsOf t = 5
  h0 : P.underlying f0.type = some (.int .i64)
  h1 : P.underlying f1.type = some (.slice e)
  h2 : P.underlying f2.type = some (.int .i64)
  h3 : P.underlying f3.type = some (.int .i64)
  h4 : P.underlying f4.type = some (.int .i64)
  he : P.underlying e = some (.int .u8)
  hc : P.cellsOf e = 1
  hb : P.bytesOf e = 1

theorem open_txt {H : Type} {enc : TypeId × Value → H} {P : Program} {W : World} {t e fuel : Nat} {u : Value} {y : DataW H × List MemPlace} (ht : P.underlying t = some (.slice e)) (he : P.underlying e = some (.int .u8)) (hc : P.cellsOf e = 1) (hb : P.bytesOf e = 1)
    (hf : DataW.trod enc P W 0 (fun _ => true) true fuel t [u] = some y) :
    ∃ (A : Option Addr) (m c : Nat) (bs : List UInt8), u = .slice A m c ∧ bs.length = m ∧ Rd W A (bs.map bv) ∧ m ≤ c ∧ c ≤ maxLen ∧ ((∀ n ∈ y.1.weights P t, n ≤ reachBytes) → m ≤ 140737488351232) := by
  rcases open_ints ht he hc hf with ⟨hcs, _⟩ | ⟨x, l, c, zs, hcs, _, hl, hm, hz, hx, hcell, hwz⟩
  · injection hcs with hcs _
    subst hcs
    exact ⟨none, 0, 0, [], rfl, rfl, .inl rfl, Nat.le_refl _, Nat.zero_le _, fun _ => by decide⟩
  · injection hcs with hcs _
    subst hcs
    subst hx
    simp only [if_true] at hz
    obtain ⟨bs, g1, g2⟩ := rd_of_ints (len := l) (by omega) hcell hwz
    refine ⟨some x, l, c, bs, rfl, g1, g2, hl, hm, fun hw => ?_⟩
    have h := hw ((zs.take l).length + (zs.drop l).length) (by
      simp only [DataW.weights, ht, List.mem_cons]
      left
      rw [hb]
      simp [lits])
    simp only [List.length_take, List.length_drop, reachBytes] at h
    omega

theorem open_ev {H : Type} {enc : TypeId × Value → H} {P : Program} {W : World} {t e fuel : Nat} {f0 f1 f2 f3 f4 : Field} (T : EvT P t f0 f1 f2 f3 f4 e) {cs : List Value} {x : DataW H × List MemPlace} (hf : DataW.trod enc P W 0 (fun _ => true) true fuel t cs = some x) :
    ∃ (k : Int) (A : Option Addr) (m c : Nat) (X Y b : Int) (bs : List UInt8), cs = [.int .i64 k, .slice A m c, .int .i64 X, .int .i64 Y, .int .i64 b] ∧ bs.length = m ∧ Rd W A (bs.map bv) ∧ m ≤ c ∧ c ≤ maxLen ∧ ((∀ n ∈ x.1.weights P t, n ≤ reachBytes) → m ≤ 140737488351232) := by
  obtain ⟨ys, n, _, rfl, hl, hlen, hg⟩ := DataW.trod_struct T.hs hf
  rw [T.hC] at hl
  obtain ⟨o0, k0⟩ := Deep.hone_of T.hone 0 f0 rfl
  obtain ⟨o1, k1⟩ := Deep.hone_of T.hone 1 f1 rfl
  obtain ⟨o2, k2⟩ := Deep.hone_of T.hone 2 f2 rfl
  obtain ⟨o3, k3⟩ := Deep.hone_of T.hone 3 f3 rfl
  obtain ⟨o4, k4⟩ := Deep.hone_of T.hone 4 f4 rfl
  match cs, hl, ys, hlen with
  | [u0, u1, u2, u3, u4], _, [y0, y1, y2, y3, y4], _ =>
    have g0 := hg 0 f0 rfl
    have g1 := hg 1 f1 rfl
    have g2 := hg 2 f2 rfl
    have g3 := hg 3 f3 rfl
    have g4 := hg 4 f4 rfl
    rw [o0, k0] at g0
    rw [o1, k1] at g1
    rw [o2, k2] at g2
    rw [o3, k3] at g3
    rw [o4, k4] at g4
    obtain ⟨a0, e0, _, _⟩ := DataW.trod_int T.h0 g0
    obtain ⟨a2, e2, _, _⟩ := DataW.trod_int T.h2 g2
    obtain ⟨a3, e3, _, _⟩ := DataW.trod_int T.h3 g3
    obtain ⟨a4, e4, _, _⟩ := DataW.trod_int T.h4 g4
    obtain ⟨A, m, c, bs, eu, q1, q2, q3, q4, q5⟩ := open_txt T.h1 T.he T.hc T.hb g1
    simp at e0 e2 e3 e4
    subst e0 e2 e3 e4 eu
    refine ⟨a0, A, m, c, a2, a3, a4, bs, rfl, q1, q2, q3, q4, fun hw => q5 (fun n hn => hw n ?_)⟩
    simp only [DataW.weights, T.hs]
    exact DataW.weights_mem_each (j := 1) (t := f1.type) (d := y1.1) (by simp) (by simp) n hn

theorem opn_ev {H : Type} {enc : TypeId × Value → H} {P : Program} {W : World} {base t e j : Nat} {f0 f1 f2 f3 f4 : Field} (T : EvT P t f0 f1 f2 f3 f4 e) {v : Value} {d : DataW H} {p : List MemPlace} {ts : List TypeId} {ds : List (DataW H)}
    (hv : Value.okWide P W .any base t v) (hj : DataW.Trod enc P W 0 (fun _ => true) true t v d p) (hsz : (DataW.weightsEach P ts ds).all (· ≤ reachBytes) = true) (k1 : ts[j]? = some t) (k2 : ds[j]? = some d) :
    ∃ (k : Int) (A : Option Addr) (n c : Nat) (x y b : Int) (bs : List UInt8), v = .agg #[.int .i64 k, .slice A n c, .int .i64 x, .int .i64 y, .int .i64 b] ∧ (bs.length = n ∧ Rd W A (bs.map bv) ∧ n ≤ c ∧ c ≤ maxLen ∧ n ≤ 140737488351232) := by
  obtain ⟨cs, rfl, hsz2⟩ := okWide_struct T.hs hv
  obtain ⟨fuel, hf⟩ := hj
  obtain ⟨k, A, m, c, x, y, b, bs, hcs, q1, q2, q3, q4, q5⟩ := open_ev T hf
  refine ⟨k, A, m, c, x, y, b, bs, ?_, q1, q2, q3, q4, q5 (fun n hn => ?_)⟩
  · congr 1
    apply Array.ext'
    simpa [Value.cells] using hcs
  · exact of_decide_eq_true (List.all_eq_true.1 hsz n (DataW.weights_mem_each k1 k2 n hn))

theorem opn_evs {H : Type} {enc : TypeId × Value → H} {P : Program} {W : World} {base t et e j : Nat} {f0 f1 f2 f3 f4 : Field} (ht : P.underlying t = some (.slice et)) (hB : P.bytesOf et = 56) (T : EvT P et f0 f1 f2 f3 f4 e) {v : Value} {d : DataW H} {p : List MemPlace} {ts : List TypeId} {ds : List (DataW H)}
    (hv : Value.okWide P W .any base t v) (hj : DataW.Trod enc P W 0 (fun _ => true) true t v d p) (hsz : (DataW.weightsEach P ts ds).all (· ≤ reachBytes) = true) (k1 : ts[j]? = some t) (k2 : ds[j]? = some d) :
    ∃ (A : Option Addr) (n c : Nat) (dv : List EvV) (es : List Ev), v = .slice A n c ∧ (es.length = n ∧ EvsR (· < W.heap.size) W A dv es ∧ n ≤ c ∧ c ≤ maxLen ∧ n ≤ 2513169434843) := by
  obtain ⟨a0, len, cap, rfl⟩ := okWide_slice ht hv
  obtain ⟨fuel, hf⟩ := hj
  rcases Deep.open_slice ht hf with ⟨hcs, _⟩ | ⟨a, l, c, m, n, D, Pl, hcs, _, hl, hm, hmm, hx, hcell⟩
  · simp [Value.cells] at hcs
    obtain ⟨rfl, rfl, rfl⟩ := hcs
    exact ⟨none, 0, 0, [], [], rfl, rfl, ⟨rfl, .inl rfl, fun _ a e => (by cases e), fun i h => absurd h (by simp)⟩, Nat.le_refl _, Nat.zero_le _, by decide⟩
  · simp [Value.cells] at hcs
    obtain ⟨rfl, rfl, rfl⟩ := hcs
    simp only [if_true] at hmm
    subst hmm
    simp only [Prod.mk.injEq] at hx
    obtain ⟨rfl, _⟩ := hx
    have hb := sized_slice hsz k1 k2 ht
    rw [hB] at hb
    simp only [List.length_map, List.length_range, reachBytes] at hb
    have each : ∀ i, i < len → ∃ z : EvV × Ev, (∀ q (hq : q < 5), W.cell? (a.add (i * 5 + q)) = (z.1.cells)[q]?) ∧ EvR (· < W.heap.size) W z.1 z.2 := by
      intro i hi
      obtain ⟨cs', g1, g2⟩ := hcell i (by omega)
      rw [T.hC] at g1
      obtain ⟨_, hlen, hg⟩ := World.cells?_some g1
      obtain ⟨k, A, m', c', x, y, b, bs, hcs, q1, q2, q3, q4, q5⟩ := open_ev T g2
      have hm' : m' ≤ 140737488351232 := q5 (fun n hn => of_decide_eq_true (List.all_eq_true.1 hsz n (DataW.weights_mem_each k1 k2 n (by
        simp only [DataW.weights, ht, List.mem_cons, List.mem_append]
        exact Or.inr (Or.inl (weightsAll_mem (List.mem_map.2 ⟨i, List.mem_range.2 hi, rfl⟩) n hn))))))
      refine ⟨(⟨k, A, m', c', x, y, b⟩, ⟨k, bs, x, y, b⟩), fun q hq => ?_, rfl, rfl, rfl, rfl, q1, q2, q3, q4, fun h0 a' e => ?_, (show m' ≤ 140737488355328 by omega)⟩
      · rw [← Deep.add_add]
        subst hcs
        have := hg q (by simpa using hq)
        rw [this]
        rfl
      · rcases q2 with h | ⟨b', off, rfl, hb', _⟩
        · have h0' : 0 < m' := h0
          have : bs = [] := by simpa using h
          rw [this, List.length_nil] at q1
          omega
        · injection e with e; subst e; exact hb'
    obtain ⟨zs, hz1, hz2⟩ := list_of_all len each
    have hcellz : ∀ i (hi : i < zs.length) q, q < 5 → W.cell? (a.add (i * 5 + q)) = (cellsV (zs.map (·.1)))[i * 5 + q]? := by
      intro i hi q hq
      rw [cellsV_get _ i (by simpa using hi) q hq, (hz2 i hi).1 q hq]
      simp
    have hblk : 0 < len → a.spot = none ∧ a.block < W.heap.size := by
      intro h0
      have h := hcellz 0 (by omega) 0 (by decide)
      have hc0 : (cellsV (zs.map (·.1)))[0 * 5 + 0]? ≠ none := by
        rw [List.getElem?_eq_getElem (by rw [cellsV_length, List.length_map]; omega)]
        simp
      have h2 : ∃ u, W.cell? a = some u := by
        have e1 : a.add (0 * 5 + 0) = a := by simp [Addr.add]
        rw [e1] at h
        rw [← h] at hc0
        exact Option.ne_none_iff_exists'.1 hc0
      obtain ⟨u, hu⟩ := h2
      exact ⟨World.cell?_spot hu, World.block_lt_of_cell? W a hu⟩
    refine ⟨some a, len, _, zs.map (·.1), zs.map (·.2), rfl, by simpa using hz1, ⟨by simp, ?_, fun h0 a' e => ?_, fun i h1 h2 => ?_⟩, hl, hm, by omega⟩
    · rcases Nat.eq_zero_or_pos len with h0 | h0
      · left
        have : zs = [] := List.eq_nil_of_length_eq_zero (by omega)
        rw [this]; rfl
      · obtain ⟨hsp, hlt⟩ := hblk h0
        obtain ⟨b, off, spot⟩ := a
        simp only at hsp
        subst hsp
        refine .inr ⟨b, off, rfl, hlt, fun k hk => ?_⟩
        have hk' : k < zs.length * 5 := by rw [cellsV_length] at hk; simpa using hk
        have h := hcellz (k / 5) (by omega) (k % 5) (Nat.mod_lt _ (by decide))
        rw [show k / 5 * 5 + k % 5 = k by omega, Addr.add_lit, List.getElem?_eq_getElem hk] at h
        exact h
    · injection e with e
      subst e
      exact (hblk (by rw [List.length_map] at h0; omega)).2
    · simp only [List.getElem_map]
      exact (hz2 i (by simpa using h1)).2
end Go.Proofs.Ytcffinkkfdfcaaa

/- How a law's argument is opened: a list of items. Conditions: none. -/
namespace Go.Proofs.Ytcffinkkfdfcaaa
open Go Go.RowKit Go.ChangeShapes Go.WideShapes

/-- The fields of an item's type (t: the type of a list of items). -/
structure ItT (P : Program) (t it : TypeId) (f0 f1 f2 f3 f4 : Field) (et e : TypeId) : Prop where
  ht : P.underlying t = some (.slice it)
  hs : P.underlying it = some (.struct #[f0, f1, f2, f3, f4])
  hone : Deep.oneCellFields P #[f0, f1, f2, f3, f4] = true
  hC : P.cellsOf it = 5
  hB : P.bytesOf it = 64
  h0 : P.underlying f0.type = some (.int .i64)
  h1 : P.underlying f1.type = some .bool
  h2 : P.underlying f2.type = some .bool
  h3 : f3.type = et
  h3' : P.underlying et = some (.slice e)
  h4 : f4.type = t
  he : P.underlying e = some (.int .u8)
  hc : P.cellsOf e = 1
  hb : P.bytesOf e = 1

/-- Items built from what is known at each place. -/
theorem fo_of_all {ok : Nat → Prop} {W : World} {b off len : Nat} (hb : b < W.heap.size) (hok : ok b)
    (h : ∀ i, i < len → ∃ (k : Int) (cr li : Bool) (At : Option Addr) (n c : Nat) (bs : List UInt8) (As : Option Addr) (d : Nat) (sub : Fo),
      (W.cell? ⟨b, off + i * 5, none⟩ = some (.int .i64 k) ∧ W.cell? ⟨b, off + i * 5 + 1, none⟩ = some (.bool cr) ∧ W.cell? ⟨b, off + i * 5 + 2, none⟩ = some (.bool li) ∧
       W.cell? ⟨b, off + i * 5 + 3, none⟩ = some (.slice At n c) ∧ W.cell? ⟨b, off + i * 5 + 4, none⟩ = some (.slice As sub.len d)) ∧
      TxtR ok W At n c bs ∧ FoR ok W As 0 sub ∧ sub.len ≤ d ∧ d ≤ maxLen ∧ sub.len ≤ 2199023255488) : ∀ (r i : Nat), i + r = len → ∃ f : Fo, f.len = r ∧ FoR ok W (some ⟨b, off, none⟩) i f
  | 0, i, _ => ⟨.nil, rfl, trivial⟩
  | r + 1, i, hi => by
    obtain ⟨k, cr, li, At, n, c, bs, As, d, sub, hc, ht, hsub, h1, h2, h3⟩ := h i (by omega)
    obtain ⟨f, e, hf⟩ := fo_of_all hb hok h r (i + 1) (by omega)
    exact ⟨.cons k cr li bs sub f, by rw [Fo.len, e], ⟨b, off, At, n, c, As, d, rfl, hb, hok, hc, ht, hsub, h1, h2, h3⟩, hf⟩

theorem open_fo {H : Type} {enc : TypeId × Value → H} {P : Program} {W : World} {t it et e : TypeId} {f0 f1 f2 f3 f4 : Field} (T : ItT P t it f0 f1 f2 f3 f4 et e) : ∀ (fuel : Nat) (u : Value) (x : DataW H × List MemPlace),
    DataW.trod enc P W 0 (fun _ => true) true fuel t [u] = some x → (∀ n ∈ x.1.weights P t, n ≤ reachBytes) →
    ∃ (A : Option Addr) (n c : Nat) (f : Fo), u = .slice A n c ∧ FoR (· < W.heap.size) W A 0 f ∧ f.len = n ∧ n ≤ c ∧ c ≤ maxLen ∧ n ≤ 2199023255488 := by
  intro fuel
  induction fuel using Nat.strongRecOn with
  | _ fuel ih =>
    intro u x hf hw
    rcases DataW.trod_slice T.ht hf with ⟨hcs, _⟩ | ⟨a, len, cap, elems, rest, n, hfu, hcs, hx, _, hl, hm, hlen, hel, hsp, _⟩
    · injection hcs with hcs _
      subst hcs
      exact ⟨none, 0, 0, .nil, rfl, trivial, rfl, Nat.le_refl _, Nat.zero_le _, by decide⟩
    · injection hcs with hcs _
      subst hcs
      subst hx
      obtain ⟨hrl, _⟩ := hsp rfl
      have hbd := hw _ (by simp only [DataW.weights, T.ht, List.mem_cons]; exact Or.inl rfl)
      rw [T.hB] at hbd
      simp only [List.length_map, reachBytes] at hbd
      have each : ∀ i, i < len → ∃ (k : Int) (cr li : Bool) (At : Option Addr) (n c : Nat) (bs : List UInt8) (As : Option Addr) (d : Nat) (sub : Fo),
          (W.cell? (a.add (i * 5 + 0)) = some (.int .i64 k) ∧ W.cell? (a.add (i * 5 + 1)) = some (.bool cr) ∧ W.cell? (a.add (i * 5 + 2)) = some (.bool li) ∧
           W.cell? (a.add (i * 5 + 3)) = some (.slice At n c) ∧ W.cell? (a.add (i * 5 + 4)) = some (.slice As sub.len d)) ∧
          TxtR (· < W.heap.size) W At n c bs ∧ FoR (· < W.heap.size) W As 0 sub ∧ sub.len ≤ d ∧ d ≤ maxLen ∧ sub.len ≤ 2199023255488 := by
        intro i hi
        have he := hel i hi
        have hi' : i < elems.length := by omega
        rw [List.getElem?_eq_getElem hi', T.hC, Option.bind_eq_some_iff] at he
        obtain ⟨cs', g1, g2⟩ := he
        obtain ⟨_, hlen5, hg⟩ := World.cells?_some g1
        obtain ⟨ys, n', hfu', hy, hl5, hlen', hgs⟩ := DataW.trod_struct T.hs g2
        rw [T.hC] at hl5
        obtain ⟨o0, k0⟩ := Deep.hone_of T.hone 0 f0 rfl
        obtain ⟨o1, k1⟩ := Deep.hone_of T.hone 1 f1 rfl
        obtain ⟨o2, k2⟩ := Deep.hone_of T.hone 2 f2 rfl
        obtain ⟨o3, k3⟩ := Deep.hone_of T.hone 3 f3 rfl
        obtain ⟨o4, k4⟩ := Deep.hone_of T.hone 4 f4 rfl
        match cs', hl5, ys, hlen' with
        | [u0, u1, u2, u3, u4], _, [y0, y1, y2, y3, y4], _ =>
          have q0 := hgs 0 f0 rfl
          have q1 := hgs 1 f1 rfl
          have q2 := hgs 2 f2 rfl
          have q3 := hgs 3 f3 rfl
          have q4 := hgs 4 f4 rfl
          rw [o0, k0] at q0
          rw [o1, k1] at q1
          rw [o2, k2] at q2
          rw [o3, k3, T.h3] at q3
          rw [o4, k4, T.h4] at q4
          have hwe : ∀ n ∈ (elems[i]).1.weights P it, n ≤ reachBytes := fun n hn => hw n (by
            simp only [DataW.weights, T.ht, List.mem_cons, List.mem_append]
            exact Or.inr (Or.inl (weightsAll_mem (List.mem_map.2 ⟨elems[i], List.getElem_mem _, rfl⟩) n hn)))
          rw [hy] at hwe
          have hwf : ∀ (j : Nat) (f : Field) (y : DataW H × List MemPlace), (#[f0, f1, f2, f3, f4] : Array Field)[j]? = some f → ([y0, y1, y2, y3, y4] : List (DataW H × List MemPlace))[j]? = some y → ∀ n ∈ y.1.weights P f.type, n ≤ reachBytes := by
            intro j f y hj hy' n hn
            refine hwe n ?_
            simp only [DataW.weights, T.hs]
            refine DataW.weights_mem_each (j := j) (t := f.type) (d := y.1) ?_ ?_ n hn
            · rw [List.getElem?_map]
              have : ([f0, f1, f2, f3, f4] : List Field)[j]? = some f := by simpa using hj
              show Option.map _ (([f0, f1, f2, f3, f4] : List Field)[j]?) = _
              rw [this]; rfl
            · rw [List.getElem?_map, hy']; rfl
          obtain ⟨a0, e0, _, _⟩ := DataW.trod_int T.h0 q0
          obtain ⟨a1, e1, _⟩ := DataW.trod_bool T.h1 q1
          obtain ⟨a2, e2, _⟩ := DataW.trod_bool T.h2 q2
          obtain ⟨At, m, c', bs, eu, r1, r2, r3, r4, r5⟩ := open_txt T.h3' T.he T.hc T.hb (show DataW.trod enc P W 0 (fun _ => true) true n' et [u3] = some y3 from q3)
          have hm' : m ≤ 140737488351232 := r5 (fun n hn => hwf 3 f3 y3 rfl rfl n (by rw [T.h3]; exact hn))
          obtain ⟨As, m2, d, sub, es, s1, s2, s3, s4, s5⟩ := ih n' (by omega) u4 y4 (show DataW.trod enc P W 0 (fun _ => true) true n' t [u4] = some y4 from q4) (fun n hn => hwf 4 f4 y4 rfl rfl n (by rw [T.h4]; exact hn))
          simp at e0 e1 e2
          subst e0 e1 e2 eu es s2
          have g : ∀ q (hq : q < 5), W.cell? (a.add (i * 5 + q)) = [Value.int .i64 a0, .bool a1, .bool a2, .slice At m c', .slice As sub.len d][q]? := fun q hq => by
            rw [← Deep.add_add]
            exact hg q (by simpa using hq)
          refine ⟨a0, a1, a2, At, m, c', bs, As, d, sub, ⟨g 0 (by decide), g 1 (by decide), g 2 (by decide), g 3 (by decide), g 4 (by decide)⟩, ⟨r1, r2, r3, r4, fun h0 a' e' => ?_, by omega⟩, s1, s3, s4, s5⟩
          rcases r2 with h | ⟨b', off, rfl, hb', _⟩
          · have h0' : 0 < m := h0
            have : bs = [] := by simpa using h
            rw [this, List.length_nil] at r1
            omega
          · injection e' with e'; subst e'; exact hb'
      rcases Nat.eq_zero_or_pos len with h0 | h0
      · subst h0
        exact ⟨some a, 0, cap, .nil, rfl, trivial, rfl, Nat.zero_le _, hm, Nat.zero_le _⟩
      · obtain ⟨k, _, _, _, _, _, _, _, _, _, ⟨hc0, _⟩, _⟩ := each 0 h0
        have e1 : a.add (0 * 5 + 0) = a := by simp [Addr.add]
        rw [e1] at hc0
        have hsp' := World.cell?_spot hc0
        have hlt := World.block_lt_of_cell? W a hc0
        obtain ⟨b, off, spot⟩ := a
        simp only at hsp' hlt
        subst hsp'
        have each' : ∀ i, i < len → ∃ (k : Int) (cr li : Bool) (At : Option Addr) (n c : Nat) (bs : List UInt8) (As : Option Addr) (d : Nat) (sub : Fo),
            (W.cell? ⟨b, off + i * 5, none⟩ = some (.int .i64 k) ∧ W.cell? ⟨b, off + i * 5 + 1, none⟩ = some (.bool cr) ∧ W.cell? ⟨b, off + i * 5 + 2, none⟩ = some (.bool li) ∧
             W.cell? ⟨b, off + i * 5 + 3, none⟩ = some (.slice At n c) ∧ W.cell? ⟨b, off + i * 5 + 4, none⟩ = some (.slice As sub.len d)) ∧
            TxtR (· < W.heap.size) W At n c bs ∧ FoR (· < W.heap.size) W As 0 sub ∧ sub.len ≤ d ∧ d ≤ maxLen ∧ sub.len ≤ 2199023255488 := by
          intro i hi
          obtain ⟨k, cr, li, At, n, c, bs, As, d, sub, ⟨g0, g1, g2, g3, g4⟩, r⟩ := each i hi
          rw [Addr.add_lit] at g0 g1 g2 g3 g4
          exact ⟨k, cr, li, At, n, c, bs, As, d, sub, ⟨g0, g1, g2, g3, g4⟩, r⟩
        obtain ⟨f, hf1, hf2⟩ := fo_of_all (ok := (· < W.heap.size)) hlt hlt each' len 0 (by omega)
        exact ⟨some ⟨b, off, none⟩, len, cap, f, rfl, hf2, hf1, hl, hm, by omega⟩
theorem opn_fo {H : Type} {enc : TypeId × Value → H} {P : Program} {W : World} {base t it et e j : Nat} {f0 f1 f2 f3 f4 : Field} (T : ItT P t it f0 f1 f2 f3 f4 et e) {v : Value} {d : DataW H} {p : List MemPlace} {ts : List TypeId} {ds : List (DataW H)}
    (hv : Value.okWide P W .any base t v) (hj : DataW.Trod enc P W 0 (fun _ => true) true t v d p) (hsz : (DataW.weightsEach P ts ds).all (· ≤ reachBytes) = true) (k1 : ts[j]? = some t) (k2 : ds[j]? = some d) :
    ∃ (A : Option Addr) (n c : Nat) (f : Fo), v = .slice A n c ∧ (FoR (· < W.heap.size) W A 0 f ∧ f.len = n ∧ n ≤ c ∧ c ≤ maxLen ∧ n ≤ 2199023255488) := by
  obtain ⟨a0, len, cap, rfl⟩ := okWide_slice T.ht hv
  obtain ⟨fuel, hf⟩ := hj
  have hf' : DataW.trod enc P W 0 (fun _ => true) true fuel t [.slice a0 len cap] = some (d, p) := by
    simpa [Value.cells] using hf
  obtain ⟨A, n, c, f, e1, r⟩ := open_fo T fuel _ _ hf' (fun n hn => of_decide_eq_true (List.all_eq_true.1 hsz n (DataW.weights_mem_each k1 k2 n hn)))
  exact ⟨A, n, c, f, e1, r⟩
end Go.Proofs.Ytcffinkkfdfcaaa

/- How a law's argument is opened: data with a part, by value. Conditions: none. -/
namespace Go.Proofs.Ytcffinkkfdfcaaa
open Go Go.RowKit Go.ChangeShapes Go.WideShapes

/-- The fields of a part's type. -/
structure PaT (P : Program) (t : TypeId) (f0 f1 f2 f3 : Field) (e : TypeId) : Prop where
  hs : P.underlying t = some (.struct #[f0, f1, f2, f3])
  hC : P.cellsOf t = 4
  hone : Deep.oneCellFields P #[f0, f1, f2, f3] = true
  h0 : P.underlying f0.type = some (.int .u32)
  h1 : P.underlying f1.type = some (.int .i64)
  h2 : P.underlying f2.type = some (.int .i64)
  h3 : P.underlying f3.type = some (.slice e)
  he : P.underlying e = some (.int .u8)
  hc : P.cellsOf e = 1
  hb : P.bytesOf e = 1
/-- The fields of data's type. -/
structure DaT (P : Program) (t : TypeId) (f0 f1 f2 f3 f4 f5 : Field) (pt : TypeId) (g0 g1 g2 g3 : Field) (e : TypeId) : Prop where
  hs : P.underlying t = some (.struct #[f0, f1, f2, f3, f4, f5])
  hC : P.cellsOf t = 9
  o0 : f0.offset = 0
  o1 : f1.offset = 1
  o2 : f2.offset = 2
  o3 : f3.offset = 3
  o4 : f4.offset = 4
  o5 : f5.offset = 5
  k0 : P.cellsOf f0.type = 1
  k1 : P.cellsOf f1.type = 1
  k2 : P.cellsOf f2.type = 1
  k3 : P.cellsOf f3.type = 1
  k4 : P.cellsOf f4.type = 1
  h0 : P.underlying f0.type = some (.int .u16)
  h1 : P.underlying f1.type = some (.int .u16)
  h2 : P.underlying f2.type = some (.int .u64)
  h3 : P.underlying f3.type = some (.int .u64)
  h4 : P.underlying f4.type = some .bool
  h5 : f5.type = pt
  T : PaT P pt g0 g1 g2 g3 e
theorem nat_u16 {a : Int} (w : (Lit.int .u16 a).wf = true) : ∃ n : Nat, a = (n : Int) ∧ n < 65536 := by
  simp only [Lit.wf, IntKind.min, IntKind.max, IntKind.signed, IntKind.bits, Bool.and_eq_true, decide_eq_true_eq] at w
  have v1 : (0 : Int) ≤ a := by simpa using w.1
  have v2 : a ≤ 65535 := by simpa using w.2
  exact ⟨a.toNat, by omega, by omega⟩
theorem nat_u32 {a : Int} (w : (Lit.int .u32 a).wf = true) : ∃ n : Nat, a = (n : Int) ∧ n < 4294967296 := by
  simp only [Lit.wf, IntKind.min, IntKind.max, IntKind.signed, IntKind.bits, Bool.and_eq_true, decide_eq_true_eq] at w
  have v1 : (0 : Int) ≤ a := by simpa using w.1
  have v2 : a ≤ 4294967295 := by simpa using w.2
  exact ⟨a.toNat, by omega, by omega⟩
theorem nat_u64 {a : Int} (w : (Lit.int .u64 a).wf = true) : ∃ n : Nat, a = (n : Int) ∧ n < 18446744073709551616 := by
  simp only [Lit.wf, IntKind.min, IntKind.max, IntKind.signed, IntKind.bits, Bool.and_eq_true, decide_eq_true_eq] at w
  have v1 : (0 : Int) ≤ a := by simpa using w.1
  have v2 : a ≤ 18446744073709551615 := by simpa using w.2
  exact ⟨a.toNat, by omega, by omega⟩
theorem open_part {H : Type} {enc : TypeId × Value → H} {P : Program} {W : World} {t e fuel : Nat} {f0 f1 f2 f3 : Field} (T : PaT P t f0 f1 f2 f3 e) {cs : List Value} {x : DataW H × List MemPlace}
    (hf : DataW.trod enc P W 0 (fun _ => true) true fuel t cs = some x) (hw : ∀ n ∈ x.1.weights P t, n ≤ reachBytes) :
    ∃ (id : Nat) (ix ct : Int) (A : Option Addr) (n c : Nat) (bs : List UInt8), cs = [.int .u32 (id : Int), .int .i64 ix, .int .i64 ct, .slice A n c] ∧ id < 4294967296 ∧ (Lit.int .i64 ix).wf = true ∧ (Lit.int .i64 ct).wf = true ∧ TxtR (· < W.heap.size) W A n c bs ∧ n ≤ 140737488351232 := by
  obtain ⟨ys, n', _, hy, hl4, hlen', hgs⟩ := DataW.trod_struct T.hs hf
  rw [T.hC] at hl4
  obtain ⟨o0, k0⟩ := Deep.hone_of T.hone 0 f0 rfl
  obtain ⟨o1, k1⟩ := Deep.hone_of T.hone 1 f1 rfl
  obtain ⟨o2, k2⟩ := Deep.hone_of T.hone 2 f2 rfl
  obtain ⟨o3, k3⟩ := Deep.hone_of T.hone 3 f3 rfl
  match cs, hl4, ys, hlen' with
  | [u0, u1, u2, u3], _, [y0, y1, y2, y3], _ =>
    have q0 := hgs 0 f0 rfl
    have q1 := hgs 1 f1 rfl
    have q2 := hgs 2 f2 rfl
    have q3 := hgs 3 f3 rfl
    rw [o0, k0] at q0
    rw [o1, k1] at q1
    rw [o2, k2] at q2
    rw [o3, k3] at q3
    rw [hy] at hw
    have hwf : ∀ (j : Nat) (f : Field) (y : DataW H × List MemPlace), (#[f0, f1, f2, f3] : Array Field)[j]? = some f → ([y0, y1, y2, y3] : List (DataW H × List MemPlace))[j]? = some y → ∀ n ∈ y.1.weights P f.type, n ≤ reachBytes := by
      intro j f y hj hy' n hn
      refine hw n ?_
      simp only [DataW.weights, T.hs]
      refine DataW.weights_mem_each (j := j) (t := f.type) (d := y.1) ?_ ?_ n hn
      · rw [List.getElem?_map]
        have : ([f0, f1, f2, f3] : List Field)[j]? = some f := by simpa using hj
        show Option.map _ (([f0, f1, f2, f3] : List Field)[j]?) = _
        rw [this]; rfl
      · rw [List.getElem?_map, hy']; rfl
    obtain ⟨a0, e0, _, w0⟩ := DataW.trod_int T.h0 q0
    obtain ⟨a1, e1, _, w1⟩ := DataW.trod_int T.h1 q1
    obtain ⟨a2, e2, _, w2⟩ := DataW.trod_int T.h2 q2
    obtain ⟨At, m, c', bs, eu, r1, r2, r3, r4, r5⟩ := open_txt T.h3 T.he T.hc T.hb (show DataW.trod enc P W 0 (fun _ => true) true n' f3.type [u3] = some y3 from q3)
    have hm' : m ≤ 140737488351232 := r5 (fun n hn => hwf 3 f3 y3 rfl rfl n hn)
    obtain ⟨b0, rfl, h0⟩ := nat_u32 w0
    simp at e0 e1 e2
    subst e0 e1 e2 eu
    refine ⟨b0, a1, a2, At, m, c', bs, rfl, h0, w1, w2, ⟨r1, r2, r3, r4, fun h0 a' e' => ?_, by omega⟩, hm'⟩
    rcases r2 with h | ⟨b', off, rfl, hb', _⟩
    · have h0' : 0 < m := h0
      have : bs = [] := by simpa using h
      rw [this, List.length_nil] at r1
      omega
    · injection e' with e'; subst e'; exact hb'
theorem open_dat {H : Type} {enc : TypeId × Value → H} {P : Program} {W : World} {t pt e fuel : Nat} {f0 f1 f2 f3 f4 f5 g0 g1 g2 g3 : Field} (T : DaT P t f0 f1 f2 f3 f4 f5 pt g0 g1 g2 g3 e) {cs : List Value} {x : DataW H × List MemPlace}
    (hf : DataW.trod enc P W 0 (fun _ => true) true fuel t cs = some x) (hw : ∀ n ∈ x.1.weights P t, n ≤ reachBytes) :
    ∃ (st ec ak th : Nat) (has : Bool) (id : Nat) (ix ct : Int) (A : Option Addr) (n c : Nat) (bs : List UInt8), cs = [.int .u16 (st : Int), .int .u16 (ec : Int), .int .u64 (ak : Int), .int .u64 (th : Int), .bool has, .int .u32 (id : Int), .int .i64 ix, .int .i64 ct, .slice A n c] ∧
      st < 65536 ∧ ec < 65536 ∧ ak < 18446744073709551616 ∧ th < 18446744073709551616 ∧ id < 4294967296 ∧ (Lit.int .i64 ix).wf = true ∧ (Lit.int .i64 ct).wf = true ∧ TxtR (· < W.heap.size) W A n c bs ∧ n ≤ 140737488351232 := by
  obtain ⟨ys, n, _, rfl, hl, hlen, hg⟩ := DataW.trod_struct T.hs hf
  rw [T.hC] at hl
  match cs, hl, ys, hlen with
  | [u0, u1, u2, u3, u4, u5, u6, u7, u8], _, [y0, y1, y2, y3, y4, y5], _ =>
    have q0 := hg 0 f0 rfl
    have q1 := hg 1 f1 rfl
    have q2 := hg 2 f2 rfl
    have q3 := hg 3 f3 rfl
    have q4 := hg 4 f4 rfl
    have q5 := hg 5 f5 rfl
    rw [T.o0, T.k0] at q0
    rw [T.o1, T.k1] at q1
    rw [T.o2, T.k2] at q2
    rw [T.o3, T.k3] at q3
    rw [T.o4, T.k4] at q4
    rw [T.o5, T.h5, T.T.hC] at q5
    have hwe : ∀ (j : Nat) (f : Field) (y : DataW H × List MemPlace), (#[f0, f1, f2, f3, f4, f5] : Array Field)[j]? = some f → ([y0, y1, y2, y3, y4, y5] : List (DataW H × List MemPlace))[j]? = some y → ∀ n ∈ y.1.weights P f.type, n ≤ reachBytes := by
      intro j f y hj hy n hn
      refine hw n ?_
      simp only [DataW.weights, T.hs]
      refine DataW.weights_mem_each (j := j) (t := f.type) (d := y.1) ?_ ?_ n hn
      · rw [List.getElem?_map]
        have : ([f0, f1, f2, f3, f4, f5] : List Field)[j]? = some f := by simpa using hj
        show Option.map _ (([f0, f1, f2, f3, f4, f5] : List Field)[j]?) = _
        rw [this]; rfl
      · rw [List.getElem?_map, hy]; rfl
    obtain ⟨a0, e0, _, w0⟩ := DataW.trod_int T.h0 q0
    obtain ⟨a1, e1, _, w1⟩ := DataW.trod_int T.h1 q1
    obtain ⟨a2, e2, _, w2⟩ := DataW.trod_int T.h2 q2
    obtain ⟨a3, e3, _, w3⟩ := DataW.trod_int T.h3 q3
    obtain ⟨a4, e4, _⟩ := DataW.trod_bool T.h4 q4
    obtain ⟨id, ix, ct, A, m, c, bs, ecs, r⟩ := open_part T.T q5 (fun n hn => hwe 5 f5 y5 rfl rfl n (by rw [T.h5]; exact hn))
    obtain ⟨b0, rfl, h0⟩ := nat_u16 w0
    obtain ⟨b1, rfl, h1⟩ := nat_u16 w1
    obtain ⟨b2, rfl, h2⟩ := nat_u64 w2
    obtain ⟨b3, rfl, h3⟩ := nat_u64 w3
    simp at e0 e1 e2 e3 e4 ecs
    obtain ⟨z1, z2, z3, z4⟩ := ecs
    subst e0 e1 e2 e3 e4 z1 z2 z3 z4
    exact ⟨b0, b1, b2, b3, a4, id, ix, ct, A, m, c, bs, rfl, h0, h1, h2, h3, r⟩
theorem opn_dat {H : Type} {enc : TypeId × Value → H} {P : Program} {W : World} {base t pt e j : Nat} {f0 f1 f2 f3 f4 f5 g0 g1 g2 g3 : Field} (T : DaT P t f0 f1 f2 f3 f4 f5 pt g0 g1 g2 g3 e) {v : Value} {d : DataW H} {p : List MemPlace} {ts : List TypeId} {ds : List (DataW H)}
    (hv : Value.okWide P W .any base t v) (hj : DataW.Trod enc P W 0 (fun _ => true) true t v d p) (hsz : (DataW.weightsEach P ts ds).all (· ≤ reachBytes) = true) (k1 : ts[j]? = some t) (k2 : ds[j]? = some d) :
    ∃ (st ec ak th : Nat) (has : Bool) (id : Nat) (ix ct : Int) (A : Option Addr) (n c : Nat) (bs : List UInt8), v = .agg #[.int .u16 (st : Int), .int .u16 (ec : Int), .int .u64 (ak : Int), .int .u64 (th : Int), .bool has, .int .u32 (id : Int), .int .i64 ix, .int .i64 ct, .slice A n c] ∧
      (st < 65536 ∧ ec < 65536 ∧ ak < 18446744073709551616 ∧ th < 18446744073709551616 ∧ id < 4294967296 ∧ (Lit.int .i64 ix).wf = true ∧ (Lit.int .i64 ct).wf = true ∧ TxtR (· < W.heap.size) W A n c bs ∧ n ≤ 140737488351232) := by
  obtain ⟨cs, rfl, hsz2⟩ := okWide_struct T.hs hv
  obtain ⟨fuel, hf⟩ := hj
  obtain ⟨st, ec, ak, th, has, id, ix, ct, A, m, c, bs, hcs, r⟩ := open_dat T hf (fun n hn => of_decide_eq_true (List.all_eq_true.1 hsz n (DataW.weights_mem_each k1 k2 n hn)))
  refine ⟨st, ec, ak, th, has, id, ix, ct, A, m, c, bs, ?_, r⟩
  congr 1
  apply Array.ext'
  simpa [Value.cells] using hcs
end Go.Proofs.Ytcffinkkfdfcaaa

/- An array of 32 bytes by value, opened: its bytes. Conditions: none. -/
namespace Go.Proofs.Ytcffinkkfdfcaaa
open Go Go.RowKit

theorem mapM_mem {α β : Type} (f : α → Option β) : ∀ (L : List α) (ys : List β), L.mapM f = some ys → ∀ i ∈ L, ∃ y, f i = some y
  | [], _, _, i, hi => by cases hi
  | x :: L, ys, h, i, hi => by
    rw [List.mapM_cons] at h
    simp only [bind, Option.bind_eq_some_iff, pure, Option.some.injEq] at h
    obtain ⟨y, hy, ys', hys, _⟩ := h
    rcases List.mem_cons.1 hi with rfl | hi
    · exact ⟨y, hy⟩
    · exact mapM_mem f L ys' hys i hi
theorem list_bytes : ∀ (l : List Value), (∀ u ∈ l, ∃ b : UInt8, u = bv b) → ∃ bs : List UInt8, l = bs.map bv
  | [], _ => ⟨[], rfl⟩
  | u :: l, h => by
    obtain ⟨b, hb⟩ := h u List.mem_cons_self
    obtain ⟨bs, hbs⟩ := list_bytes l (fun v hv => h v (List.mem_cons_of_mem _ hv))
    exact ⟨b :: bs, by rw [hb, hbs]; rfl⟩
theorem opn_arr8 {H : Type} {enc : TypeId × Value → H} {P : Program} {W : World} {base t e n : Nat} {v : Value} {d : DataW H} {p : List MemPlace} (ht : P.underlying t = some (.array n e)) (hpl : P.plainKey e = true) (he : P.underlying e = some (.int .u8)) (h1 : P.cellsOf e = 1) (hC : P.cellsOf t = n)
    (hv : Value.okWide P W .any base t v) (hj : DataW.Trod enc P W 0 (fun _ => true) true t v d p) : ∃ l : List UInt8, v = .agg (l.map bv).toArray ∧ l.length = n := by
  obtain ⟨xs, rfl, hn⟩ := WideMaps.okWide_arr (A := (⟨ht, hpl, h1, hC⟩ : WideMaps.ArrKey P t e n)) hv
  obtain ⟨fuel, hf⟩ := hj
  have hall : ∀ u ∈ xs.toList, ∃ b : UInt8, u = bv b := by
    cases fuel with
    | zero => simp [DataW.trod] at hf
    | succ m =>
      rw [DataW.trod_step] at hf
      unfold DataW.trodStep at hf
      simp only [ht, Value.cells] at hf
      rw [if_pos (by rw [hC]; simpa using hn)] at hf
      simp only [Option.map_eq_some_iff] at hf
      obtain ⟨ys, hy, _⟩ := hf
      intro u hu
      obtain ⟨i, hi, rfl⟩ := List.mem_iff_getElem.1 hu
      have hi' : i < n := by rw [← hn]; simpa using hi
      obtain ⟨y, hyi⟩ := mapM_mem _ _ _ hy i (List.mem_range.2 hi')
      obtain ⟨a, ea, _, wa⟩ := DataW.trod_int he hyi
      rw [h1, Nat.mul_one, List.drop_eq_getElem_cons hi, List.take_succ_cons, List.take_zero] at ea
      injection ea with ea _
      rw [ea]
      simp only [Lit.wf, IntKind.min, IntKind.max, IntKind.signed, IntKind.bits, Bool.and_eq_true, decide_eq_true_eq] at wa
      have w1 : (0 : Int) ≤ a := by simpa using wa.1
      have w2 : a ≤ 255 := by simpa using wa.2
      refine ⟨UInt8.ofNat a.toNat, ?_⟩
      unfold bv
      rw [UInt8.toNat_ofNat']
      congr 1
      omega
  obtain ⟨l, hl⟩ := list_bytes xs.toList hall
  refine ⟨l, ?_, ?_⟩
  · rw [← hl]
  · rw [← hn, ← List.length_map bv, ← hl]; simp
end Go.Proofs.Ytcffinkkfdfcaaa
