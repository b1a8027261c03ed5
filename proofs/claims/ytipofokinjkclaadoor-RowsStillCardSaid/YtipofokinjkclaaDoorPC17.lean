/- Parts one behind the other: Plain: what the project layer's answer is worth: it may be; once is enough; few features; plain screens; blanks; What cell.Blank, the reference's Blank of a cell and grid.New answer; A new terminal's block; what frame and here answer of it; parse.New. Conditions: as told at each. -/
import Derived.Test.YtipofokinjkclaaDoorPC13
import Derived.Test.YtipofokinjkclaaDoorPC16
import Derived.Laws.ResultCell

set_option linter.unusedVariables false
set_option linter.unusedSimpArgs false
/- Plain: what the project layer's answer is worth: it may be; once is enough; few features; plain screens; blanks. Conditions: none. -/
namespace Go.Proofs.YtipofokinjkclaaDoor
open Go Go.RowKit Go.Lib

theorem cellEq_self (d : CeD) : cellEq d d = true := by simp [cellEq, penEq]
theorem sameC_self : ∀ l : List CeD, sameC l l = true
  | [] => rfl
  | d :: l => by rw [sameC, cellEq_self, sameC_self l]; rfl
theorem sameT_self (l : List ByteArray) : sameT l l = true := by rw [sameT_iff]; exact decide_eq_true rfl
theorem sameS_self (s : ScD) : sameS s s = true := by
  unfold sameS
  rw [sameT_self, sameC_self]
  simp
/-! ### Once is enough -/
theorem fitD_few (col tru wid lnk wid' lnk' : Bool) (hw : wid' = true → wid = true) (hl : lnk' = true → lnk = true) (d : CeD) :
    fitD col tru wid' lnk' (fitD col tru wid lnk d) = fitD col tru wid' lnk' d := by
  unfold fitD
  simp only [fitC_twice]
  have e2 : (if lnk' then (if lnk then d.ln else 0) else 0) = (if lnk' then d.ln else 0) := by
    cases lnk' <;> cases lnk <;> simp_all
  rw [e2]
  cases wid
  · have hw' : wid' = false := by cases wid' <;> simp_all
    subst hw'
    by_cases h : d.w = 0
    · simp [h]
    · simp [h]
  · simp
theorem scZ_right : rightS scZ = false := by kernel_rfl
theorem projS_scZ (col tru wid lnk ttl mou : Bool) : projS col tru wid lnk ttl mou scZ = scZ := by
  unfold projS
  rw [scZ_right]; rfl
/-! ### What may be stays so -/
theorem widI_63 : widI 63 = 1 := by kernel_rfl
theorem widI_32 : widI 32 = 1 := by kernel_rfl
theorem mayC_w {d : CeD} (h : mayC d = true) : d.w = 0 ∨ d.w = 1 ∨ d.w = 2 := by
  simp only [mayC, Bool.and_eq_true, Bool.or_eq_true, decide_eq_true_eq] at h
  omega
theorem mayC_fit (col tru wid lnk : Bool) {d : CeD} (h : mayC d = true) : mayC (fitD col tru wid lnk d) = true := by
  have h2 := h
  simp only [mayC, penMay, Bool.and_eq_true, Bool.or_eq_true, decide_eq_true_eq] at h2
  obtain ⟨⟨h3, h4⟩, h5⟩ := h2
  have e1 := fitC_may col tru h3
  have e2 := fitC_may col tru h4
  simp only [mayC, penMay, fitD, Bool.and_eq_true, Bool.or_eq_true, decide_eq_true_eq]
  refine ⟨⟨e1, e2⟩, ?_⟩
  cases wid
  · rcases h5 with (⟨a, b⟩ | ⟨a, b⟩) | ⟨a, b⟩
    · left; left; simp [a, b]
    · left; left; simp [a, widI_63]
    · left; left; simp [a, widI_32]
  · simpa using h5
theorem penEq_fit (col tru wid lnk : Bool) {a b : CeD} (h : penEq a b = true) : penEq (fitD col tru wid lnk a) (fitD col tru wid lnk b) = true := by
  simp only [penEq, Bool.and_eq_true, decide_eq_true_eq] at h
  obtain ⟨⟨⟨h1, h2⟩, h3⟩, h4⟩ := h
  simp only [penEq, fitD, h1, h2, h3, h4, decide_true, Bool.and_self]
theorem isL_narrow (col tru lnk : Bool) (d : CeD) : isL (fitD col tru false lnk d) = false ∧ isR (fitD col tru false lnk d) = false := by
  unfold isL isR fitD
  by_cases h : d.w = 0
  · simp [h]
  · simp [h]
theorem goodP_fit (col tru wid lnk : Bool) {p : Option CeD} {c : CeD} (h : goodP p c = true) : goodP (p.map (fitD col tru wid lnk)) (fitD col tru wid lnk c) = true := by
  unfold goodP at h ⊢
  rw [Bool.and_eq_true, Bool.and_eq_true] at h
  obtain ⟨h1, h2, h3⟩ := h
  rw [mayC_fit _ _ _ _ h1, Bool.true_and]
  cases wid
  · have e := (isL_narrow col tru lnk c).2
    have e2 : lft (p.map (fitD col tru false lnk)) = false := by
      cases p with
      | none => rfl
      | some d => exact (isL_narrow col tru lnk d).1
    rw [e, e2]; rfl
  · have e : isR (fitD col tru true lnk c) = isR c := rfl
    have e2 : lft (p.map (fitD col tru true lnk)) = lft p := by cases p <;> rfl
    rw [e, e2, h2, Bool.true_and]
    cases p with
    | none => exact h3
    | some d =>
      show (!isL d || penEq (fitD col tru true lnk d) (fitD col tru true lnk c)) = true
      have h3' : (!isL d || penEq d c) = true := h3
      cases hl : isL d
      · rfl
      · rw [hl] at h3'
        exact penEq_fit _ _ _ _ (by simpa using h3')
theorem rowP_fit (col tru wid lnk : Bool) : ∀ (l : List CeD) (p : Option CeD), rowP p l = true → rowP (p.map (fitD col tru wid lnk)) (l.map (fitD col tru wid lnk)) = true
  | [], p, h => by
    unfold rowP at h
    show (!lft (p.map (fitD col tru wid lnk))) = true
    cases p with
    | none => rfl
    | some d =>
      cases wid
      · have := (isL_narrow col tru lnk d).1
        show (!isL _) = true
        rw [this]; rfl
      · exact h
  | c :: l, p, h => by
    rw [rowP, Bool.and_eq_true] at h
    show (goodP _ _ && rowP (some (fitD col tru wid lnk c)) _) = true
    rw [goodP_fit _ _ _ _ h.1, Bool.true_and]
    exact rowP_fit col tru wid lnk l (some c) h.2
theorem rowMay_fit (col tru wid lnk : Bool) {l : List CeD} (h : rowMayP l = true) : rowMayP (l.map (fitD col tru wid lnk)) = true := by
  unfold rowMayP at h ⊢
  rw [List.length_map]
  rw [Bool.and_eq_true, Bool.and_eq_true] at h ⊢
  exact ⟨h.1, h.2.1, rowP_fit col tru wid lnk l none h.2.2⟩
theorem rowAt_map (f : CeD → CeD) (cols y : Nat) (l : List CeD) : rowAt cols y (l.map f) = (rowAt cols y l).map f := by
  unfold rowAt
  rw [List.map_take, List.map_drop]
theorem rowsGo_fit (col tru wid lnk : Bool) (cols : Nat) (l : List CeD) : ∀ (k y : Nat), rowsGo cols y k l = true → rowsGo cols y k (l.map (fitD col tru wid lnk)) = true
  | 0, _, _ => rfl
  | k + 1, y, h => by
    rw [rowsGo, Bool.and_eq_true] at h ⊢
    rw [rowAt_map]
    exact ⟨rowMay_fit _ _ _ _ h.1, rowsGo_fit col tru wid lnk cols l k (y + 1) h.2⟩
theorem gridP_fit (col tru wid lnk : Bool) {cols rows : Int} {l : List CeD} (h : gridP cols rows l = true) : gridP cols rows (l.map (fitD col tru wid lnk)) = true := by
  unfold gridP at h ⊢
  rw [List.length_map]
  rw [Bool.and_eq_true, Bool.and_eq_true] at h ⊢
  exact ⟨h.1, h.2.1, rowsGo_fit _ _ _ _ _ _ _ _ h.2.2⟩
theorem topGo_fit (col tru wid : Bool) (m : Int) : ∀ (l : List CeD) (t : Int), topGo m t (l.map (fitD col tru wid true)) = topGo m t l
  | [], _ => rfl
  | c :: l, t => by
    show topGo m t (fitD col tru wid true c :: l.map (fitD col tru wid true)) = _
    rw [topGo, topGo, topGo_fit col tru wid m l, topGo_fit col tru wid m l]
    rfl
theorem topGo_no (col tru wid : Bool) : ∀ (l : List CeD), topGo 0 0 (l.map (fitD col tru wid false)) = some 0
  | [] => rfl
  | c :: l => by
    show topGo 0 0 (fitD col tru wid false c :: l.map (fitD col tru wid false)) = _
    rw [topGo, if_neg (by simp [fitD]), if_neg (by simp [fitD])]
    exact topGo_no col tru wid l
theorem lnkP_fit (col tru wid lnk : Bool) {l : List CeD} {ls : List ByteArray} (h : lnkP l ls = true) : lnkP (l.map (fitD col tru wid lnk)) (if lnk then ls else []) = true := by
  cases lnk
  · unfold lnkP
    show (decide (([] : List ByteArray).length ≤ 16) && (lksGo [] [] && decide (topGo ((([] : List ByteArray).length : Nat) : Int) 0 _ = some ((([] : List ByteArray).length : Nat) : Int)))) = true
    have e := topGo_no col tru wid l
    rw [show ((([] : List ByteArray).length : Nat) : Int) = 0 from rfl, e]
    rfl
  · unfold lnkP at h ⊢
    simp only [if_true]
    rw [topGo_fit]; exact h
theorem projS_right (col tru wid lnk ttl mou : Bool) {s : ScD} (h : rightS s = true) : rightS (projS col tru wid lnk ttl mou s) = true := by
  unfold projS
  rw [if_pos h]
  unfold rightS at h ⊢
  simp only [Bool.and_eq_true] at h ⊢
  obtain ⟨g1, g2, g3, g4, g5, g6, g7, g8, g9, g10⟩ := h
  refine ⟨gridP_fit _ _ _ _ g1, lnkP_fit _ _ _ _ g2, g3, g4, g5, g6, ?_, ?_, ?_, ?_⟩
  · cases mou
    · rfl
    · exact g7
  · cases ttl
    · rfl
    · exact g8
  · cases ttl
    · exact utfGo_nil _
    · exact g9
  · cases ttl
    · exact wdGo_nil _
    · exact g10
theorem projS_cases (col tru wid lnk ttl mou : Bool) (s : ScD) : (rightS s = false ∧ projS col tru wid lnk ttl mou s = scZ) ∨
    (rightS s = true ∧ projS col tru wid lnk ttl mou s = ⟨s.cols, s.rows, s.cells.map (fitD col tru wid lnk), s.x, s.y, s.hid, if mou then s.mouse else 0, if ttl then s.title else ⟨#[]⟩, if lnk then s.links else []⟩) := by
  cases h : rightS s
  · left; exact ⟨rfl, by unfold projS; rw [h]; rfl⟩
  · right; exact ⟨rfl, by unfold projS; rw [h]; rfl⟩
/-- For fewer features what was answered is as good as the screen. -/
theorem projS_few (col tru wid lnk ttl mou wid' lnk' ttl' mou' : Bool) (hw : wid' = true → wid = true) (hl : lnk' = true → lnk = true) (ht : ttl' = true → ttl = true) (hm : mou' = true → mou = true) (s : ScD) :
    projS col tru wid' lnk' ttl' mou' (projS col tru wid lnk ttl mou s) = projS col tru wid' lnk' ttl' mou' s := by
  rcases projS_cases col tru wid lnk ttl mou s with ⟨h, e⟩ | ⟨h, e⟩
  · rw [e, projS_scZ]
    rcases projS_cases col tru wid' lnk' ttl' mou' s with ⟨_, e2⟩ | ⟨h2, _⟩
    · rw [e2]
    · rw [h] at h2; cases h2
  · have hr := projS_right col tru wid lnk ttl mou h
    rcases projS_cases col tru wid' lnk' ttl' mou' (projS col tru wid lnk ttl mou s) with ⟨h2, _⟩ | ⟨_, e2⟩
    · rw [hr] at h2; cases h2
    rcases projS_cases col tru wid' lnk' ttl' mou' s with ⟨h3, _⟩ | ⟨_, e3⟩
    · rw [h] at h3; cases h3
    rw [e2, e3, e]
    have c1 : (s.cells.map (fitD col tru wid lnk)).map (fitD col tru wid' lnk') = s.cells.map (fitD col tru wid' lnk') := by
      rw [List.map_map]
      exact List.map_congr_left fun d _ => fitD_few col tru wid lnk wid' lnk' hw hl d
    have c2 : (if mou' then (if mou then s.mouse else 0) else 0) = (if mou' then s.mouse else 0) := by cases mou' <;> cases mou <;> simp_all
    have c3 : (if ttl' then (if ttl then s.title else ⟨#[]⟩) else ⟨#[]⟩) = (if ttl' then s.title else ⟨#[]⟩) := by cases ttl' <;> cases ttl <;> simp_all
    have c4 : (if lnk' then (if lnk then s.links else []) else []) = (if lnk' then s.links else []) := by cases lnk' <;> cases lnk <;> simp_all
    simp only [c1, c2, c3, c4]
theorem projS_twice (col tru wid lnk ttl mou : Bool) (s : ScD) : projS col tru wid lnk ttl mou (projS col tru wid lnk ttl mou s) = projS col tru wid lnk ttl mou s :=
  projS_few _ _ _ _ _ _ _ _ _ _ id id id id s
theorem fitD_all (d : CeD) : fitD true true true true d = d := by
  unfold fitD
  simp [fitC_all]
theorem projS_all {s : ScD} (h : rightS s = true) : projS true true true true true true s = s := by
  unfold projS
  rw [if_pos h]
  have : s.cells.map (fitD true true true true) = s.cells := by
    rw [List.map_congr_left (g := id) (fun d _ => fitD_all d), List.map_id]
  rw [this]; rfl
theorem topGo_zero : ∀ (l : List CeD), topGo 0 0 l = some 0 → ∀ d ∈ l, d.ln ≤ 0
  | [], _, d, hd => by cases hd
  | c :: l, h, d, hd => by
    rw [topGo] at h
    by_cases h1 : 0 + 1 < c.ln ∨ 0 < c.ln
    · rw [if_pos h1] at h; cases h
    · rw [if_neg h1, if_neg (by omega)] at h
      rcases List.mem_cons.1 hd with rfl | hd
      · omega
      · exact topGo_zero l h d hd
/-- What every terminal can show is shown as it is. -/
theorem projS_plain (col tru wid lnk ttl mou : Bool) {s : ScD} (h : rightS s = true) (hl : s.links = []) (ht : s.title = ⟨#[]⟩) (hm : s.mouse = 0) (hc : ∀ d ∈ s.cells, d.w = 0 ∧ d.fg ≤ 16 ∧ d.bg ≤ 16) (h0 : ∀ d ∈ s.cells, 0 ≤ d.ln) : projS col tru wid lnk ttl mou s = s := by
  have hz : ∀ d ∈ s.cells, d.ln = 0 := by
    intro d hd
    have h2 := h
    unfold rightS lnkP at h2
    simp only [Bool.and_eq_true, decide_eq_true_eq] at h2
    have h3 := h2.2.1.2.2
    rw [hl] at h3
    have := topGo_zero s.cells h3 d hd
    have := h0 d hd
    omega
  unfold projS
  rw [if_pos h]
  have : s.cells.map (fitD col tru wid lnk) = s.cells := by
    rw [List.map_congr_left (g := id) (fun d hd => ?_), List.map_id]
    obtain ⟨a1, a2, a3⟩ := hc d hd
    have a4 := hz d hd
    unfold fitD
    rw [fitC_small _ _ a2, fitC_small _ _ a3, a4]
    simp only [a1]
    obtain ⟨dr, dw, dfg, dbg, dat, dln⟩ := d
    simp only at a1 a4
    subst a1 a4
    simp
  rw [this, hl, ht, hm]
  obtain ⟨s1, s2, s3, s4, s5, s6, s7, s8, s9⟩ := s
  simp only at hl ht hm
  subst hl ht hm
  cases lnk <;> cases ttl <;> cases mou <;> rfl
/-! ### Blanks -/
def blankD : CeD := ⟨32, 0, 0, 0, 0, 0⟩
def blankS (cols rows : Int) : ScD := ⟨cols, rows, List.replicate (cols * rows).toNat blankD, 0, 0, false, 0, ⟨#[]⟩, []⟩
theorem mayC_blank : mayC blankD = true := by kernel_rfl
theorem rowP_blank : ∀ (n : Nat) (p : Option CeD), (p = none ∨ p = some blankD) → rowP p (List.replicate n blankD) = true
  | 0, p, h => by rcases h with rfl | rfl <;> rfl
  | n + 1, p, h => by
    rw [List.replicate_succ, rowP, rowP_blank n (some blankD) (.inr rfl), Bool.and_true, goodP, mayC_blank]
    rcases h with rfl | rfl <;> rfl
theorem rowsGo_blank (cols N : Nat) (h1 : 1 ≤ cols) (h2 : cols ≤ 80) : ∀ (k y : Nat), (y + k) * cols ≤ N → rowsGo cols y k (List.replicate N blankD) = true
  | 0, _, _ => rfl
  | k + 1, y, h => by
    rw [rowsGo, rowsGo_blank cols N h1 h2 k (y + 1) (by rw [show y + 1 + k = y + (k + 1) by omega]; exact h), Bool.and_true, rowAt, List.drop_replicate, List.take_replicate]
    have h3 : cols ≤ N - y * cols := by
      have : (y + (k + 1)) * cols = y * cols + k * cols + cols := by rw [Nat.add_mul, Nat.add_mul]; omega
      omega
    rw [Nat.min_eq_left h3, rowMayP, List.length_replicate, decide_eq_true h1, decide_eq_true h2, rowP_blank cols none (.inl rfl)]
    rfl
theorem topGo_blank (n : Nat) : topGo 0 0 (List.replicate n blankD) = some 0 := by
  induction n with
  | zero => rfl
  | succ n ih => rw [List.replicate_succ, topGo, if_neg (by simp [blankD]), if_neg (by simp [blankD]), ih]
theorem blank_right {cols rows : Int} (h : fitsI cols rows = true) : rightS (blankS cols rows) = true := by
  have h' := h
  simp only [fitsI, Bool.and_eq_true, decide_eq_true_eq] at h'
  obtain ⟨h1, h2, h3, h4⟩ := h'
  have hp : 0 ≤ cols * rows := Int.mul_nonneg (by omega) (by omega)
  obtain ⟨c, rfl⟩ : ∃ c : Nat, cols = (c : Int) := ⟨cols.toNat, by omega⟩
  obtain ⟨r, rfl⟩ : ∃ r : Nat, rows = (r : Int) := ⟨rows.toNat, by omega⟩
  have e : ((c : Int) * (r : Int)).toNat = c * r := by rw [← Int.natCast_mul]; rfl
  unfold rightS
  simp only [Bool.and_eq_true]
  refine ⟨?_, ?_, ?_, ?_, ?_, ?_, ?_, ?_, ?_, ?_⟩
  · unfold gridP
    show (fitsI (c : Int) (r : Int) && (decide (((List.replicate ((c : Int) * (r : Int)).toNat blankD).length : Int) = (c : Int) * (r : Int)) && rowsGo (c : Int).toNat 0 (r : Int).toNat (List.replicate ((c : Int) * (r : Int)).toNat blankD))) = true
    rw [h]
    simp only [Bool.true_and, Bool.and_eq_true, decide_eq_true_eq, List.length_replicate, e, Int.toNat_natCast]
    refine ⟨by rw [Int.natCast_mul], rowsGo_blank c (c * r) (by omega) (by omega) r 0 (by rw [Nat.zero_add, Nat.mul_comm]; exact Nat.le_refl _)⟩
  · unfold lnkP
    show (decide (([] : List ByteArray).length ≤ 16) && (lksGo [] [] && decide (topGo ((([] : List ByteArray).length : Nat) : Int) 0 _ = some ((([] : List ByteArray).length : Nat) : Int)))) = true
    rw [show ((([] : List ByteArray).length : Nat) : Int) = 0 from rfl]
    rw [show topGo 0 0 (blankS (c : Int) (r : Int)).cells = some 0 from topGo_blank _]
    rfl
  · rfl
  · show (!decide ((c : Int) ≤ 0)) = true
    rw [decide_eq_false (by omega)]; rfl
  · rfl
  · show (!decide ((r : Int) ≤ 0)) = true
    rw [decide_eq_false (by omega)]; rfl
  · rfl
  · rfl
  · exact utfGo_nil _
  · exact wdGo_nil _
theorem blank_proj (col tru wid lnk ttl mou : Bool) {cols rows : Int} (h : fitsI cols rows = true) : projS col tru wid lnk ttl mou (blankS cols rows) = blankS cols rows :=
  projS_plain col tru wid lnk ttl mou (blank_right h) rfl rfl rfl (fun d hd => by have := List.eq_of_mem_replicate hd; subst this; exact ⟨rfl, by decide, by decide⟩) (fun d hd => by have := List.eq_of_mem_replicate hd; subst this; decide)
/-- Cells of a screen that may be. -/
theorem rowP_may : ∀ (l : List CeD) (p : Option CeD), rowP p l = true → ∀ d ∈ l, mayC d = true
  | [], _, _, d, hd => by cases hd
  | c :: l, p, h, d, hd => by
    rw [rowP, Bool.and_eq_true] at h
    rcases List.mem_cons.1 hd with rfl | hd
    · have := h.1
      unfold goodP at this
      rw [Bool.and_eq_true] at this
      exact this.1
    · exact rowP_may l (some c) h.2 d hd
theorem rowsGo_may (cols : Nat) (l : List CeD) : ∀ (k y : Nat), rowsGo cols y k l = true → ∀ j, y * cols ≤ j → j < (y + k) * cols → ∀ (h : j < l.length), mayC l[j] = true
  | 0, y, _, j, h1, h2, _ => by simp at h2; omega
  | k + 1, y, h, j, h1, h2, hj => by
    rw [rowsGo, Bool.and_eq_true] at h
    rcases Nat.lt_or_ge j ((y + 1) * cols) with hlt | hge
    · have hm : rowP none (rowAt cols y l) = true := by
        have := h.1
        unfold rowMayP at this
        simp only [Bool.and_eq_true] at this
        exact this.2.2
      refine rowP_may _ _ hm _ ?_
      unfold rowAt
      have hlt' : j - y * cols < cols := by rw [Nat.add_mul, Nat.one_mul] at hlt; omega
      rw [List.mem_iff_getElem]
      refine ⟨j - y * cols, by rw [List.length_take, List.length_drop]; omega, ?_⟩
      rw [List.getElem_take, List.getElem_drop]
      congr 1; omega
    · exact rowsGo_may cols l k (y + 1) h.2 j hge (by rw [show y + 1 + k = y + (k + 1) by omega]; exact h2) hj
theorem gridP_may {cols rows : Int} {l : List CeD} (h : gridP cols rows l = true) : ∀ d ∈ l, mayC d = true := by
  unfold gridP fitsI at h
  simp only [Bool.and_eq_true, decide_eq_true_eq] at h
  obtain ⟨⟨h1, h2, h3, h4⟩, h5, h6⟩ := h
  intro d hd
  obtain ⟨j, hj, rfl⟩ := List.mem_iff_getElem.1 hd
  refine rowsGo_may _ _ _ _ h6 j (by omega) ?_ hj
  obtain ⟨c, rfl⟩ : ∃ c : Nat, cols = (c : Int) := ⟨cols.toNat, by omega⟩
  obtain ⟨r, rfl⟩ : ∃ r : Nat, rows = (r : Int) := ⟨rows.toNat, by omega⟩
  rw [Int.toNat_natCast, Int.toNat_natCast, Nat.zero_add, Nat.mul_comm]
  have : (l.length : Int) = ((c * r : Nat) : Int) := by rw [Int.natCast_mul]; exact h5
  have h7 : l.length = c * r := by exact_mod_cast this
  omega
theorem rightS_grid {s : ScD} (h : rightS s = true) : gridP s.cols s.rows s.cells = true := by
  unfold rightS at h
  simp only [Bool.and_eq_true] at h
  exact h.1
theorem rightS_w {s : ScD} (h : rightS s = true) : ∀ d ∈ s.cells, d.w = 0 ∨ d.w = 1 ∨ d.w = 2 := fun d hd => mayC_w (gridP_may (rightS_grid h) d hd)
end Go.Proofs.YtipofokinjkclaaDoor

/- What cell.Blank, the reference's Blank of a cell and grid.New answer. Conditions: none. -/
namespace Go.Proofs.YtipofokinjkclaaDoor
open Go Go.RowKit Go.Lib

theorem results_row_tmp {P : Program} {fn : Func} {p u : Tmp} {ty : TypeId} (h : fn.results = #[.cell p ty, .tmp u]) (tmps : Array Value) (w : World) (g : Nat) (t : TypeId) (cs : Array Value) (fr : Nat × Nat) (d : TypeDesc) (Y : Value)
    (hp : tmps.getD p undef = .pointer (some ⟨g, 0, none⟩)) (hY : tmps.getD u undef = Y) (hg : w.heap[g]? = some (.cells cs t fr))
    (hu : P.underlying ty = some d) (hd : (match d with | .struct _ | .array _ _ => true | _ => false) = true) (hi : (P.info? ty).map (·.size) = some cs.size) :
    (results fn tmps).run P w = .ok (.tuple #[.agg cs, Y]) w := by
  rw [results_cell_tmp h, hp, hY]
  simp [asAddr, run_loadVar_row w g t ty cs fr d hg hu hd hi]
def penZ : Value := .agg #[.int .u32 0, .int .u32 0, .int .u8 0, .int .u16 0]
def gridA (C R : Int) (v : Value) : Array Value := #[.int .i64 C, .int .i64 R, v]
theorem gridA_one (C R : Int) (A : Option Addr) (n c : Nat) : (gridA C R (.slice A n c)).all (·.oneCell') = true := by
  unfold gridA
  simp [Value.oneCell']
theorem info_grid : (Tryd.prog.info? 67).map (·.size) = some 3 := by kernel_rfl
set_option maxRecDepth 100000 in
set_option maxHeartbeats 4000000 in
theorem cellBlank_c (w : World) : Calls Tryd.prog 137 #[penZ] w fun e w' => e = .returned blankD.val ∧ Below w.heap.size w w' := by
  obtain ⟨W0, eW0⟩ : ∃ W0, W0 = (w.alloc (.cells #[.int .u32 0, .int .u32 0, .int .u8 0, .int .u16 0] 45)).alloc (.cells (CeD.arr ⟨0, 0, 0, 0, 0, 0⟩) 47) := ⟨_, rfl⟩
  obtain ⟨p, ep⟩ : ∃ p, p = w.heap.size := ⟨_, rfl⟩
  obtain ⟨q, eq⟩ : ∃ q, q = w.heap.size + 1 := ⟨_, rfl⟩
  have hb0 : Below w.heap.size w W0 := by rw [eW0]; exact ((Below.refl _ _).alloc (Nat.le_refl _) _).alloc (by simp) _
  have hp0 : W0.heap[p]? = some (.cells #[.int .u32 0, .int .u32 0, .int .u8 0, .int .u16 0] 45 (0, 0)) := by rw [eW0, ep]; exact (Below.heap_alloc _ _ _ (by simp)).trans (heap_alloc_new _ _)
  have hq0 : W0.heap[q]? = some (.cells (CeD.arr ⟨0, 0, 0, 0, 0, 0⟩) 47 (0, 0)) := by rw [eW0, eq]; exact heap_alloc2_new _ _ _
  have eW0' : (w.alloc (.cells #[.int .u32 0, .int .u32 0, .int .u8 0, .int .u16 0] 45)).alloc (.cells #[.int .i32 0, .int .u8 0, .int .u32 0, .int .u32 0, .int .u8 0, .int .u16 0] 47) = W0 := by rw [eW0]; rfl
  have x1 : W0.cell? ⟨p, 1, none⟩ = some (.int .u32 0) := heap_cell hp0 1
  have EW0 := Lib.hid eW0'
  have EQ := Lib.hid eq
  have EP := Lib.hid ep
  have HQ0 := Lib.hid hq0
  have HB0 := Lib.hid hb0
  have HPQ : Hid (w.heap.size ≤ q) := Lib.hid (by omega)
  clear eW0 ep eq hb0 hp0 hq0 eW0'
  show Calls _ _ #[.agg #[.int .u32 0, .int .u32 0, .int .u8 0, .int .u16 0]] w _
  go_enter Tryd.func137, Tryd.ntmps137
  go_upto_region 1 with (fail)
  rw [EW0.out, ← EQ.out, ← EP.out]
  go_wp2_with (first
    | (refine wpList_store_rowTo rfl 47 (.tmp 2) (.tmp 6) rfl rfl q (CeD.arr ⟨32, 0, 0, 0, 0, 0⟩) rfl rfl 47 _ HQ0.out (info_cell.trans rfl) rfl (CeD.one _) ?_))
  refine bodyPost_ret (v := .agg (CeD.arr ⟨32, 0, 0, 0, 0, 0⟩)) (results_cell_row (p := 2) (ty := 47) rfl _ _ q 47 _ (0, 0) _ rfl (setRow_heap W0 q _ _ _ _ HQ0.out) Tryd.underlying47 rfl (info_cell.trans rfl)) rfl ?_
  exact ⟨rfl, below_setRow HB0.out HPQ.out _⟩
set_option maxRecDepth 100000 in
set_option maxHeartbeats 4000000 in
theorem refBlank08_c (w : World) : Calls Tryd.prog 139 #[penZ] w fun e w' => e = .returned blankD.val ∧ Below w.heap.size w w' := by
  obtain ⟨W0, eW0⟩ : ∃ W0, W0 = (w.alloc (.cells #[.int .u32 0, .int .u32 0, .int .u8 0, .int .u16 0] 45)).alloc (.cells (CeD.arr ⟨0, 0, 0, 0, 0, 0⟩) 47) := ⟨_, rfl⟩
  obtain ⟨p, ep⟩ : ∃ p, p = w.heap.size := ⟨_, rfl⟩
  obtain ⟨q, eq⟩ : ∃ q, q = w.heap.size + 1 := ⟨_, rfl⟩
  have hb0 : Below w.heap.size w W0 := by rw [eW0]; exact ((Below.refl _ _).alloc (Nat.le_refl _) _).alloc (by simp) _
  have hp0 : W0.heap[p]? = some (.cells #[.int .u32 0, .int .u32 0, .int .u8 0, .int .u16 0] 45 (0, 0)) := by rw [eW0, ep]; exact (Below.heap_alloc _ _ _ (by simp)).trans (heap_alloc_new _ _)
  have hq0 : W0.heap[q]? = some (.cells (CeD.arr ⟨0, 0, 0, 0, 0, 0⟩) 47 (0, 0)) := by rw [eW0, eq]; exact heap_alloc2_new _ _ _
  have eW0' : (w.alloc (.cells #[.int .u32 0, .int .u32 0, .int .u8 0, .int .u16 0] 45)).alloc (.cells #[.int .i32 0, .int .u8 0, .int .u32 0, .int .u32 0, .int .u8 0, .int .u16 0] 47) = W0 := by rw [eW0]; rfl
  have x1 : W0.cell? ⟨p, 1, none⟩ = some (.int .u32 0) := heap_cell hp0 1
  have EW0 := Lib.hid eW0'
  have EQ := Lib.hid eq
  have EP := Lib.hid ep
  have HQ0 := Lib.hid hq0
  have HB0 := Lib.hid hb0
  have HPQ : Hid (w.heap.size ≤ q) := Lib.hid (by omega)
  clear eW0 ep eq hb0 hp0 hq0 eW0'
  show Calls _ _ #[.agg #[.int .u32 0, .int .u32 0, .int .u8 0, .int .u16 0]] w _
  go_enter Tryd.func139, Tryd.ntmps139
  go_upto_region 1 with (fail)
  rw [EW0.out, ← EQ.out, ← EP.out]
  go_wp2_with (first
    | (refine wpList_store_rowTo rfl 47 (.tmp 2) (.tmp 6) rfl rfl q (CeD.arr ⟨32, 0, 0, 0, 0, 0⟩) rfl rfl 47 _ HQ0.out (info_cell.trans rfl) rfl (CeD.one _) ?_))
  refine bodyPost_ret (v := .agg (CeD.arr ⟨32, 0, 0, 0, 0, 0⟩)) (results_cell_row (p := 2) (ty := 47) rfl _ _ q 47 _ (0, 0) _ rfl (setRow_heap W0 q _ _ _ _ HQ0.out) Tryd.underlying47 rfl (info_cell.trans rfl)) rfl ?_
  exact ⟨rfl, below_setRow HB0.out HPQ.out _⟩
/-- k blanks, the rest as made. -/
def halfB (N k : Nat) : List CeD := List.replicate k blankD ++ List.replicate (N - k) CeD.zero
theorem halfB_len {N k : Nat} (h : k ≤ N) : (halfB N k).length = N := by simp [halfB]; omega
theorem halfB_set {N k : Nat} (h : k < N) : (halfB N k).set k blankD = halfB N (k + 1) := by
  unfold halfB
  rw [List.set_append_right _ _ (by simp), List.length_replicate, Nat.sub_self, show N - k = (N - (k + 1)) + 1 by omega, List.replicate_succ, List.set_cons_zero]
  rw [List.replicate_succ', List.append_assoc]; rfl
theorem halfB_end (N : Nat) : halfB N N = List.replicate N blankD := by simp [halfB]
set_option maxRecDepth 100000 in
set_option maxHeartbeats 16000000 in
theorem gridNew_c (C R N : Nat) (w : World) (hf : fitsI (C : Int) (R : Int) = true) (hN : N = C * R) :
    Calls Tryd.prog 108 #[.int .i64 (C : Int), .int .i64 (R : Int)] w fun e w' => ∃ b, e = .returned (.tuple #[.agg (gridA C R (.slice (some ⟨b, 0, none⟩) N N)), .int .i64 0]) ∧ OwnC w' w.heap.size (.slice (some ⟨b, 0, none⟩) N N) (List.replicate N blankD) ∧ Below w.heap.size w w' := by
  have hN2 : N ≤ 1920 := by
    simp only [fitsI, Bool.and_eq_true, decide_eq_true_eq] at hf
    have := Nat.mul_le_mul (show C ≤ 80 by omega) (show R ≤ 24 by omega)
    omega
  have eM : (C : Int) * (R : Int) = (N : Int) := by rw [hN]; exact (Int.natCast_mul C R).symm
  have m1 : (0 : Int) ≤ (C : Int) * (R : Int) := by omega
  have m2 : (C : Int) * (R : Int) ≤ 1920 := by omega
  have HF := Lib.hid hf
  have EM := Lib.hid eM
  obtain ⟨W0, eW0⟩ : ∃ W0, W0 = w.alloc (.cells (gridA 0 0 (.slice none 0 0)) 67) := ⟨_, rfl⟩
  obtain ⟨q, eq⟩ : ∃ q, q = w.heap.size := ⟨_, rfl⟩
  have HB0 : Hid (Below w.heap.size w W0) := Lib.hid (by rw [eW0]; exact (Below.refl _ _).alloc (Nat.le_refl _) _)
  have HQ0 : Hid (W0.heap[q]? = some (.cells (gridA 0 0 (.slice none 0 0)) 67 (0, 0))) := Lib.hid (by rw [eW0, eq]; exact heap_alloc_new _ _)
  have EW0 : Hid (w.alloc (.cells #[.int .i64 0, .int .i64 0, .slice none 0 0] 67) = W0) := Lib.hid (by rw [eW0]; rfl)
  have EQ := Lib.hid eq
  clear hf eM hN eW0 eq
  go_enter Tryd.func108, Tryd.ntmps108
  go_upto_region 1 with (fail)
  rw [EW0.out, ← EQ.out]
  go_upto_region 3 with (go_at_call 103; (with_reducible refine (fits_c (C : Int) (R : Int) W0).mono ?_); rintro _ wx ⟨rfl, hwx⟩; rw [hwx, HF.out]; clear hwx)
  go_upto_region 4 with (first
    | (at_make; refine wpList_makeC _ rfl (.tmp 17) (.tmp 17) rfl _ _ _ _ N rfl rfl EM.out EM.out (by omega) ?_; intro w1 h1 h2 _; have H1 := Lib.hid h1; have HB1 := Lib.hid h2; clear h1 h2)
    | (refine wpList_store_rowTo rfl 67 (.tmp 6) (.tmp 19) rfl rfl w1.heap.size (gridA (C : Int) (R : Int) (.slice (some ⟨W0.heap.size, 0, none⟩) N N)) rfl rfl 67 _ (heap_alloc_new w1 _) (info_grid.trans rfl) rfl (gridA_one _ _ _ _ _) ?_))
  obtain ⟨b, eb⟩ : ∃ b, b = W0.heap.size := ⟨_, rfl⟩
  rw [← eb] at H1 ⊢
  generalize eX : World.alloc w1 _ = X
  have hx : Below w1.heap.size w1 X := by rw [← eX]; exact (Below.refl _ _).alloc (Nat.le_refl _) _
  obtain ⟨old, hq2⟩ : ∃ old, X.heap[w1.heap.size]? = some (.cells old 67 (0, 0)) := ⟨_, by rw [← eX]; exact heap_alloc_new _ _⟩
  obtain ⟨g, eg⟩ : ∃ g, g = w1.heap.size := ⟨_, rfl⟩
  obtain ⟨W2, eW2⟩ : ∃ W2, W2 = X.setRow w1.heap.size (gridA (C : Int) (R : Int) (.slice (some ⟨b, 0, none⟩) N N)) := ⟨_, rfl⟩
  rw [← eW2, ← eg]
  have hfar : ∀ j, j < w1.heap.size → W2.heap[j]? = w1.heap[j]? := fun j hj => by rw [eW2]; exact (setRow_other _ _ _ _ (Nat.ne_of_lt hj)).trans (hx.block j hj)
  have HG2 : Hid (W2.heap[g]? = some (.cells (gridA (C : Int) (R : Int) (.slice (some ⟨b, 0, none⟩) N N)) 67 (0, 0))) := Lib.hid (by rw [eW2, eg]; exact setRow_heap _ _ _ _ _ _ hq2)
  have HO2 : Hid (OwnC W2 b (.slice (some ⟨b, 0, none⟩) N N) (halfB N 0)) := Lib.hid (by
    have h : OwnC w1 b (.slice (some ⟨b, 0, none⟩) N N) (halfB N 0) := by simpa [halfB] using H1.out
    exact OwnC.keep h (fun j e => hfar j (OwnC.lt h j e).2))
  have hB01 := HB0.out.trans (HB1.out.mono HB0.out.size)
  have HQ2 : Hid (W2.heap[q]? = some (.cells (gridA 0 0 (.slice none 0 0)) 67 (0, 0))) := Lib.hid ((hfar q (Nat.lt_of_lt_of_le (heap_lt HQ0.out) HB1.out.size)).trans (HB1.out.block q (heap_lt HQ0.out) |>.trans HQ0.out))
  have HB2 : Hid (Below w.heap.size w W2) := Lib.hid (by rw [eW2]; exact below_setRow (hB01.trans (hx.mono hB01.size)) hB01.size _)
  have HS : Hid (q < W0.heap.size ∧ b < g ∧ W0.heap.size ≤ b ∧ w.heap.size ≤ q ∧ w.heap.size ≤ W0.heap.size) := Lib.hid ⟨heap_lt HQ0.out, by rw [eg]; exact (OwnC.lt H1.out b rfl).2, (by omega), Nat.le_of_eq EQ.out.symm, HB0.out.size⟩
  have y2 : W2.cell? ⟨g, 2, none⟩ = some (.slice (some ⟨b, 0, none⟩) N N) := heap_cell HG2.out 2
  clear eX hx hq2 eg eW2 hfar hB01 eb m1 m2
  go_wp2_with (fail)
  clear y2
  go_loopw [23] (fun i wr => ∃ k : Nat, k ≤ N ∧ i = .int .i64 k ∧ Hid (OwnC wr b (.slice (some ⟨b, 0, none⟩) N N) (halfB N k)) ∧ Hid (wr.heap[g]? = some (.cells (gridA (C : Int) (R : Int) (.slice (some ⟨b, 0, none⟩) N N)) 67 (0, 0))) ∧ Hid (wr.heap[q]? = some (.cells (gridA 0 0 (.slice none 0 0)) 67 (0, 0))) ∧ Hid (Below w.heap.size w wr)) (fun i _ => N - (intOf i).toNat)
  case atStart => exact ⟨0, Nat.zero_le _, rfl, HO2, HG2, HQ2, HB2⟩
  case round =>
    obtain ⟨k, hk, rfl, HO, HG, HQ, HBW⟩ := hrel
    rcases Nat.lt_or_ge k N with hlt | hge
    · have hlt' : (k : Int) < (N : Int) := by omega
      obtain ⟨M, eM⟩ : ∃ M, M = halfB N k := ⟨_, rfl⟩
      have HML : Hid (M.length = N) := Lib.hid (by rw [eM]; exact halfB_len hk)
      have HM2 : Hid (M.set k blankD = halfB N (k + 1)) := Lib.hid (by rw [eM]; exact halfB_set hlt)
      have HOM : Hid (OwnC wr b (.slice (some ⟨b, 0, none⟩) N N) M) := Lib.hid (by rw [eM]; exact HO.out)
      have HBL : Hid (b < wr.heap.size) := Lib.hid (OwnC.lt HO.out b rfl).2
      clear eM HO
      go_upto_region 7 with (fail)
      refine wp_region_rt 34 6 [Rl.eq (.pointer (some ⟨g, 2, none⟩)), Rl.eq (.slice (some ⟨b, 0, none⟩) N N), Rl.eq (.int .i64 (k : Int)), Rl.eq (.agg #[.int .u32 0, .int .u32 0, .int .u8 0, .int .u16 0]), Rl.eq (.agg #[.int .i32 32, .int .u8 0, .int .u32 0, .int .u32 0, .int .u8 0, .int .u16 0]), Rl.eq (.pointer (some ⟨b, k * 6, none⟩))] [26, 27, 28, 29, 30, 31] (by kernel_rfl) rfl (by kernel_rfl) (by kernel_rfl) (by decide) (by kernel_rfl) (by kernel_rfl) ?_ ?_
      · simp only [List.take_succ_cons, List.take_zero]
        repeat (first | exact AllFrom.nil_ | (refine AllFrom.cons_ (by rfl) ?_ ?_; rotate_left))
        · intro f w' g_ hF hD
          have h6 : f 6 = .pointer (some ⟨g, 0, none⟩) := hF 6 (by kernel_rfl)
          rw [if_pos (wanted_none rfl)]
          clear hF hD
          exact gives_val (by simp only [execOp, evF, h6]; first | rfl | go_simp) ⟨Gr.refl _, rfl⟩
        · intro f w' g_ hF hD
          have h26 : f 26 = (.pointer (some ⟨g, 2, none⟩)) := hD 0 26 (by kernel_rfl) rfl
          rw [if_pos (wanted_none rfl)]
          clear hF hD
          have cl : w'.cell? ⟨g, 2, none⟩ = some (.slice (some ⟨b, 0, none⟩) N N) := heap_cell ((((show Below wr.heap.size wr w' from (below_drewN (Below.refl _ _) 1).trans g_)).block g (heap_lt HG.out)).trans HG.out) 2
          exact gives_val (by simp only [execOp, evF, h26]; go_simp) ⟨Gr.refl _, rfl⟩
        · intro f w' g_ hF hD
          have h7 : f 7 = .int .i64 (k : Int) := hF 7 (by kernel_rfl)
          rw [if_pos (wanted_none rfl)]
          clear hF hD
          exact gives_val (by simp only [execOp, evF, h7]; first | rfl | go_simp) ⟨Gr.refl _, rfl⟩
        · intro f w' g_ hF hD
          rw [if_pos (wanted_none rfl)]
          clear hF hD
          exact gives_build 45 _ rfl #[.int .u32 0, .int .u32 0, .int .u8 0, .int .u16 0] (by simp only [List.map_toArray, List.map_cons, List.map_nil, evF]; kernel_rfl) ⟨Gr.refl _, rfl⟩
        · intro f w' g_ hF hD
          have h29 : f 29 = (.agg #[.int .u32 0, .int .u32 0, .int .u8 0, .int .u16 0]) := hD 3 29 (by kernel_rfl) rfl
          rw [if_pos (wanted_none rfl)]
          clear hF hD
          refine gives_func rfl Tryd.func137 (by kernel_rfl) rfl (by simp only [List.map_toArray, List.map_cons, List.map_nil, evF, h29]; rfl) ((cellBlank_c w').mono ?_)
          rintro e w'' ⟨rfl, hb⟩
          exact ⟨_, rfl, hb, rfl⟩
        · intro f w' g_ hF hD
          have h27 : f 27 = (.slice (some ⟨b, 0, none⟩) N N) := hD 1 27 (by kernel_rfl) rfl
          have h28 : f 28 = (.int .i64 (k : Int)) := hD 2 28 (by kernel_rfl) rfl
          rw [if_pos (wanted_none rfl)]
          clear hF hD
          exact gives_val (by simp only [execOp, evF, h27, h28]; first | rfl | go_simp) ⟨Gr.refl _, rfl⟩
      intro f w4 gg hD
      have h30 : f 30 = .agg #[.int .i32 32, .int .u8 0, .int .u32 0, .int .u32 0, .int .u8 0, .int .u16 0] := hD 4 30 (by decide) rfl
      have h31 : f 31 = .pointer (some ⟨b, k * 6, none⟩) := hD 5 31 (by decide) rfl
      have kg : Below wr.heap.size wr w4 := (below_drewN (Below.refl _ _) 1).trans gg
      simp only [List.drop_succ_cons, List.drop_zero, putAll, List.setIfInBounds_toArray, List.set_cons_zero, List.set_cons_succ, h30, h31]
      have ho4 := OwnC.below HOM.out kg
      obtain ⟨yo, -, z0, z1, z2, z3, z4, z5⟩ := ho4.cellsAt k (by rw [HML.out]; exact hlt)
      have f0 := ho4.free (k * 6)
      have f1 := ho4.free (k * 6 + 1)
      have f2 := ho4.free (k * 6 + 2)
      have f3 := ho4.free (k * 6 + 3)
      have f4 := ho4.free (k * 6 + 4)
      have f5 := ho4.free (k * 6 + 5)
      have HO4 := Lib.hid ho4
      have HK4 := Lib.hid kg
      clear hD gg kg h30 h31 ho4
      go_upto_region 8 with (fail)
      obtain ⟨W5, eW5⟩ : ∃ W5, W5 = (((((w4.setCell ⟨b, k * 6, none⟩ (.int .i32 blankD.r)).setCell ⟨b, k * 6 + 1, none⟩ (.int .u8 blankD.w)).setCell ⟨b, k * 6 + 2, none⟩ (.int .u32 blankD.fg)).setCell ⟨b, k * 6 + 3, none⟩ (.int .u32 blankD.bg)).setCell ⟨b, k * 6 + 4, none⟩ (.int .u8 blankD.at_)).setCell ⟨b, k * 6 + 5, none⟩ (.int .u16 blankD.ln) := ⟨_, rfl⟩
      have eW5' : (((((w4.setCell ⟨b, k * 6, none⟩ (.int .i32 32)).setCell ⟨b, k * 6 + 1, none⟩ (.int .u8 0)).setCell ⟨b, k * 6 + 2, none⟩ (.int .u32 0)).setCell ⟨b, k * 6 + 3, none⟩ (.int .u32 0)).setCell ⟨b, k * 6 + 4, none⟩ (.int .u8 0)).setCell ⟨b, k * 6 + 5, none⟩ (.int .u16 0) = W5 := by rw [eW5]; rfl
      rw [eW5']
      have hgb : g ≠ b := by have := HS.out.2.1; omega
      have hqb : q ≠ b := by have h1 := HS.out.1; have h2 := HS.out.2.2.1; omega
      have HO5 : Hid (OwnC W5 b (.slice (some ⟨b, 0, none⟩) N N) (halfB N (k + 1))) := Lib.hid (by
        have h := HO4.out.setAll k (by rw [HML.out]; exact hlt) blankD
        rw [HM2.out] at h
        rw [eW5]; exact h)
      have HG5 := Lib.hid ((show W5.heap[g]? = wr.heap[g]? by rw [eW5]; exact (six_far _ _ _ _ _ _ _ _ _ _ _ _ _ _ _ hgb).trans (HK4.out.block g (heap_lt HG.out))).trans HG.out)
      have HQ5 := Lib.hid ((show W5.heap[q]? = wr.heap[q]? by rw [eW5]; exact (six_far _ _ _ _ _ _ _ _ _ _ _ _ _ _ _ hqb).trans (HK4.out.block q (heap_lt HQ.out))).trans HQ.out)
      have HB5 : Hid (Below w.heap.size w W5) := Lib.hid (by
        rw [eW5]; exact six_below (HBW.out.trans (HK4.out.mono HBW.out.size)) _ _ _ _ _ _ _ _ _ _ _ _ _ (by have h1 := HS.out.2.2; omega))
      clear z0 z1 z2 z3 z4 z5 f0 f1 f2 f3 f4 f5 eW5 eW5' hgb hqb HO4 HK4
      go_wp2_with (fail)
      go_roundw
      case rel => exact ⟨k + 1, by omega, by go_num, HO5, HG5, HQ5, HB5⟩
      case measure => simp [intOf]; omega
    · obtain rfl : N = k := by omega
      have hge' : ¬ ((N : Int) < (N : Int)) := by omega
      have HO9 : Hid (OwnC wr b (.slice (some ⟨b, 0, none⟩) N N) (List.replicate N blankD)) := Lib.hid (by have h := HO.out; rw [halfB_end] at h; exact h)
      clear hge hk HO
      go_wp2_with (first
        | (refine wpList_load_row rfl 67 (.tmp 6) rfl g rfl 67 _ (0, 0) _ HG.out Tryd.underlying67 rfl (info_grid.trans rfl) ?_)
        | (refine wpList_store_rowTo rfl 67 (.tmp 4) (.tmp 33) rfl rfl q (gridA (C : Int) (R : Int) (.slice (some ⟨b, 0, none⟩) N N)) rfl rfl 67 _ HQ.out (info_grid.trans rfl) rfl (gridA_one _ _ _ _ _) ?_))
      refine bodyPost_ret (v := .tuple #[.agg (gridA (C : Int) (R : Int) (.slice (some ⟨b, 0, none⟩) N N)), .int .i64 0]) (results_row_tmp (p := 4) (u := 5) (ty := 67) rfl _ _ q 67 _ (0, 0) _ _ rfl rfl (setRow_heap wr q _ _ _ _ HQ.out) Tryd.underlying67 rfl (info_grid.trans rfl)) rfl ?_
      exact ⟨b, rfl, OwnC.low (OwnC.keep HO9.out (fun j e => setRow_other _ _ _ _ (by have h1 := (OwnC.lt HO9.out j e).1; have h2 := HS.out.1; have h3 := HS.out.2.2.1; omega))) (by have h1 := HS.out.2.2; omega), below_setRow HBW.out HS.out.2.2.2.1 _⟩
set_option maxRecDepth 100000 in
set_option maxHeartbeats 4000000 in
theorem gridNew_bad (cols rows : Int) (w : World) (hf : fitsI cols rows = false) :
    Calls Tryd.prog 108 #[.int .i64 cols, .int .i64 rows] w fun e w' => e = .returned (.tuple #[.agg (gridA 0 0 (.slice none 0 0)), .int .i64 1]) ∧ Below w.heap.size w w' := by
  have HF := Lib.hid hf
  obtain ⟨W0, eW0⟩ : ∃ W0, W0 = w.alloc (.cells (gridA 0 0 (.slice none 0 0)) 67) := ⟨_, rfl⟩
  obtain ⟨q, eq⟩ : ∃ q, q = w.heap.size := ⟨_, rfl⟩
  have HB0 : Hid (Below w.heap.size w W0) := Lib.hid (by rw [eW0]; exact (Below.refl _ _).alloc (Nat.le_refl _) _)
  have HQ0 : Hid (W0.heap[q]? = some (.cells (gridA 0 0 (.slice none 0 0)) 67 (0, 0))) := Lib.hid (by rw [eW0, eq]; exact heap_alloc_new _ _)
  have EW0 : Hid (w.alloc (.cells #[.int .i64 0, .int .i64 0, .slice none 0 0] 67) = W0) := Lib.hid (by rw [eW0]; rfl)
  have EQ := Lib.hid eq
  have HQW : Hid (w.heap.size ≤ q) := Lib.hid (Nat.le_of_eq eq.symm)
  clear hf eW0 eq
  go_enter Tryd.func108, Tryd.ntmps108
  go_upto_region 1 with (fail)
  rw [EW0.out, ← EQ.out]
  go_wp2_with (first
    | (go_at_call 103; (with_reducible refine (fits_c cols rows W0).mono ?_); rintro _ wx ⟨rfl, hwx⟩; rw [hwx, HF.out]; clear hwx)
    | (refine wpList_store_rowTo rfl 67 (.tmp 4) (.tmp 12) rfl rfl q (gridA 0 0 (.slice none 0 0)) rfl rfl 67 _ HQ0.out (info_grid.trans rfl) rfl (gridA_one _ _ _ _ _) ?_))
  refine bodyPost_ret (v := .tuple #[.agg (gridA 0 0 (.slice none 0 0)), .int .i64 1]) (results_row_tmp (p := 4) (u := 5) (ty := 67) rfl _ _ q 67 _ (0, 0) _ _ rfl rfl (setRow_heap W0 q _ _ _ _ HQ0.out) Tryd.underlying67 rfl (info_grid.trans rfl)) rfl ?_
  exact ⟨rfl, below_setRow HB0.out HQW.out _⟩
end Go.Proofs.YtipofokinjkclaaDoor

/- A new terminal's block; what frame and here answer of it; parse.New. Conditions: none. -/
namespace Go.Proofs.YtipofokinjkclaaDoor
open Go Go.RowKit Go.Lib

/-- A new terminal's cells. -/
structure TermC (cur : Array Value) (C R : Int) (v : Value) : Prop where
  sz : cur.size = 114
  x0 : cur[0]? = some (.int .i64 0)
  x1 : cur[1]? = some (.int .i64 0)
  x7 : cur[7]? = some (.int .i64 C)
  x8 : cur[8]? = some (.int .i64 R)
  x9 : cur[9]? = some (.int .i64 C)
  x10 : cur[10]? = some (.int .i64 R)
  x11 : cur[11]? = some v
  x15 : cur[15]? = some (.int .i64 0)
  x21 : cur[21]? = some (.bool false)
  x22 : cur[22]? = some (.int .u8 0)
  x110 : cur[110]? = some (.string ⟨#[]⟩)
  x111 : cur[111]? = some (.slice none 0 0)
def TermB (w : World) (g : Nat) (C R : Int) (v : Value) : Prop := ∃ cur, w.heap[g]? = some (.cells cur 139 (0, 0)) ∧ TermC cur C R v
theorem TermC.set {cur : Array Value} {C R : Int} {v : Value} (h : TermC cur C R v) (j : Nat) (u : Value) (hj : (17 ≤ j ∧ j ≤ 18) ∨ (23 ≤ j ∧ j ≤ 102)) : TermC (cur.setIfInBounds j u) C R v := by
  have k : ∀ i, i ≠ j → (cur.setIfInBounds j u)[i]? = cur[i]? := fun i hi => Array.getElem?_setIfInBounds_ne (Ne.symm hi)
  exact ⟨by rw [Array.size_setIfInBounds]; exact h.sz, (k 0 (by omega)).trans h.x0, (k 1 (by omega)).trans h.x1, (k 7 (by omega)).trans h.x7, (k 8 (by omega)).trans h.x8, (k 9 (by omega)).trans h.x9, (k 10 (by omega)).trans h.x10, (k 11 (by omega)).trans h.x11, (k 15 (by omega)).trans h.x15,
    (k 21 (by omega)).trans h.x21, (k 22 (by omega)).trans h.x22, (k 110 (by omega)).trans h.x110, (k 111 (by omega)).trans h.x111⟩
theorem TermB.set {w : World} {g : Nat} {C R : Int} {v : Value} (h : TermB w g C R v) (j : Nat) (u : Value) (hj : (17 ≤ j ∧ j ≤ 18) ∨ (23 ≤ j ∧ j ≤ 102)) : TermB (w.setCell ⟨g, j, none⟩ u) g C R v := by
  obtain ⟨cur, hg, hc⟩ := h
  exact ⟨_, heap_set hg j u, hc.set j u hj⟩
theorem TermB.below {w w' : World} {g : Nat} {C R : Int} {v : Value} (h : TermB w g C R v) (hb : Below w.heap.size w w') : TermB w' g C R v := by
  obtain ⟨cur, hg, hc⟩ := h
  exact ⟨cur, (hb.block g (heap_lt hg)).trans hg, hc⟩
theorem TermB.lt {w : World} {g : Nat} {C R : Int} {v : Value} (h : TermB w g C R v) : g < w.heap.size := by
  obtain ⟨cur, hg, _⟩ := h
  exact heap_lt hg
theorem TermB.cell {w : World} {g : Nat} {C R : Int} {v : Value} (h : TermB w g C R v) (j : Nat) (hj : j < 114) : ∃ u, w.cell? ⟨g, j, none⟩ = some u := by
  obtain ⟨cur, hg, hc⟩ := h
  refine ⟨cur[j]'(by rw [hc.sz]; exact hj), ?_⟩
  rw [heap_cell hg j]
  exact Array.getElem?_eq_getElem _
theorem TermB.free {w : World} {g : Nat} {C R : Int} {v : Value} (h : TermB w g C R v) (j : Nat) : w.frozen? ⟨g, j, none⟩ = false := by
  obtain ⟨cur, hg, _⟩ := h
  exact heap_free hg j
theorem TermB.cells {w : World} {g : Nat} {C R : Int} {v : Value} (h : TermB w g C R v) :
    w.cell? ⟨g, 0, none⟩ = some (.int .i64 0) ∧ w.cell? ⟨g, 1, none⟩ = some (.int .i64 0) ∧ w.cell? ⟨g, 7, none⟩ = some (.int .i64 C) ∧ w.cell? ⟨g, 8, none⟩ = some (.int .i64 R) ∧ w.cell? ⟨g, 9, none⟩ = some (.int .i64 C) ∧ w.cell? ⟨g, 10, none⟩ = some (.int .i64 R) ∧ w.cell? ⟨g, 11, none⟩ = some v ∧
    w.cell? ⟨g, 15, none⟩ = some (.int .i64 0) ∧ w.cell? ⟨g, 21, none⟩ = some (.bool false) ∧ w.cell? ⟨g, 22, none⟩ = some (.int .u8 0) ∧ w.cell? ⟨g, 110, none⟩ = some (.string ⟨#[]⟩) ∧ w.cell? ⟨g, 111, none⟩ = some (.slice none 0 0) := by
  obtain ⟨cur, hg, hc⟩ := h
  exact ⟨(heap_cell hg 0).trans hc.x0, (heap_cell hg 1).trans hc.x1, (heap_cell hg 7).trans hc.x7, (heap_cell hg 8).trans hc.x8, (heap_cell hg 9).trans hc.x9, (heap_cell hg 10).trans hc.x10, (heap_cell hg 11).trans hc.x11, (heap_cell hg 15).trans hc.x15, (heap_cell hg 21).trans hc.x21, (heap_cell hg 22).trans hc.x22, (heap_cell hg 110).trans hc.x110, (heap_cell hg 111).trans hc.x111⟩
/-- Nothing but the block is written. -/
structure OnlyG (g : Nat) (w w' : World) : Prop where
  sz : w'.heap.size = w.heap.size
  blk : ∀ j, j ≠ g → w'.heap[j]? = w.heap[j]?
  low : ∀ {B : Nat} {w0 : World}, B ≤ g → Below B w0 w → Below B w0 w'
theorem OnlyG.refl (g : Nat) (w : World) : OnlyG g w w := ⟨rfl, fun _ _ => rfl, fun _ h => h⟩
theorem OnlyG.set {g : Nat} {w w' : World} (h : OnlyG g w w') (j : Nat) (u : Value) : OnlyG g w (w'.setCell ⟨g, j, none⟩ u) :=
  ⟨by simp [World.setCell, h.sz], fun i hi => (heap_far _ hi).trans (h.blk i hi), fun hB hb => below_set (h.low hB hb) g _ _ hB⟩
set_option maxRecDepth 100000 in
set_option maxHeartbeats 8000000 in
theorem frame_c (g : Nat) (C : Int) (R : Nat) (v : Value) (w : World) (h : TermB w g C (R : Int) v) (h1 : 1 ≤ R) (h2 : R ≤ 24) :
    Calls Tryd.prog 110 #[.pointer (some ⟨g, 0, none⟩)] w fun e w' => e = .returned (.tuple #[]) ∧ TermB w' g C (R : Int) v ∧ OnlyG g w w' := by
  have x8 := h.cells.2.2.2.1
  obtain ⟨u17, x17⟩ := h.cell 17 (by decide)
  obtain ⟨u18, x18⟩ := h.cell 18 (by decide)
  have f17 := h.free 17
  have f18 := h.free 18
  have H := Lib.hid h
  clear h
  go_enter Tryd.func110, Tryd.ntmps110
  go_upto_region 1 with (fail)
  obtain ⟨W1, eW1⟩ : ∃ W1, W1 = (w.setCell ⟨g, 17, none⟩ (.int .i64 0)).setCell ⟨g, 18, none⟩ (.int .i64 ((R : Int) - 1)) := ⟨_, rfl⟩
  rw [← eW1]
  have HT1 : Hid (TermB W1 g C (R : Int) v) := Lib.hid (by rw [eW1]; exact (H.out.set 17 _ (by omega)).set 18 _ (by omega))
  have HO1 : Hid (OnlyG g w W1) := Lib.hid (by rw [eW1]; exact ((OnlyG.refl g w).set 17 _).set 18 _)
  clear eW1 x8 x17 x18 f17 f18
  go_wp2_with (fail)
  go_loopw [14] (fun i wr => ∃ k : Nat, k ≤ 80 ∧ i = .int .i64 k ∧ Hid (TermB wr g C (R : Int) v) ∧ Hid (OnlyG g w wr)) (fun i _ => 80 - (intOf i).toNat)
  case atStart => exact ⟨0, by omega, rfl, HT1, HO1⟩
  case round =>
    obtain ⟨k, hk, rfl, HT, HO⟩ := hrel
    rcases Nat.lt_or_ge k 80 with hlt | hge
    · have hlt' : (k : Int) < 80 := by omega
      obtain ⟨u, xu⟩ := HT.out.cell (23 + k) (by omega)
      have fu := HT.out.free (23 + k)
      obtain ⟨b1, e1⟩ : ∃ b, ((k : Int) % 8 == 0) = b := ⟨_, rfl⟩
      obtain ⟨b2, e2⟩ : ∃ b, decide (0 < (k : Int)) = b := ⟨_, rfl⟩
      cases b1 <;> cases b2 <;>
      · go_upto_region 5 with (fail)
        generalize eW5 : World.setCell wr ⟨g, 23 + k, none⟩ _ = W5
        skip
        have HT5 : Hid (TermB W5 g C (R : Int) v) := Lib.hid (by rw [← eW5]; exact HT.out.set (23 + k) _ (by omega))
        have HO5 : Hid (OnlyG g w W5) := Lib.hid (by rw [← eW5]; exact HO.out.set (23 + k) _)
        clear eW5 xu fu e1 e2
        go_wp2_with (fail)
        go_roundw
        case rel => exact ⟨k + 1, by omega, by go_num, HT5, HO5⟩
        case measure => simp [intOf]; omega
    · obtain rfl : 80 = k := by omega
      go_wp2_with (fail)
      go_end0
      exact ⟨rfl, HT.out, HO.out⟩
set_option maxRecDepth 100000 in
set_option maxHeartbeats 4000000 in
theorem utfNew_c (w : World) : Calls Tryd.prog 138 #[] w fun e w' => ∃ a, e = .returned (.pointer a) ∧ Below w.heap.size w w' := by
  go_enter Tryd.func138, Tryd.ntmps138
  go_wp2_with (fail)
  go_ret
  exact ⟨_, rfl, (Below.refl _ _).alloc (Nat.le_refl _) _⟩
set_option maxRecDepth 100000 in
set_option maxHeartbeats 4000000 in
theorem parseNew_c (w : World) : Calls Tryd.prog 109 #[] w fun e w' => ∃ a, e = .returned (.pointer a) ∧ Below w.heap.size w w' := by
  go_enter Tryd.func109, Tryd.ntmps109
  go_wp2_with (go_at_call 138; (with_reducible refine (utfNew_c _).mono ?_); rintro _ w1 ⟨a1, rfl, hb1⟩; have HB1 := Lib.hid hb1; clear hb1)
  go_ret
  exact ⟨_, rfl, HB1.out.alloc HB1.out.size _⟩
set_option maxRecDepth 100000 in
set_option maxHeartbeats 4000000 in
theorem here_c (g : Nat) (C R : Int) (A : Option Addr) (n c : Nat) (w : World) (h : TermB w g C R (.slice A n c)) :
    Calls Tryd.prog 112 #[.pointer (some ⟨g, 0, none⟩)] w fun e w' => e = .returned (.agg (gridA C R (.slice A n c))) ∧ Below w.heap.size w w' := by
  obtain ⟨W0, eW0⟩ : ∃ W0, W0 = w.alloc (.cells (gridA 0 0 (.slice none 0 0)) 67) := ⟨_, rfl⟩
  obtain ⟨q, eq⟩ : ∃ q, q = w.heap.size := ⟨_, rfl⟩
  have hb0 : Below w.heap.size w W0 := by rw [eW0]; exact (Below.refl _ _).alloc (Nat.le_refl _) _
  have HB0 := Lib.hid hb0
  have HQ0 : Hid (W0.heap[q]? = some (.cells (gridA 0 0 (.slice none 0 0)) 67 (0, 0))) := Lib.hid (by rw [eW0, eq]; exact heap_alloc_new _ _)
  have EW0 : Hid (w.alloc (.cells #[.int .i64 0, .int .i64 0, .slice none 0 0] 67) = W0) := Lib.hid (by rw [eW0]; rfl)
  have EQ := Lib.hid eq
  have HQW : Hid (w.heap.size ≤ q) := Lib.hid (Nat.le_of_eq eq.symm)
  have HT := Lib.hid (h.below hb0)
  clear hb0 eW0 eq h
  go_enter Tryd.func112, Tryd.ntmps112
  go_upto_region 1 with (fail)
  rw [EW0.out, ← EQ.out]
  refine wp_region_rt 12 9 [Rl.eq (.pointer (some ⟨g, 0, none⟩)), Rl.eq (.pointer (some ⟨g, 0, none⟩)), Rl.eq (.pointer (some ⟨g, 0, none⟩)), Rl.eq (.pointer (some ⟨g, 15, none⟩)), Rl.eq (.int .i64 0), Rl.eq (.pointer (some ⟨g, 0, none⟩)), Rl.eq (.pointer (some ⟨g, 9, none⟩)), Rl.eq (.pointer (some ⟨g, 9, none⟩)), Rl.eq (.agg (gridA C R (.slice A n c)))] [3, 4, 5, 6, 7, 8, 9, 10, 11] (by kernel_rfl) rfl (by kernel_rfl) (by kernel_rfl) (by decide) (by kernel_rfl) (by kernel_rfl) ?_ ?_
  · simp only [List.take_succ_cons, List.take_zero]
    repeat (first | exact AllFrom.nil_ | (refine AllFrom.cons_ (by rfl) ?_ ?_; rotate_left))
    · intro f w' g_ hF hD
      have h0 : f 0 = .pointer (some ⟨g, 0, none⟩) := hF 0 (by kernel_rfl)
      rw [if_pos (wanted_none rfl)]
      clear hF hD
      exact gives_val (by simp only [execOp, evF, h0]; first | rfl | go_simp) ⟨Gr.refl _, rfl⟩
    · intro f w' g_ hF hD
      have h0 : f 0 = .pointer (some ⟨g, 0, none⟩) := hF 0 (by kernel_rfl)
      rw [if_pos (wanted_none rfl)]
      clear hF hD
      exact gives_val (by simp only [execOp, evF, h0]; first | rfl | go_simp) ⟨Gr.refl _, rfl⟩
    · intro f w' g_ hF hD
      have h4 : f 4 = (.pointer (some ⟨g, 0, none⟩)) := hD 1 4 (by kernel_rfl) rfl
      rw [if_pos (wanted_none rfl)]
      clear hF hD
      exact gives_val (by simp only [execOp, evF, h4]; first | rfl | go_simp) ⟨Gr.refl _, rfl⟩
    · intro f w' g_ hF hD
      have h5 : f 5 = (.pointer (some ⟨g, 0, none⟩)) := hD 2 5 (by kernel_rfl) rfl
      rw [if_pos (wanted_none rfl)]
      clear hF hD
      exact gives_val (by simp only [execOp, evF, h5]; first | rfl | go_simp) ⟨Gr.refl _, rfl⟩
    · intro f w' g_ hF hD
      have h6 : f 6 = (.pointer (some ⟨g, 15, none⟩)) := hD 3 6 (by kernel_rfl) rfl
      rw [if_pos (wanted_none rfl)]
      clear hF hD
      have kt : TermB w' g C R (.slice A n c) := HT.out.below (show Below W0.heap.size W0 w' from (below_drewN (Below.refl _ _) 1).trans g_)
      have cl := kt.cells.2.2.2.2.2.2.2.1
      exact gives_val (by simp only [execOp, evF, h6]; go_simp) ⟨Gr.refl _, rfl⟩
    · intro f w' g_ hF hD
      have h3 : f 3 = (.pointer (some ⟨g, 0, none⟩)) := hD 0 3 (by kernel_rfl) rfl
      rw [if_pos (wanted_none rfl)]
      clear hF hD
      exact gives_val (by simp only [execOp, evF, h3]; first | rfl | go_simp) ⟨Gr.refl _, rfl⟩
    · intro f w' g_ hF hD
      have h8 : f 8 = (.pointer (some ⟨g, 0, none⟩)) := hD 5 8 (by kernel_rfl) rfl
      rw [if_pos (wanted_none rfl)]
      clear hF hD
      exact gives_val (by simp only [execOp, evF, h8]; first | rfl | go_simp) ⟨Gr.refl _, rfl⟩
    · intro f w' g_ hF hD
      have h9 : f 9 = (.pointer (some ⟨g, 9, none⟩)) := hD 6 9 (by kernel_rfl) rfl
      have h7 : f 7 = (.int .i64 0) := hD 4 7 (by kernel_rfl) rfl
      rw [if_pos (wanted_none rfl)]
      clear hF hD
      exact gives_val (by simp only [execOp, evF, h9, h7]; first | rfl | go_simp) ⟨Gr.refl _, rfl⟩
    · intro f w' g_ hF hD
      have h10 : f 10 = (.pointer (some ⟨g, 9, none⟩)) := hD 7 10 (by kernel_rfl) rfl
      rw [if_pos (wanted_none rfl)]
      clear hF hD
      have kt : TermB w' g C R (.slice A n c) := HT.out.below (show Below W0.heap.size W0 w' from (below_drewN (Below.refl _ _) 1).trans g_)
      exact gives_load_cells 67 (.tmp 10) rfl ⟨g, 9, none⟩ (by simp only [evF, h10]) [.int .i64 C, .int .i64 R, .slice A n c] (.agg (gridA C R (.slice A n c))) rfl _ (fun j v hv => by
        rw [addr_add]
        match j with
        | 0 => rw [← hv]; exact kt.cells.2.2.2.2.1
        | 1 => rw [← hv]; exact kt.cells.2.2.2.2.2.1
        | 2 => rw [← hv]; exact kt.cells.2.2.2.2.2.2.1
        | j + 3 => simp at hv) Tryd.underlying67 rfl (info_grid.trans rfl) ⟨Gr.refl _, rfl⟩
  intro f w4 gg hD
  have h11 : f 11 = .agg (gridA C R (.slice A n c)) := hD 8 11 (by decide) rfl
  have kg : Below W0.heap.size W0 w4 := (below_drewN (Below.refl _ _) 1).trans gg
  simp only [List.drop_succ_cons, List.drop_zero, putAll, List.setIfInBounds_toArray, List.set_cons_zero, List.set_cons_succ, h11]
  have HQ4 : Hid (w4.heap[q]? = some (.cells (gridA 0 0 (.slice none 0 0)) 67 (0, 0))) := Lib.hid ((kg.block q (heap_lt HQ0.out)).trans HQ0.out)
  have HB4 := Lib.hid (HB0.out.trans (kg.mono HB0.out.size))
  clear hD gg kg h11
  go_wp2_with (first
    | (refine wpList_store_rowTo rfl 67 (.tmp 2) (.tmp 11) rfl rfl q (gridA C R (.slice A n c)) rfl rfl 67 _ HQ4.out (info_grid.trans rfl) rfl (gridA_one _ _ _ _ _) ?_))
  refine bodyPost_ret (v := .agg (gridA C R (.slice A n c))) (results_cell_row (p := 2) (ty := 67) rfl _ _ q 67 _ (0, 0) _ rfl (setRow_heap w4 q _ _ _ _ HQ4.out) Tryd.underlying67 rfl (info_grid.trans rfl)) rfl ?_
  exact ⟨rfl, below_setRow HB4.out HQW.out _⟩
end Go.Proofs.YtipofokinjkclaaDoor
