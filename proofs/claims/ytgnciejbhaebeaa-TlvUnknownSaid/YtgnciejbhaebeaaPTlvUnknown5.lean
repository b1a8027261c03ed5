/- Parts one behind the other: The faults of a row of items, in plain words; What the closure within tlv.Check answers: the first fault of a list, and how many items were gone through; What tlv.Check answers; What the reference's bytes answer: a list's bytes; What the reference's Check answers; What tlv.Encode and the reference's Encode of items answer; What bytes say as a list of items, in plain words; tlv.must: an error is thrown; The world within tlv's reading of a list of items. Conditions: as told at each. -/
import Derived.Test.YtgnciejbhaebeaaPTlvUnknown4
import Derived.Laws.EntriesVeiled
import Derived.Test.YtgnciejbhaebeaaPTlvUnknown1
import Derived.Test.YtgnciejbhaebeaaPTlvUnknown2
import Derived.Recover

/- The faults of a row of items, in plain words. Conditions: none. -/
namespace Go.Proofs.Ytgnciejbhaebeaa
open Go Go.RowKit

/-- The fault of one entry, the c-th: 0 is none. -/
def fe (c : Nat) (e : En) : Int :=
  if 64 ≤ c then 4 else if e.k < 1 ∨ 1000 < e.k ∨ e.k ≤ e.ah ∨ (0 < e.ns ∧ e.li = false) ∨ (0 < e.nb ∧ e.li = true) then 1 else if e.li = true ∧ e.d = 4 then 5 else if 4096 < e.nb then 4 else 0
/-- The first fault of a row whose first entry is the c-th. -/
def scanF : List En → Nat → Int
  | [], _ => 0
  | e :: r, c => if fe c e ≠ 0 then fe c e else scanF r (c + 1)
theorem scanF_append (xs ys : List En) : ∀ c, scanF (xs ++ ys) c = if scanF xs c ≠ 0 then scanF xs c else scanF ys (c + xs.length) := by
  induction xs with
  | nil => intro c; simp [scanF]
  | cons x xs ih =>
    intro c
    rw [List.cons_append, scanF, scanF, ih]
    by_cases h : fe c x = 0
    · simp only [h, ne_eq, not_true_eq_false, if_false, List.length_cons]
      rw [show c + 1 + xs.length = c + (xs.length + 1) by omega]
    · simp only [h, ne_eq, not_false_eq_true, if_true]
/-- Check's answer. -/
def checkF (f : Fo) : Int := if scanF (fullR f 1 0) 0 ≠ 0 then scanF (fullR f 1 0) 0 else if 4096 < (layL f).length then 4 else 0
theorem scanF_zero : ∀ (xs : List En) (c : Nat), scanF xs c = 0 → ∀ (j : Nat) (hj : j < xs.length), fe (c + j) xs[j] = 0
  | [], _, _, j, hj => by simp at hj
  | x :: xs, c, h, j, hj => by
    rw [scanF] at h
    by_cases h0 : fe c x = 0
    · rw [if_neg (by simp [h0])] at h
      match j, hj with
      | 0, _ => simpa using h0
      | j + 1, hj =>
        have := scanF_zero xs (c + 1) h j (by simpa using hj)
        rw [show c + (j + 1) = c + 1 + j by omega]
        simpa using this
    · rw [if_pos h0] at h; exact absurd h h0
/-- The first fault stands at the k-th entry. -/
theorem scanF_at : ∀ (xs : List En) (c k : Nat) (hk : k < xs.length), (∀ (j : Nat) (hj : j < xs.length), j < k → fe (c + j) xs[j] = 0) → fe (c + k) xs[k] ≠ 0 → scanF xs c = fe (c + k) xs[k]
  | [], _, k, hk, _, _ => by simp at hk
  | x :: xs, c, 0, _, _, h => by
    rw [scanF, if_pos (by simpa using h)]
    simp
  | x :: xs, c, k + 1, hk, h0, h => by
    have hx : fe c x = 0 := h0 0 (by simp) (by omega)
    rw [scanF, if_neg (by simp [hx])]
    have e : c + (k + 1) = c + 1 + k := by omega
    rw [e] at h ⊢
    have := scanF_at xs (c + 1) k (by simpa using hk) (fun j hj hjk => by
      have := h0 (j + 1) (by simp; omega) (by omega)
      rw [show c + (j + 1) = c + 1 + j by omega] at this
      simpa using this) (by simpa using h)
    rw [this]; simp
theorem scanF_none : ∀ (xs : List En) (c : Nat), (∀ (j : Nat) (hj : j < xs.length), fe (c + j) xs[j] = 0) → scanF xs c = 0
  | [], _, _ => rfl
  | x :: xs, c, h => by
    have hx : fe c x = 0 := h 0 (by simp)
    rw [scanF, if_neg (by simp [hx])]
    exact scanF_none xs (c + 1) (fun j hj => by
      have := h (j + 1) (by simp; omega)
      rw [show c + (j + 1) = c + 1 + j by omega] at this
      simpa using this)
theorem fe_64 {c : Nat} {e : En} (h : 64 ≤ c) : fe c e = 4 := by rw [fe, if_pos h]
theorem fe_1 {c : Nat} {e : En} (h : ¬ 64 ≤ c) (h1 : e.k < 1 ∨ 1000 < e.k ∨ e.k ≤ e.ah ∨ (0 < e.ns ∧ e.li = false) ∨ (0 < e.nb ∧ e.li = true)) : fe c e = 1 := by rw [fe, if_neg h, if_pos h1]
def En.fair (e : En) : Prop := 1 ≤ e.k ∧ e.k ≤ 1000 ∧ e.ah < e.k ∧ (e.li = false → e.ns = 0) ∧ (e.li = true → e.nb = 0)
theorem En.fair.not {e : En} (h : e.fair) : ¬ (e.k < 1 ∨ 1000 < e.k ∨ e.k ≤ e.ah ∨ (0 < e.ns ∧ e.li = false) ∨ (0 < e.nb ∧ e.li = true)) := by
  obtain ⟨h1, h2, h3, h4, h5⟩ := h
  rintro (h | h | h | ⟨h, g⟩ | ⟨h, g⟩)
  · omega
  · omega
  · omega
  · have := h4 g; omega
  · have := h5 g; omega
theorem fe_5 {c : Nat} {e : En} (h : ¬ 64 ≤ c) (h1 : e.fair) (h2 : e.li = true) (h3 : e.d = 4) : fe c e = 5 := by rw [fe, if_neg h, if_neg h1.not, if_pos ⟨h2, h3⟩]
theorem fe_4b {c : Nat} {e : En} (h : ¬ 64 ≤ c) (h1 : e.fair) (h2 : ¬ (e.li = true ∧ e.d = 4)) (h3 : 4096 < e.nb) : fe c e = 4 := by rw [fe, if_neg h, if_neg h1.not, if_neg h2, if_pos h3]
theorem fe_0 {c : Nat} {e : En} (h : ¬ 64 ≤ c) (h1 : e.fair) (h2 : ¬ (e.li = true ∧ e.d = 4)) (h3 : e.nb ≤ 4096) : fe c e = 0 := by rw [fe, if_neg h, if_neg h1.not, if_neg h2, if_neg (by omega)]
/-- What an entry without a fault is. -/
theorem fe_zero {c : Nat} {e : En} (h : fe c e = 0) : c < 64 ∧ 1 ≤ e.k ∧ e.k ≤ 1000 ∧ e.ah < e.k ∧ (e.li = false → e.ns = 0) ∧ (e.li = true → e.nb = 0) ∧ (e.li = true → e.d ≠ 4) ∧ e.nb ≤ 4096 := by
  unfold fe at h
  by_cases h1 : 64 ≤ c
  · rw [if_pos h1] at h; omega
  rw [if_neg h1] at h
  by_cases h2 : e.k < 1 ∨ 1000 < e.k ∨ e.k ≤ e.ah ∨ (0 < e.ns ∧ e.li = false) ∨ (0 < e.nb ∧ e.li = true)
  · rw [if_pos h2] at h; omega
  rw [if_neg h2] at h
  by_cases h3 : e.li = true ∧ e.d = 4
  · rw [if_pos h3] at h; omega
  rw [if_neg h3] at h
  by_cases h4 : 4096 < e.nb
  · rw [if_pos h4] at h; omega
  have a1 : ¬ e.k < 1 := fun h => h2 (.inl h)
  have a2 : ¬ 1000 < e.k := fun h => h2 (.inr (.inl h))
  have a3 : ¬ e.k ≤ e.ah := fun h => h2 (.inr (.inr (.inl h)))
  refine ⟨by omega, by omega, by omega, by omega, fun hl => ?_, fun hl => ?_, fun hl hd => h3 ⟨hl, hd⟩, by omega⟩
  · exact Nat.eq_zero_of_not_pos fun hp => h2 (.inr (.inr (.inr (.inl ⟨hp, hl⟩))))
  · exact Nat.eq_zero_of_not_pos fun hp => h2 (.inr (.inr (.inr (.inr ⟨hp, hl⟩))))
/-- A list without faults: its kinds and bytes may be, and all its items stand in the row. -/
theorem good_of : ∀ (f : Fo) (d ah : Int), d ≤ 4 → (∀ e ∈ fullR f d ah, ∃ c, fe c e = 0) → f.good ∧ (fullR f d ah).length = f.size
  | .nil, _, _, _, _ => ⟨trivial, rfl⟩
  | .cons k cr li bs sub rest, d, ah, hd, h => by
    obtain ⟨c, h0⟩ := h ⟨k, cr, li, bs.length, sub.len, d, ah⟩ (by rw [fullR]; exact .head _)
    obtain ⟨-, k1, k2, -, n1, -, n3, n4⟩ := fe_zero h0
    simp only at k1 k2 n1 n3 n4
    have hr := good_of rest d k hd (fun e he => h e (by rw [fullR]; exact List.mem_cons_of_mem _ (List.mem_append.2 (.inr he))))
    have hs : sub.good ∧ (fullR sub (d + 1) 0).length = sub.size := by
      by_cases h4 : d ≤ 3
      · exact good_of sub (d + 1) 0 (by omega) (fun e he => h e (by rw [fullR, if_pos (by omega)]; exact List.mem_cons_of_mem _ (List.mem_append.2 (.inl he))))
      · have : sub = .nil := by
          cases li with
          | true => exact absurd (show d = 4 by omega) (n3 rfl)
          | false => exact Fo.len0 (n1 rfl)
        subst this
        exact ⟨trivial, rfl⟩
    exact ⟨⟨k1, k2, n4, hs.1, hr.1⟩, by rw [fullR, if_pos (by omega), List.length_cons, List.length_append, hs.2, hr.2, Fo.size]⟩
/-- The first 66 entries decide. -/
theorem scan_take (xs : List En) : scanF (xs.take 66) 0 = scanF xs 0 := by
  by_cases h : xs.length ≤ 66
  · rw [List.take_of_length_le h]
  · have e : xs.take 66 ++ xs.drop 66 = xs := List.take_append_drop 66 xs
    conv => rhs; rw [← e]
    rw [scanF_append]
    by_cases h0 : scanF (xs.take 66) 0 = 0
    · have hl : (xs.take 66).length = 66 := by rw [List.length_take]; omega
      have := scanF_zero _ 0 h0 64 (by omega)
      rw [fe_64 (by omega)] at this
      omega
    · rw [if_pos h0]
theorem check_scan {f : Fo} (h : scanF (fullR f 1 0) 0 = 0) : f.good ∧ f.size ≤ 64 := by
  have hz := scanF_zero _ 0 h
  have q := good_of f 1 0 (by omega) (fun e he => by
    obtain ⟨j, hj, rfl⟩ := List.getElem_of_mem he
    exact ⟨0 + j, hz j hj⟩)
  refine ⟨q.1, ?_⟩
  rw [← q.2]
  by_cases h6 : (fullR f 1 0).length ≤ 64
  · exact h6
  · have := hz 64 (by omega)
    rw [fe_64 (by omega)] at this
    omega
end Go.Proofs.Ytgnciejbhaebeaa

/- What the closure within tlv.Check answers: the first fault of a list, and how many items were gone through. Conditions: a list that can be read; depth 1 to 5. -/
namespace Go.Proofs.Ytgnciejbhaebeaa
open Go Go.RowKit

theorem scan_step {f : Fo} {d : Int} {c c0 : Nat} {P R : List En} {x : En} (hF : fullR f d 0 = P ++ (x :: R)) (hz : scanF P c = 0) (hc : c0 = c + P.length) :
    (∀ u : Int, u ≠ 0 → fe c0 x = u → scanF (fullR f d 0) c = u) ∧ (fe c0 x = 0 → scanF (fullR f d 0) c = scanF R (c0 + 1)) := by
  have e : scanF (fullR f d 0) c = scanF (x :: R) c0 := by rw [hF, scanF_append, if_neg (by simp [hz]), hc]
  rw [e]
  refine ⟨fun u hu h => ?_, fun h => ?_⟩
  · rw [scanF, h, if_pos hu]
  · rw [scanF, h, if_neg (by simp)]
/-- Where the closure's count lies, and the closure itself. -/
structure Wk (w : World) (bc bw : Nat) (c : Nat) : Prop where
  c : w.heap[bc]? = some (.cells #[.int .i64 (c : Int)] 3 (0, 0))
  w : w.heap[bw]? = some (.cells #[.func (.func 68) #[] #[.pointer (some ⟨bc, 0, none⟩), .pointer (some ⟨bw, 0, none⟩)]] 124 (0, 0))
  n : bc ≠ bw
theorem Wk.far {w w' : World} {bc bw c : Nat} (h : Wk w bc bw c) (hb : Below w.heap.size w w') : Wk w' bc bw c := ⟨(hb.block _ (heap_lt h.c)).trans h.c, (hb.block _ (heap_lt h.w)).trans h.w, h.n⟩
theorem Wk.set {w : World} {bc bw c : Nat} (h : Wk w bc bw c) (c' : Nat) : Wk (w.setCell ⟨bc, 0, none⟩ (.int .i64 (c' : Int))) bc bw c' := ⟨by rw [heap_set h.c]; rfl, (heap_far _ (by exact fun e => h.n e.symm)).trans h.w, h.n⟩
theorem FoR.only {ok : Nat → Prop} {w w' : World} {f : Fo} {A : Option Addr} {i bc : Nat} (h : FoR ok w A i f) (hok : ∀ j, ok j → j ≠ bc) (hg : w.grownBy w' (some bc)) : FoR ok w' A i f :=
  FoR.frame (fun j hj hl => hg.block j hl (fun e => hok j hj (by injection e))) hg.size f A i h
/-- What the closure answers and leaves. -/
def WkP (bc bw c : Nat) (w : World) (C : Int) (L : Nat) (r : Ending) (w' : World) : Prop := ∃ c', r = .returned (.int .i64 C) ∧ (C = 0 → c' = c + L ∧ c' ≤ 64) ∧ Wk w' bc bw c' ∧ w.grownBy w' (some bc)
theorem WkP.of {bc bw c : Nat} {w w' : World} {C : Int} {L : Nat} {r : Ending} (c' : Nat) (h1 : r = .returned (.int .i64 C)) (h2 : C = 0 → c' = c + L ∧ c' ≤ 64) (h3 : Wk w' bc bw c') (h4 : w.grownBy w' (some bc)) : WkP bc bw c w C L r w' := ⟨c', h1, h2, h3, h4⟩
set_option maxRecDepth 100000 in
set_option maxHeartbeats 8000000 in
theorem walk_c : ∀ (M : Nat) (f : Fo), f.size = M → ∀ (d : Int) (c : Nat), 1 ≤ d → d ≤ 5 → (d = 5 → f = .nil) → c ≤ 64 → ∀ (ok : Nat → Prop) (A : Option Addr) (n cap : Nat) (w : World) (bc bw : Nat), f.len = n → FoR ok w A 0 f → (∀ j, ok j → j ≠ bc) → n ≤ 2199023255488 → Wk w bc bw c →
    Calls Try.prog 68 #[.slice A n cap, .int .i64 d, .pointer (some ⟨bc, 0, none⟩), .pointer (some ⟨bw, 0, none⟩)] w (WkP bc bw c w (scanF (fullR f d 0) c) (fullR f d 0).length) := by
  intro M
  induction M using Nat.strongRecOn with
  | _ M ih =>
    intro f hM d c hd1 hd5 hdn hc ok A n cap w bc bw hn h1 hok hl hw
    have IH := Lib.hid ih; clear ih
    have HN := Lib.hid hn; clear hn
    have H1 := Lib.hid h1; clear h1
    have HM := Lib.hid hM; clear hM
    have HW := Lib.hid hw; clear hw
    have HDN := Lib.hid hdn; clear hdn
    have HOK := Lib.hid hok; clear hok
    obtain ⟨C, hC⟩ : ∃ C, C = scanF (fullR f d 0) c := ⟨_, rfl⟩
    rw [← hC]
    have HC := Lib.hid hC; clear hC
    go_enter Try.func68, Try.ntmps68
    go_wp2_with (fail)
    go_loopw [7, 13] (fun a i wr => ∃ (k : Nat) (r : Fo) (P : List En) (c0 : Nat) (ah : Int), a = .int .i64 ah ∧ i = .int .i64 k ∧ 0 ≤ ah ∧ Hid (k + r.len = n) ∧ Hid (FoR ok w A k r) ∧ Hid (r.size ≤ f.size) ∧ Hid (fullR f d 0 = P ++ fullR r d ah) ∧ Hid (scanF P c = 0) ∧ Hid (c0 = c + P.length) ∧ c0 ≤ 64 ∧ Hid (Wk wr bc bw c0) ∧ Hid (w.grownBy wr (some bc))) (fun _ i _ => n - (intOf i).toNat)
    case atStart => exact ⟨0, f, [], c, 0, rfl, rfl, by omega, Lib.hid (by rw [HN.out]; omega), H1, Lib.hid (Nat.le_refl _), Lib.hid rfl, Lib.hid rfl, Lib.hid rfl, hc, HW, Lib.hid (World.grownBy.refl _ _)⟩
    case round =>
      obtain ⟨k, r, P, c0, ah, rfl, rfl, hah, HK, R1, HS, HF, HZ, HC0, hc0, HWr, HG⟩ := hrel
      cases r with
      | nil =>
        have hk : k = n := HK.out
        have hk' : (n : Int) ≤ (k : Int) := by omega
        clear hk
        have eF : fullR f d 0 = P := by rw [HF.out, fullR, List.append_nil]
        have e0 : C = 0 := by rw [HC.out, eF]; exact HZ.out
        have E0 := Lib.hid e0
        have EF := Lib.hid eF
        clear e0 eF
        go_wp2_with (fail)
        go_ret
        exact WkP.of c0 (by rw [E0.out]; rfl) (fun _ => ⟨by rw [EF.out]; exact HC0.out, hc0⟩) HWr.out HG.out
      | cons z cr li bs sub rest =>
        obtain ⟨⟨b1, o1, At1, m1, cm1, As1, e1, rfl, hb1, hb1k, ⟨x0, x1, x2, x3, x4⟩, t1, s1, l1, l2, l3⟩, r1⟩ := R1.out.one
        have hd4 : d ≤ 4 := by
          rcases Int.lt_or_le d 5 with h | h
          · omega
          · have e := HDN.out (by omega)
            subst e
            have := HS.out
            simp only [Fo.size] at this
            omega
        have hge := HG.out
        have hbl : wr.heap[b1]? = w.heap[b1]? := hge.block b1 hb1 (fun e => HOK.out b1 hb1k (by injection e))
        have hcell : ∀ q v, w.cell? ⟨b1, q, none⟩ = some v → wr.cell? ⟨b1, q, none⟩ = some v := fun q v hu => (World.cell?_of_block (w := w) (a := ⟨b1, q, none⟩) hbl).trans hu
        replace x0 := hcell _ _ x0
        replace x1 := hcell _ _ x1
        replace x2 := hcell _ _ x2
        replace x3 := hcell _ _ x3
        replace x4 := hcell _ _ x4
        have hkn : k < n := by have := HK.out; simp only [Fo.len] at this; omega
        have hlt' : (k : Int) < (n : Int) := by omega
        have S1 := Lib.hid s1
        have R1b := Lib.hid r1
        obtain ⟨sl, esl⟩ : ∃ sl, sl = sub.len := ⟨_, rfl⟩
        rw [← esl] at x4 l1 l3
        have ESL := Lib.hid esl
        have hFx : fullR f d 0 = P ++ ((⟨z, cr, li, bs.length, sub.len, d, ah⟩ : En) :: (fullR sub (d + 1) 0 ++ fullR rest d z)) := by rw [HF.out, fullR, if_pos (by omega)]
        have em : bs.length = m1 := t1.1
        rw [em, ← esl] at hFx
        have hst := scan_step hFx HZ.out HC0.out
        rw [← HC.out] at hst
        have RES := Lib.hid hst.1
        have NXT := Lib.hid hst.2
        have HFX := Lib.hid hFx
        have LM : (m1 : Int) ≤ 140737488355328 := by have := t1.2.2.2.2.2; omega
        -- the world of this round
        have cc : wr.cell? ⟨bc, 0, none⟩ = some (.int .i64 (c0 : Int)) := by rw [heap_cell HWr.out.c]; rfl
        have xw : wr.cell? ⟨bw, 0, none⟩ = some (.func (.func 68) #[] #[.pointer (some ⟨bc, 0, none⟩), .pointer (some ⟨bw, 0, none⟩)]) := by rw [heap_cell HWr.out.w]; rfl
        have nbw : bc ≠ bw := HWr.out.n
        have nwb : bw ≠ bc := fun e => nbw e.symm
        have cf : wr.frozen? ⟨bc, 0, none⟩ = false := heap_free HWr.out.c 0
        have hbcl : bc < wr.heap.size := heap_lt HWr.out.c
        have hbwl : bw < wr.heap.size := heap_lt HWr.out.w
        obtain ⟨wa, ewa⟩ : ∃ wa, wa = (wr.setCell ⟨bc, 0, none⟩ (.int .i64 ((c0 : Int) + 1))).alloc (.cells #[.int .i64 z, .bool cr, .bool li, .slice At1 m1 cm1, .slice As1 sl e1] 95) := ⟨_, rfl⟩
        have wka : Wk wa bc bw (c0 + 1) := by rw [ewa]; exact (HWr.out.set (c0 + 1)).far ((Below.refl _ _).alloc (Nat.le_refl _) _)
        have gra : w.grownBy wa (some bc) := only_trans hge (by rw [ewa]; exact only_trans (only_set bc 0 _) (grownBy_of_below ((Below.refl _ _).alloc (Nat.le_refl _) _) _))
        have ya : ∀ (j : Nat) (v : Value), (#[Value.int .i64 z, .bool cr, .bool li, .slice At1 m1 cm1, .slice As1 sl e1] : Array Value)[j]? = some v → wa.cell? ⟨wr.heap.size, j, none⟩ = some v := fun j v h => by
          have hs : (wr.setCell ⟨bc, 0, none⟩ (.int .i64 ((c0 : Int) + 1))).heap.size = wr.heap.size := by simp [World.setCell]
          rw [ewa, ← hs, cell_of_row _ _ _ _ _ (0, 0) (heap_alloc_new _ _)]; exact h
        have y0 := ya 0 _ rfl
        have y2 := ya 2 _ rfl
        have y3 := ya 3 _ rfl
        have y4 := ya 4 _ rfl
        have yc : wa.cell? ⟨bc, 0, none⟩ = some (.int .i64 ((c0 : Int) + 1)) := by rw [heap_cell wka.c]; rfl
        have yw : wa.cell? ⟨bw, 0, none⟩ = some (.func (.func 68) #[] #[.pointer (some ⟨bc, 0, none⟩), .pointer (some ⟨bw, 0, none⟩)]) := by rw [heap_cell wka.w]; rfl
        have WKA := Lib.hid wka
        have GRA := Lib.hid gra
        have EWA := Lib.hid ewa
        have HBCL := Lib.hid hbcl
        clear ya wka gra ewa hge hbl hcell hst hFx s1 r1 esl em t1 l1 hb1k hb1 R1
        have hlc : (c0 : Int) ≤ 64 := by omega
        by_cases h64 : 64 ≤ c0
        · have h64' : (64 : Int) ≤ (c0 : Int) := by omega
          have e := Lib.hid (RES.out 4 (by decide) (fe_64 h64))
          go_wp2_with (fail)
          go_ret
          exact WkP.of (c0 + 1) (by rw [e.out]; rfl) (fun h => absurd (e.out.symm.trans h) (by decide)) (by rw [← EWA.out]; exact WKA.out) (by rw [← EWA.out]; exact GRA.out)
        · have h64' : (c0 : Int) < 64 := by omega
          by_cases hC : z ≤ ah
          · have e := Lib.hid (RES.out 1 (by decide) (fe_1 h64 (.inr (.inr (.inl hC)))))
            go_wp2_with (fail)
            go_ret
            exact WkP.of (c0 + 1) (by rw [e.out]; rfl) (fun h => absurd (e.out.symm.trans h) (by decide)) (by rw [← EWA.out]; exact WKA.out) (by rw [← EWA.out]; exact GRA.out)
          · have hC' : ah < z := by omega
            by_cases hB : 1000 < z
            · have e := Lib.hid (RES.out 1 (by decide) (fe_1 h64 (.inr (.inl hB))))
              go_wp2_with (fail)
              go_ret
              exact WkP.of (c0 + 1) (by rw [e.out]; rfl) (fun h => absurd (e.out.symm.trans h) (by decide)) (by rw [← EWA.out]; exact WKA.out) (by rw [← EWA.out]; exact GRA.out)
            · have hB' : z ≤ 1000 := by omega
              cases li with
              | false =>
                by_cases hD : 0 < sl
                · have hD' : (0 : Int) < (sl : Int) := by omega
                  have e := Lib.hid (RES.out 1 (by decide) (fe_1 h64 (.inr (.inr (.inr (.inl ⟨hD, rfl⟩))))))
                  go_wp2_with (fail)
                  go_ret
                  exact WkP.of (c0 + 1) (by rw [e.out]; rfl) (fun h => absurd (e.out.symm.trans h) (by decide)) (by rw [← EWA.out]; exact WKA.out) (by rw [← EWA.out]; exact GRA.out)
                · have hD' : (sl : Int) ≤ 0 := by omega
                  have fa : Hid (En.fair ⟨z, cr, false, m1, sl, d, ah⟩) := Lib.hid ⟨by show 1 ≤ z; omega, hB', hC', fun _ => by show sl = 0; omega, fun h => by cases h⟩
                  by_cases hF : 4096 < m1
                  · have hF' : (4096 : Int) < (m1 : Int) := by omega
                    have e := Lib.hid (RES.out 4 (by decide) (fe_4b h64 fa.out (fun h => by cases h.1) hF))
                    go_wp2_with (fail)
                    go_ret
                    exact WkP.of (c0 + 1) (by rw [e.out]; rfl) (fun h => absurd (e.out.symm.trans h) (by decide)) (by rw [← EWA.out]; exact WKA.out) (by rw [← EWA.out]; exact GRA.out)
                  · have hF' : (m1 : Int) ≤ 4096 := by omega
                    have HSs : Hid (sub.size < M) := Lib.hid (by have a := HS.out; have b := HM.out; simp only [Fo.size] at a; omega)
                    have SA := Lib.hid (S1.out.only HOK.out GRA.out)
                    have nx := NXT.out (fe_0 h64 fa.out (fun h => by cases h.1) (by show m1 ≤ 4096; omega))
                    have NX := Lib.hid nx
                    clear nx
                    have HZ0 : Hid (0 ≤ z) := Lib.hid (by omega)
                    have q1 : 1 ≤ d + 1 := by omega
                    have q2 : d + 1 ≤ 5 := by omega
                    have q3 : Hid (d + 1 = 5 → sub = .nil) := Lib.hid (fun _ => Fo.len0 (by have := ESL.out; omega))
                    go_wp2_with (fail)
                    rw [← EWA.out]
                    refine (IH.out sub.size HSs.out sub rfl (d + 1) (c0 + 1) q1 q2 q3.out (by omega) ok As1 sl e1 wa bc bw ESL.out.symm SA.out HOK.out l3 WKA.out).mono ?_
                    rintro _ w1 ⟨c1, rfl, hc1, hw1, hg1⟩
                    obtain ⟨E1, eE1⟩ : ∃ E1, E1 = scanF (fullR sub (d + 1) 0) (c0 + 1) := ⟨_, rfl⟩
                    rw [← eE1] at hc1 ⊢
                    have EE1 := Lib.hid eE1
                    have HC1 := Lib.hid hc1
                    have W1 := Lib.hid hw1
                    have G1 := Lib.hid (only_trans GRA.out hg1)
                    have y0b : w1.cell? ⟨wr.heap.size, 0, none⟩ = some (.int .i64 z) := by
                      rw [World.cell?_of_block (w := wa) (a := ⟨wr.heap.size, 0, none⟩) (hg1.block _ (by rw [EWA.out]; simp [World.setCell]) (by intro e; injection e with e; have e2 : wr.heap.size = bc := e; have := HBCL.out; omega))]
                      exact y0
                    clear eE1 hc1 hw1 hg1
                    by_cases hE : E1 = 0
                    · have ed : (E1 != 0) = false := by rw [hE]; rfl
                      have HE := Lib.hid hE
                      clear hE
                      go_wp2_with (fail)
                      refine ⟨⟨k + 1, rest, P ++ ((⟨z, cr, false, m1, sl, d, ah⟩ : En) :: fullR sub (d + 1) 0), c1, z, rfl, by go_num, HZ0.out, Lib.hid (by have := HK.out; simp only [Fo.len] at this; omega), R1b, Lib.hid (by have := HS.out; simp only [Fo.size] at this; omega), Lib.hid ?_, Lib.hid ?_, Lib.hid ?_, (HC1.out HE.out).2, W1, G1⟩, by simp [intOf]; omega⟩
                      · rw [HFX.out]; simp
                      · rw [scanF_append, if_neg (by rw [HZ.out]; simp), ← HC0.out, scanF, fe_0 h64 fa.out (fun h => by cases h.1) (by show m1 ≤ 4096; omega), if_neg (by simp), ← EE1.out]
                        exact HE.out
                      · rw [(HC1.out HE.out).1, HC0.out, List.length_append, List.length_cons]; omega
                    · have ed : (E1 != 0) = true := by simpa using hE
                      have eC : C = E1 := by rw [NX.out, scanF_append, ← EE1.out, if_pos hE]
                      have EC := Lib.hid eC
                      have HE := Lib.hid hE
                      clear hE eC
                      go_wp2_with (fail)
                      go_ret
                      exact WkP.of c1 (by rw [EC.out]; rfl) (fun h => absurd (EC.out.symm.trans h) HE.out) W1.out G1.out
              | true =>
                by_cases hE : 0 < m1
                · have hE' : (0 : Int) < (m1 : Int) := by omega
                  have e := Lib.hid (RES.out 1 (by decide) (fe_1 h64 (.inr (.inr (.inr (.inr ⟨hE, rfl⟩))))))
                  go_wp2_with (fail)
                  go_ret
                  exact WkP.of (c0 + 1) (by rw [e.out]; rfl) (fun h => absurd (e.out.symm.trans h) (by decide)) (by rw [← EWA.out]; exact WKA.out) (by rw [← EWA.out]; exact GRA.out)
                · have hE' : (m1 : Int) ≤ 0 := by omega
                  have hF' : (m1 : Int) ≤ 4096 := by omega
                  have fa : Hid (En.fair ⟨z, cr, true, m1, sl, d, ah⟩) := Lib.hid ⟨by show 1 ≤ z; omega, hB', hC', (fun h => by cases h), fun _ => by show m1 = 0; omega⟩
                  by_cases hG : d = 4
                  · have hG' : (4 : Int) ≤ d := by omega
                    have e := Lib.hid (RES.out 5 (by decide) (fe_5 h64 fa.out rfl hG))
                    go_wp2_with (fail)
                    go_ret
                    exact WkP.of (c0 + 1) (by rw [e.out]; rfl) (fun h => absurd (e.out.symm.trans h) (by decide)) (by rw [← EWA.out]; exact WKA.out) (by rw [← EWA.out]; exact GRA.out)
                  · have hG' : d < 4 := by omega
                    have HSs : Hid (sub.size < M) := Lib.hid (by have a := HS.out; have b := HM.out; simp only [Fo.size] at a; omega)
                    have SA := Lib.hid (S1.out.only HOK.out GRA.out)
                    have nx := NXT.out (fe_0 h64 fa.out (fun h => by have : d = 4 := h.2; omega) (by show m1 ≤ 4096; omega))
                    have NX := Lib.hid nx
                    clear nx
                    have HZ0 : Hid (0 ≤ z) := Lib.hid (by omega)
                    have q1 : 1 ≤ d + 1 := by omega
                    have q2 : d + 1 ≤ 5 := by omega
                    have q3 : Hid (d + 1 = 5 → sub = .nil) := Lib.hid (fun h => by omega)
                    go_wp2_with (fail)
                    rw [← EWA.out]
                    refine (IH.out sub.size HSs.out sub rfl (d + 1) (c0 + 1) q1 q2 q3.out (by omega) ok As1 sl e1 wa bc bw ESL.out.symm SA.out HOK.out l3 WKA.out).mono ?_
                    rintro _ w1 ⟨c1, rfl, hc1, hw1, hg1⟩
                    obtain ⟨E1, eE1⟩ : ∃ E1, E1 = scanF (fullR sub (d + 1) 0) (c0 + 1) := ⟨_, rfl⟩
                    rw [← eE1] at hc1 ⊢
                    have EE1 := Lib.hid eE1
                    have HC1 := Lib.hid hc1
                    have W1 := Lib.hid hw1
                    have G1 := Lib.hid (only_trans GRA.out hg1)
                    have y0b : w1.cell? ⟨wr.heap.size, 0, none⟩ = some (.int .i64 z) := by
                      rw [World.cell?_of_block (w := wa) (a := ⟨wr.heap.size, 0, none⟩) (hg1.block _ (by rw [EWA.out]; simp [World.setCell]) (by intro e; injection e with e; have e2 : wr.heap.size = bc := e; have := HBCL.out; omega))]
                      exact y0
                    clear eE1 hc1 hw1 hg1
                    by_cases hE : E1 = 0
                    · have ed : (E1 != 0) = false := by rw [hE]; rfl
                      have HE := Lib.hid hE
                      clear hE
                      go_wp2_with (fail)
                      refine ⟨⟨k + 1, rest, P ++ ((⟨z, cr, true, m1, sl, d, ah⟩ : En) :: fullR sub (d + 1) 0), c1, z, rfl, by go_num, HZ0.out, Lib.hid (by have := HK.out; simp only [Fo.len] at this; omega), R1b, Lib.hid (by have := HS.out; simp only [Fo.size] at this; omega), Lib.hid ?_, Lib.hid ?_, Lib.hid ?_, (HC1.out HE.out).2, W1, G1⟩, by simp [intOf]; omega⟩
                      · rw [HFX.out]; simp
                      · rw [scanF_append, if_neg (by rw [HZ.out]; simp), ← HC0.out, scanF, fe_0 h64 fa.out (fun h => by have : d = 4 := h.2; omega) (by show m1 ≤ 4096; omega), if_neg (by simp), ← EE1.out]
                        exact HE.out
                      · rw [(HC1.out HE.out).1, HC0.out, List.length_append, List.length_cons]; omega
                    · have ed : (E1 != 0) = true := by simpa using hE
                      have eC : C = E1 := by rw [NX.out, scanF_append, ← EE1.out, if_pos hE]
                      have EC := Lib.hid eC
                      have HE := Lib.hid hE
                      clear hE eC
                      go_wp2_with (fail)
                      go_ret
                      exact WkP.of c1 (by rw [EC.out]; rfl) (fun h => absurd (EC.out.symm.trans h) HE.out) W1.out G1.out
end Go.Proofs.Ytgnciejbhaebeaa

/- What tlv.Check answers. Conditions: items that can be read. -/
namespace Go.Proofs.Ytgnciejbhaebeaa
open Go Go.RowKit

set_option maxRecDepth 100000 in
set_option maxHeartbeats 4000000 in
theorem Check_c (f : Fo) (ok : Nat → Prop) (A : Option Addr) (n c : Nat) (w : World) (hn : f.len = n) (h1 : FoR ok w A 0 f) (hl : n ≤ 2199023255488) :
    Calls Try.prog 45 #[.slice A n c] w fun r w' => r = .returned (.int .i64 (checkF f)) ∧ Below w.heap.size w w' := by
  have HN := Lib.hid hn; clear hn
  obtain ⟨C, hC⟩ : ∃ C, C = checkF f := ⟨_, rfl⟩
  rw [← hC]
  have HC := Lib.hid hC; clear hC
  have hmf : ∀ (fn : Fn) (first cap : Array Value) (w : World), (Instr.makeFunc fn first cap).run Try.prog w = .ok (.func fn first cap) w := fun _ _ _ _ => rfl
  have H1 := Lib.hid (FoR.weak (ok' := (· < w.heap.size)) (fun _ _ h => h) f A 0 h1); clear h1
  obtain ⟨w0, ew0⟩ : ∃ w0, w0 = (w.alloc (.cells #[.int .i64 0] 3)).alloc (.cells #[.nilFunc] 124) := ⟨_, rfl⟩
  have hs1 : (w.alloc (.cells #[.int .i64 0] 3)).heap.size = w.heap.size + 1 := by simp
  have g0 : w0.heap[w.heap.size]? = some (.cells #[.int .i64 0] 3 (0, 0)) := by rw [ew0, Below.heap_alloc _ _ _ (by simp), heap_alloc_new]
  have g1 : w0.heap[w.heap.size + 1]? = some (.cells #[.nilFunc] 124 (0, 0)) := by rw [ew0, ← hs1, heap_alloc_new]
  have kb0 : Below w.heap.size w w0 := by rw [ew0]; exact ((Below.refl _ _).alloc (Nat.le_refl _) _).alloc (by simp) _
  have y0 : ((w.alloc (.cells #[.int .i64 0] 3)).alloc (.cells #[.nilFunc] 124)).cell? ⟨w.heap.size + 1, 0, none⟩ = some .nilFunc := by rw [← ew0, heap_cell g1]; rfl
  have y1 : ((w.alloc (.cells #[.int .i64 0] 3)).alloc (.cells #[.nilFunc] 124)).frozen? ⟨w.heap.size + 1, 0, none⟩ = false := by rw [← ew0]; exact heap_free g1 0
  obtain ⟨wa, ewa⟩ : ∃ wa, wa = (w.alloc (.cells #[.int .i64 0] 3)).alloc (.cells #[.func (.func 68) #[] #[.pointer (some ⟨w.heap.size, 0, none⟩), .pointer (some ⟨w.heap.size + 1, 0, none⟩)]] 124) := ⟨_, rfl⟩
  have kb : Below w.heap.size w wa := by rw [ewa]; exact ((Below.refl _ _).alloc (Nat.le_refl _) _).alloc (by simp) _
  have wk : Wk wa w.heap.size (w.heap.size + 1) 0 := by
    rw [ewa]
    refine ⟨?_, ?_, by omega⟩
    · rw [Below.heap_alloc _ _ _ (by simp), heap_alloc_new]; rfl
    · rw [← hs1, heap_alloc_new]
  have WK := Lib.hid wk
  have KB := Lib.hid kb
  have EWA := Lib.hid ewa
  clear wk kb ewa hs1 g0 g1 kb0 ew0
  go_enter Try.func45, Try.ntmps45
  go_wp2_with (fail)

  rw [← EWA.out]
  refine (walk_c f.size f rfl 1 0 (by omega) (by omega) (fun h => by omega) (by omega) _ A n c wa _ _ HN.out (H1.out.below KB.out) (fun j hj => Nat.ne_of_lt hj) hl WK.out).mono ?_
  rintro _ w1 ⟨c1, rfl, hc1, hw1, hg1⟩
  have hk1 : Below w.heap.size w w1 := KB.out.grown hg1 KB.out.size (fun j hj => by injection hj with hj; omega)
  have K1 := Lib.hid hk1
  obtain ⟨E, eE⟩ : ∃ E, E = scanF (fullR f 1 0) 0 := ⟨_, rfl⟩
  rw [← eE]
  have EE := Lib.hid eE
  clear eE hc1 hw1 hg1 hk1
  by_cases hE : E = 0
  · have hz : scanF (fullR f 1 0) 0 = 0 := by rw [← EE.out]; exact hE
    obtain ⟨gd, sz⟩ := check_scan hz
    have HZ := Lib.hid hz
    have GD := Lib.hid gd
    have ed : (E != 0) = false := by rw [hE]; rfl
    clear hz gd hE
    go_wp2_with (fail)
    refine (lay_c f.size f rfl GD.out (by omega) _ A n c w1 HN.out (H1.out.below K1.out) hl).mono ?_
    rintro _ w2 ⟨v2, rfl, ho2, hk2⟩
    obtain ⟨A2, c2, rfl, -, -, -, -⟩ := OwnB.form ho2
    obtain ⟨l2, el2⟩ : ∃ l2, l2 = (layL f).length := ⟨_, rfl⟩
    rw [← el2]
    have EL2 := Lib.hid el2
    have K2 := Lib.hid (K1.out.trans (hk2.mono K1.out.size))
    clear el2 ho2 hk2
    by_cases h4 : 4096 < l2
    · have h4' : (4096 : Int) < (l2 : Int) := by omega
      have e := Lib.hid (show C = 4 by rw [HC.out, checkF, HZ.out, if_neg (by simp), if_pos (by rw [← EL2.out]; exact h4)])
      go_wp2_with (fail)
      go_ret
      exact ⟨by rw [e.out]; rfl, K2.out⟩
    · have h4' : (l2 : Int) ≤ 4096 := by omega
      have e := Lib.hid (show C = 0 by rw [HC.out, checkF, HZ.out, if_neg (by simp), if_neg (by rw [← EL2.out]; exact h4)])
      go_wp2_with (fail)
      go_ret
      exact ⟨by rw [e.out]; rfl, K2.out⟩
  · have ed : (E != 0) = true := by simpa using hE
    have e := Lib.hid (show C = E by rw [HC.out, checkF, ← EE.out, if_pos hE])
    clear hE
    go_wp2_with (fail)
    go_ret
    exact ⟨by rw [e.out]; rfl, K1.out⟩
end Go.Proofs.Ytgnciejbhaebeaa

/- What the reference's bytes answer: a list's bytes. Conditions: kinds and bytes that may be; no more items than so many. -/
namespace Go.Proofs.Ytgnciejbhaebeaa
open Go Go.RowKit

set_option maxRecDepth 100000 in
set_option maxHeartbeats 4000000 in
theorem refBytes_c : ∀ (M : Nat) (f : Fo), f.size = M → f.good → f.size ≤ 100000 → ∀ (ok : Nat → Prop) (A : Option Addr) (n c : Nat) (w : World), f.len = n → FoR ok w A 0 f → n ≤ 2199023255488 →
    Calls Try.prog 67 #[.slice A n c] w fun r w' => ∃ v, r = .returned v ∧ OwnB w' w.heap.size v (layL f) ∧ Below w.heap.size w w' := by
  intro M
  induction M using Nat.strongRecOn with
  | _ M ih =>
    intro f hM hgood hsz ok A n c w hn h1 hl
    have IH := Lib.hid ih; clear ih
    have HN := Lib.hid hn; clear hn
    have H1 := Lib.hid h1; clear h1
    have HM := Lib.hid hM; clear hM
    have HG := Lib.hid hgood; clear hgood
    have HSZ := Lib.hid hsz; clear hsz
    have HLE : Hid ((layL f).length ≤ 4116 * 100000) := Lib.hid (by have := layL_le f HG.out HSZ.out; have := HSZ.out; omega)
    go_enter Try.func67, Try.ntmps67
    go_wp2_with (fail)
    go_loopw [3, 4] (fun v i wr => ∃ (k : Nat) (r : Fo) (P : List UInt8), i = .int .i64 k ∧ Hid (k + r.len = n) ∧ Hid (FoR ok w A k r) ∧ Hid r.good ∧ Hid (r.size ≤ f.size) ∧ Hid (OwnB wr w.heap.size v P) ∧ Hid (layL f = P ++ layL r) ∧ Below w.heap.size w wr) (fun _ i _ => n - (intOf i).toNat)
    case atStart => exact ⟨0, f, [], rfl, Lib.hid (by rw [HN.out]; omega), H1, HG, Lib.hid (Nat.le_refl _), Lib.hid (World.ownsRow_made w #[] 0 (Nat.le_refl _) (Nat.zero_le _) rfl), Lib.hid rfl, (Below.refl _ _).alloc (Nat.le_refl _) _⟩
    case round =>
      obtain ⟨k, r, P, rfl, HK, R1, HGr, HS, HO, HL, kb⟩ := hrel
      cases r with
      | nil =>
        have hk : k = n := HK.out
        have hk' : (n : Int) ≤ (k : Int) := by omega
        clear hk
        go_wp2_with (fail)
        go_ret
        exact ⟨_, rfl, by rw [HL.out, layL, List.append_nil]; exact HO.out, kb⟩
      | cons z cr li bs sub rest =>
        obtain ⟨⟨b1, o1, At1, m1, cm1, As1, e1, rfl, hb1, -, ⟨x0, x1, x2, x3, x4⟩, t1, s1, l1, l2, l3⟩, r1⟩ := R1.out.one
        obtain ⟨g1, g2, g3, g4, -, g5⟩ := t1
        obtain ⟨z1, z2, z3, zs, zr⟩ := HGr.out
        have hkn : k < n := by have := HK.out; simp only [Fo.len] at this; omega
        have hlt' : (k : Int) < (n : Int) := by omega
        have R1b := Lib.hid r1
        have S1 := Lib.hid s1
        have G1 := Lib.hid g1
        have G2 := Lib.hid g2
        have ZS := Lib.hid zs
        have ZR := Lib.hid zr
        have HSb : Hid (rest.size ≤ f.size) := Lib.hid (by have := HS.out; simp only [Fo.size] at this; omega)
        have HSs : Hid (sub.size < M ∧ sub.size ≤ 100000) := Lib.hid (by have := HS.out; have := HM.out; have := HSZ.out; simp only [Fo.size] at *; omega)
        have HKb : Hid (k + 1 + rest.len = n) := Lib.hid (by have := HK.out; simp only [Fo.len] at this; omega)
        obtain ⟨sl, esl⟩ : ∃ sl, sl = sub.len := ⟨_, rfl⟩
        rw [← esl] at x4 l1 l3
        have ESL := Lib.hid esl
        rw [← kb.cell (p := ⟨b1, _, none⟩) hb1] at x0 x1 x2 x3 x4
        have hPl : Hid (P.length ≤ 4116 * 100000) := Lib.hid (by have := HLE.out; rw [HL.out, List.length_append] at this; omega)
        have hbs : Hid (bs.length ≤ 4096) := Lib.hid z3
        have KB := Lib.hid kb
        have HB1 := Lib.hid hb1
        clear g1 g2 r1 s1 zs zr HK HS esl R1 HGr z3 g3 g4
        cases cr with
        | true =>
          cases li with
          | true =>
            obtain ⟨N, eN⟩ : ∃ N, N = numI z true true := ⟨_, rfl⟩
            have hN : (N : Int) = z * 4 + 2 + 1 := by rw [eN]; unfold numI; simp; omega
            have hN2 : N ≤ 4003 := by rw [eN]; exact numI_le _ _ z1 z2
            have EN := Lib.hid eN
            clear eN
            go_wp2_with (fail)
            refine (IH.out sub.size HSs.out.1 sub rfl ZS.out HSs.out.2 ok As1 sl e1 wr ESL.out.symm (S1.out.below KB.out) l3).mono ?_
            rintro r w1 ⟨vi, rfl, hoi, hbi⟩
            obtain ⟨Ai, ci, evi, i1, i2, i3, i4⟩ := OwnB.form hoi
            obtain ⟨I, eI⟩ : ∃ I, I = layL sub := ⟨_, rfl⟩
            have hIl : I.length ≤ 4116 * 100000 := by rw [eI]; have := layL_le sub ZS.out HSs.out.2; have := HSs.out.2; omega
            rw [← eI] at evi i1 i3
            obtain ⟨ni, eni⟩ : ∃ ni, ni = I.length := ⟨_, rfl⟩
            rw [← eni] at evi hIl
            subst evi
            have hsep : I.map bv ≠ [] → ∀ b off, Ai = some ⟨b, off, none⟩ → b < w1.heap.size ∧ ∀ j, u3.ownBlock = some j → j ≠ b := fun _ b off e => by
              have q := i4 _ e
              refine ⟨q.2.1, fun j hj => ?_⟩
              have := (Own.lt HO.out j hj).2
              have : wr.heap.size ≤ b := q.1
              omega
            have hb1' : Below wr.heap.size wr w1 := hbi
            have EI := Lib.hid eI
            have ENI := Lib.hid eni
            clear hoi hbi eI i1 i2 i4 eni
            go_wp2_with (fail)
            rw [← hN]
            refine (refVar_c N w1 (by unfold U64; omega)).mono ?_
            rintro r w2 ⟨v2, rfl, ho2, hb2⟩
            obtain ⟨A2, c2, ev2, -, -, R2', -⟩ := OwnB.form ho2
            obtain ⟨n2, en2⟩ : ∃ n2, n2 = (varL N).length := ⟨_, rfl⟩
            have hn2 : n2 ≤ 10 := by rw [en2]; exact varL_10 (by omega)
            rw [← en2] at ev2
            subst ev2
            have R2 := Lib.hid R2'
            have EN2 := Lib.hid en2
            have HB2 := Lib.hid (hb1'.trans (hb2.mono hb1'.size))
            have HZ2 := Lib.hid hb2.size
            have HO2 := Lib.hid (Own.below HO.out HB2.out)
            have HK2 := Lib.hid (KB.out.trans (HB2.out.mono KB.out.size))
            have RI2 := Lib.hid (i3.below hb2)
            have SEP := Lib.hid hsep
            have hz2 : w.heap.size ≤ w2.heap.size := HK2.out.size
            have wni := u64_wrapN (n := ni) (by unfold U64; omega)
            clear ho2 hb2 R2' en2 i3 hsep
            go_wp2_with (at_builtin; refine wpList_appB _ rfl (.tmp 46) (.tmp 48) rfl w.heap.size _ P rfl HO2.out A2 n2 c2 (varL N) rfl EN2.out.symm R2.out (by have := hPl.out; omega) hz2 ?_; intro v3 w3 ho3 hg3 hv3; have HO3 := Lib.hid ho3; have HK3 := Lib.hid (HK2.out.grown hg3 HK2.out.size (fun j hj => (Own.lt HO2.out j hj).1)); have RI3 := Lib.hid (RI2.out.grownS hg3 (fun hne b off e ej => (SEP.out hne b off e).2 b ej rfl)); have HV3 : Hid (v3.ownBlock = u3.ownBlock ∨ v3.ownBlock = some w2.heap.size) := Lib.hid hv3; have HZ3 := Lib.hid hg3.size; clear ho3 hg3 hv3 hz2)
            refine (refVar_c ni w3 (by unfold U64; omega)).mono ?_
            rintro r w4 ⟨v4, rfl, ho4, hb4⟩
            obtain ⟨A4, c4, ev4, -, -, R4', -⟩ := OwnB.form ho4
            obtain ⟨n4, en4⟩ : ∃ n4, n4 = (varL ni).length := ⟨_, rfl⟩
            have hn4 : n4 ≤ 10 := by rw [en4]; exact varL_10 (by omega)
            rw [← en4] at ev4
            subst ev4
            have R4 := Lib.hid R4'
            have EN4 := Lib.hid en4
            have HO4 := Lib.hid (Own.below HO3.out hb4)
            have HK4 := Lib.hid (HK3.out.trans (hb4.mono HK3.out.size))
            have RI4 := Lib.hid (RI3.out.below hb4)
            have hz4 : w.heap.size ≤ w4.heap.size := HK4.out.size
            have hP3 : Hid ((P ++ varL N).length ≤ 4116 * 100000 + 10) := Lib.hid (by rw [List.length_append, ← EN2.out]; have := hPl.out; omega)
            clear ho4 hb4 R4' en4 wni
            go_wp2_with (first
              | (at_builtin; refine wpList_appB _ rfl (.tmp 50) (.tmp 54) rfl w.heap.size _ (P ++ varL N) rfl HO4.out A4 n4 c4 (varL ni) rfl EN4.out.symm R4.out (by have := hP3.out; omega) hz4 ?_; intro v5 w5 ho5 hg5 hv5; have HO5 := Lib.hid ho5; have HK5 := Lib.hid (HK4.out.grown hg5 HK4.out.size (fun j hj => (Own.lt HO4.out j hj).1)); have RI5 := Lib.hid (RI4.out.grownS hg5 (fun hne b off e ej => Or.elim HV3.out (fun q => (SEP.out hne b off e).2 b (q.symm.trans ej) rfl) (fun q => by (have ej' := Option.some.inj (q.symm.trans ej); have := (SEP.out hne b off e).1; have := HZ2.out; omega)))); have hz5 : w.heap.size ≤ w5.heap.size := HK5.out.size; have hP5 : Hid ((P ++ varL N ++ varL ni).length ≤ 4116 * 100000 + 20) := Lib.hid (by rw [List.length_append, ← EN4.out]; have := hP3.out; omega); clear ho5 hg5 hv5 hz4)
              | (at_builtin; refine wpList_appB _ rfl (.tmp 56) (.tmp 57) rfl w.heap.size _ (P ++ varL N ++ varL ni) rfl HO5.out Ai ni ci I rfl ENI.out.symm RI5.out (by have := hP5.out; omega) hz5 ?_; intro v6 w6 ho6 hg6 _; have HO6 := Lib.hid ho6; have HK6 := Lib.hid (HK5.out.grown hg6 HK5.out.size (fun j hj => (Own.lt HO5.out j hj).1)); clear ho6 hg6))
            go_roundw
            case rel => exact ⟨k + 1, rest, P ++ varL N ++ varL ni ++ I, by go_num, HKb, R1b, ZR, HSb, HO6, Lib.hid (by rw [HL.out, layL, EN.out, ENI.out, EI.out]; simp only [List.append_assoc]; rfl), HK6.out⟩
            case measure => simp [intOf]; omega
          | false =>
            obtain ⟨N, eN⟩ : ∃ N, N = numI z true false := ⟨_, rfl⟩
            have hN : (N : Int) = z * 4 + 2 := by rw [eN]; unfold numI; simp; omega
            have hN2 : N ≤ 4003 := by rw [eN]; exact numI_le _ _ z1 z2
            have EN := Lib.hid eN
            clear eN
            obtain ⟨w1, ew1⟩ : ∃ w1, w1 = wr := ⟨_, rfl⟩
            obtain ⟨I, eI⟩ : ∃ I, I = bs := ⟨_, rfl⟩
            have eni : m1 = I.length := by rw [eI]; exact G1.out.symm
            obtain ⟨Ai, eAi⟩ : ∃ Ai, Ai = At1 := ⟨_, rfl⟩
            have i3 : Rd w1 Ai (I.map bv) := by rw [ew1, eAi, eI]; exact G2.out.below KB.out
            have hIl : m1 ≤ 4116 * 100000 := by rw [eni, eI]; have := hbs.out; omega
            have hsep : I.map bv ≠ [] → ∀ b off, Ai = some ⟨b, off, none⟩ → b < w1.heap.size ∧ ∀ j, u3.ownBlock = some j → j ≠ b := fun hne b off e => by
              rcases G2.out with h | ⟨b', off', e', hb', _⟩
              · exact absurd (by rw [eI]; exact h) hne
              · rw [eAi, e'] at e; injection e with e; injection e with e
                have := KB.out.size
                refine ⟨by rw [ew1]; omega, fun j hj => ?_⟩
                have := (Own.lt HO.out j hj).1
                omega
            have hb1' : Below wr.heap.size wr w1 := by rw [ew1]; exact Below.refl _ _
            have EI := Lib.hid eI
            have EW1 := Lib.hid ew1
            have EAI := Lib.hid eAi
            have ENI := Lib.hid eni
            clear eI ew1 eAi eni
            go_wp2_with (fail)
            rw [← EW1.out, ← EAI.out]
            rw [← hN]
            refine (refVar_c N w1 (by unfold U64; omega)).mono ?_
            rintro r w2 ⟨v2, rfl, ho2, hb2⟩
            obtain ⟨A2, c2, ev2, -, -, R2', -⟩ := OwnB.form ho2
            obtain ⟨n2, en2⟩ : ∃ n2, n2 = (varL N).length := ⟨_, rfl⟩
            have hn2 : n2 ≤ 10 := by rw [en2]; exact varL_10 (by omega)
            rw [← en2] at ev2
            subst ev2
            have R2 := Lib.hid R2'
            have EN2 := Lib.hid en2
            have HB2 := Lib.hid (hb1'.trans (hb2.mono hb1'.size))
            have HZ2 := Lib.hid hb2.size
            have HO2 := Lib.hid (Own.below HO.out HB2.out)
            have HK2 := Lib.hid (KB.out.trans (HB2.out.mono KB.out.size))
            have RI2 := Lib.hid (i3.below hb2)
            have SEP := Lib.hid hsep
            have hz2 : w.heap.size ≤ w2.heap.size := HK2.out.size
            have wni := u64_wrapN (n := m1) (by unfold U64; omega)
            clear ho2 hb2 R2' en2 i3 hsep
            go_wp2_with (at_builtin; refine wpList_appB _ rfl (.tmp 46) (.tmp 48) rfl w.heap.size _ P rfl HO2.out A2 n2 c2 (varL N) rfl EN2.out.symm R2.out (by have := hPl.out; omega) hz2 ?_; intro v3 w3 ho3 hg3 hv3; have HO3 := Lib.hid ho3; have HK3 := Lib.hid (HK2.out.grown hg3 HK2.out.size (fun j hj => (Own.lt HO2.out j hj).1)); have RI3 := Lib.hid (RI2.out.grownS hg3 (fun hne b off e ej => (SEP.out hne b off e).2 b ej rfl)); have HV3 : Hid (v3.ownBlock = u3.ownBlock ∨ v3.ownBlock = some w2.heap.size) := Lib.hid hv3; have HZ3 := Lib.hid hg3.size; clear ho3 hg3 hv3 hz2)
            refine (refVar_c m1 w3 (by unfold U64; omega)).mono ?_
            rintro r w4 ⟨v4, rfl, ho4, hb4⟩
            obtain ⟨A4, c4, ev4, -, -, R4', -⟩ := OwnB.form ho4
            obtain ⟨n4, en4⟩ : ∃ n4, n4 = (varL m1).length := ⟨_, rfl⟩
            have hn4 : n4 ≤ 10 := by rw [en4]; exact varL_10 (by omega)
            rw [← en4] at ev4
            subst ev4
            have R4 := Lib.hid R4'
            have EN4 := Lib.hid en4
            have HO4 := Lib.hid (Own.below HO3.out hb4)
            have HK4 := Lib.hid (HK3.out.trans (hb4.mono HK3.out.size))
            have RI4 := Lib.hid (RI3.out.below hb4)
            have hz4 : w.heap.size ≤ w4.heap.size := HK4.out.size
            have hP3 : Hid ((P ++ varL N).length ≤ 4116 * 100000 + 10) := Lib.hid (by rw [List.length_append, ← EN2.out]; have := hPl.out; omega)
            clear ho4 hb4 R4' en4 wni
            go_wp2_with (first
              | (at_builtin; refine wpList_appB _ rfl (.tmp 50) (.tmp 54) rfl w.heap.size _ (P ++ varL N) rfl HO4.out A4 n4 c4 (varL m1) rfl EN4.out.symm R4.out (by have := hP3.out; omega) hz4 ?_; intro v5 w5 ho5 hg5 hv5; have HO5 := Lib.hid ho5; have HK5 := Lib.hid (HK4.out.grown hg5 HK4.out.size (fun j hj => (Own.lt HO4.out j hj).1)); have RI5 := Lib.hid (RI4.out.grownS hg5 (fun hne b off e ej => Or.elim HV3.out (fun q => (SEP.out hne b off e).2 b (q.symm.trans ej) rfl) (fun q => by (have ej' := Option.some.inj (q.symm.trans ej); have := (SEP.out hne b off e).1; have := HZ2.out; omega)))); have hz5 : w.heap.size ≤ w5.heap.size := HK5.out.size; have hP5 : Hid ((P ++ varL N ++ varL m1).length ≤ 4116 * 100000 + 20) := Lib.hid (by rw [List.length_append, ← EN4.out]; have := hP3.out; omega); clear ho5 hg5 hv5 hz4)
              | (at_builtin; refine wpList_appB _ rfl (.tmp 56) (.tmp 57) rfl w.heap.size _ (P ++ varL N ++ varL m1) rfl HO5.out Ai m1 cm1 I rfl ENI.out.symm RI5.out (by have := hP5.out; omega) hz5 ?_; intro v6 w6 ho6 hg6 _; have HO6 := Lib.hid ho6; have HK6 := Lib.hid (HK5.out.grown hg6 HK5.out.size (fun j hj => (Own.lt HO5.out j hj).1)); clear ho6 hg6))
            go_roundw
            case rel => exact ⟨k + 1, rest, P ++ varL N ++ varL m1 ++ I, by go_num, HKb, R1b, ZR, HSb, HO6, Lib.hid (by rw [HL.out, layL, EN.out, ENI.out, EI.out]; simp only [List.append_assoc]; rfl), HK6.out⟩
            case measure => simp [intOf]; omega
        | false =>
          cases li with
          | true =>
            obtain ⟨N, eN⟩ : ∃ N, N = numI z false true := ⟨_, rfl⟩
            have hN : (N : Int) = z * 4 + 1 := by rw [eN]; unfold numI; simp; omega
            have hN2 : N ≤ 4003 := by rw [eN]; exact numI_le _ _ z1 z2
            have EN := Lib.hid eN
            clear eN
            go_wp2_with (fail)
            refine (IH.out sub.size HSs.out.1 sub rfl ZS.out HSs.out.2 ok As1 sl e1 wr ESL.out.symm (S1.out.below KB.out) l3).mono ?_
            rintro r w1 ⟨vi, rfl, hoi, hbi⟩
            obtain ⟨Ai, ci, evi, i1, i2, i3, i4⟩ := OwnB.form hoi
            obtain ⟨I, eI⟩ : ∃ I, I = layL sub := ⟨_, rfl⟩
            have hIl : I.length ≤ 4116 * 100000 := by rw [eI]; have := layL_le sub ZS.out HSs.out.2; have := HSs.out.2; omega
            rw [← eI] at evi i1 i3
            obtain ⟨ni, eni⟩ : ∃ ni, ni = I.length := ⟨_, rfl⟩
            rw [← eni] at evi hIl
            subst evi
            have hsep : I.map bv ≠ [] → ∀ b off, Ai = some ⟨b, off, none⟩ → b < w1.heap.size ∧ ∀ j, u3.ownBlock = some j → j ≠ b := fun _ b off e => by
              have q := i4 _ e
              refine ⟨q.2.1, fun j hj => ?_⟩
              have := (Own.lt HO.out j hj).2
              have : wr.heap.size ≤ b := q.1
              omega
            have hb1' : Below wr.heap.size wr w1 := hbi
            have EI := Lib.hid eI
            have ENI := Lib.hid eni
            clear hoi hbi eI i1 i2 i4 eni
            go_wp2_with (fail)
            rw [← hN]
            refine (refVar_c N w1 (by unfold U64; omega)).mono ?_
            rintro r w2 ⟨v2, rfl, ho2, hb2⟩
            obtain ⟨A2, c2, ev2, -, -, R2', -⟩ := OwnB.form ho2
            obtain ⟨n2, en2⟩ : ∃ n2, n2 = (varL N).length := ⟨_, rfl⟩
            have hn2 : n2 ≤ 10 := by rw [en2]; exact varL_10 (by omega)
            rw [← en2] at ev2
            subst ev2
            have R2 := Lib.hid R2'
            have EN2 := Lib.hid en2
            have HB2 := Lib.hid (hb1'.trans (hb2.mono hb1'.size))
            have HZ2 := Lib.hid hb2.size
            have HO2 := Lib.hid (Own.below HO.out HB2.out)
            have HK2 := Lib.hid (KB.out.trans (HB2.out.mono KB.out.size))
            have RI2 := Lib.hid (i3.below hb2)
            have SEP := Lib.hid hsep
            have hz2 : w.heap.size ≤ w2.heap.size := HK2.out.size
            have wni := u64_wrapN (n := ni) (by unfold U64; omega)
            clear ho2 hb2 R2' en2 i3 hsep
            go_wp2_with (at_builtin; refine wpList_appB _ rfl (.tmp 46) (.tmp 48) rfl w.heap.size _ P rfl HO2.out A2 n2 c2 (varL N) rfl EN2.out.symm R2.out (by have := hPl.out; omega) hz2 ?_; intro v3 w3 ho3 hg3 hv3; have HO3 := Lib.hid ho3; have HK3 := Lib.hid (HK2.out.grown hg3 HK2.out.size (fun j hj => (Own.lt HO2.out j hj).1)); have RI3 := Lib.hid (RI2.out.grownS hg3 (fun hne b off e ej => (SEP.out hne b off e).2 b ej rfl)); have HV3 : Hid (v3.ownBlock = u3.ownBlock ∨ v3.ownBlock = some w2.heap.size) := Lib.hid hv3; have HZ3 := Lib.hid hg3.size; clear ho3 hg3 hv3 hz2)
            refine (refVar_c ni w3 (by unfold U64; omega)).mono ?_
            rintro r w4 ⟨v4, rfl, ho4, hb4⟩
            obtain ⟨A4, c4, ev4, -, -, R4', -⟩ := OwnB.form ho4
            obtain ⟨n4, en4⟩ : ∃ n4, n4 = (varL ni).length := ⟨_, rfl⟩
            have hn4 : n4 ≤ 10 := by rw [en4]; exact varL_10 (by omega)
            rw [← en4] at ev4
            subst ev4
            have R4 := Lib.hid R4'
            have EN4 := Lib.hid en4
            have HO4 := Lib.hid (Own.below HO3.out hb4)
            have HK4 := Lib.hid (HK3.out.trans (hb4.mono HK3.out.size))
            have RI4 := Lib.hid (RI3.out.below hb4)
            have hz4 : w.heap.size ≤ w4.heap.size := HK4.out.size
            have hP3 : Hid ((P ++ varL N).length ≤ 4116 * 100000 + 10) := Lib.hid (by rw [List.length_append, ← EN2.out]; have := hPl.out; omega)
            clear ho4 hb4 R4' en4 wni
            go_wp2_with (first
              | (at_builtin; refine wpList_appB _ rfl (.tmp 50) (.tmp 54) rfl w.heap.size _ (P ++ varL N) rfl HO4.out A4 n4 c4 (varL ni) rfl EN4.out.symm R4.out (by have := hP3.out; omega) hz4 ?_; intro v5 w5 ho5 hg5 hv5; have HO5 := Lib.hid ho5; have HK5 := Lib.hid (HK4.out.grown hg5 HK4.out.size (fun j hj => (Own.lt HO4.out j hj).1)); have RI5 := Lib.hid (RI4.out.grownS hg5 (fun hne b off e ej => Or.elim HV3.out (fun q => (SEP.out hne b off e).2 b (q.symm.trans ej) rfl) (fun q => by (have ej' := Option.some.inj (q.symm.trans ej); have := (SEP.out hne b off e).1; have := HZ2.out; omega)))); have hz5 : w.heap.size ≤ w5.heap.size := HK5.out.size; have hP5 : Hid ((P ++ varL N ++ varL ni).length ≤ 4116 * 100000 + 20) := Lib.hid (by rw [List.length_append, ← EN4.out]; have := hP3.out; omega); clear ho5 hg5 hv5 hz4)
              | (at_builtin; refine wpList_appB _ rfl (.tmp 56) (.tmp 57) rfl w.heap.size _ (P ++ varL N ++ varL ni) rfl HO5.out Ai ni ci I rfl ENI.out.symm RI5.out (by have := hP5.out; omega) hz5 ?_; intro v6 w6 ho6 hg6 _; have HO6 := Lib.hid ho6; have HK6 := Lib.hid (HK5.out.grown hg6 HK5.out.size (fun j hj => (Own.lt HO5.out j hj).1)); clear ho6 hg6))
            go_roundw
            case rel => exact ⟨k + 1, rest, P ++ varL N ++ varL ni ++ I, by go_num, HKb, R1b, ZR, HSb, HO6, Lib.hid (by rw [HL.out, layL, EN.out, ENI.out, EI.out]; simp only [List.append_assoc]; rfl), HK6.out⟩
            case measure => simp [intOf]; omega
          | false =>
            obtain ⟨N, eN⟩ : ∃ N, N = numI z false false := ⟨_, rfl⟩
            have hN : (N : Int) = z * 4 := by rw [eN]; unfold numI; simp; omega
            have hN2 : N ≤ 4003 := by rw [eN]; exact numI_le _ _ z1 z2
            have EN := Lib.hid eN
            clear eN
            obtain ⟨w1, ew1⟩ : ∃ w1, w1 = wr := ⟨_, rfl⟩
            obtain ⟨I, eI⟩ : ∃ I, I = bs := ⟨_, rfl⟩
            have eni : m1 = I.length := by rw [eI]; exact G1.out.symm
            obtain ⟨Ai, eAi⟩ : ∃ Ai, Ai = At1 := ⟨_, rfl⟩
            have i3 : Rd w1 Ai (I.map bv) := by rw [ew1, eAi, eI]; exact G2.out.below KB.out
            have hIl : m1 ≤ 4116 * 100000 := by rw [eni, eI]; have := hbs.out; omega
            have hsep : I.map bv ≠ [] → ∀ b off, Ai = some ⟨b, off, none⟩ → b < w1.heap.size ∧ ∀ j, u3.ownBlock = some j → j ≠ b := fun hne b off e => by
              rcases G2.out with h | ⟨b', off', e', hb', _⟩
              · exact absurd (by rw [eI]; exact h) hne
              · rw [eAi, e'] at e; injection e with e; injection e with e
                have := KB.out.size
                refine ⟨by rw [ew1]; omega, fun j hj => ?_⟩
                have := (Own.lt HO.out j hj).1
                omega
            have hb1' : Below wr.heap.size wr w1 := by rw [ew1]; exact Below.refl _ _
            have EI := Lib.hid eI
            have EW1 := Lib.hid ew1
            have EAI := Lib.hid eAi
            have ENI := Lib.hid eni
            clear eI ew1 eAi eni
            go_wp2_with (fail)
            rw [← EW1.out, ← EAI.out]
            rw [← hN]
            refine (refVar_c N w1 (by unfold U64; omega)).mono ?_
            rintro r w2 ⟨v2, rfl, ho2, hb2⟩
            obtain ⟨A2, c2, ev2, -, -, R2', -⟩ := OwnB.form ho2
            obtain ⟨n2, en2⟩ : ∃ n2, n2 = (varL N).length := ⟨_, rfl⟩
            have hn2 : n2 ≤ 10 := by rw [en2]; exact varL_10 (by omega)
            rw [← en2] at ev2
            subst ev2
            have R2 := Lib.hid R2'
            have EN2 := Lib.hid en2
            have HB2 := Lib.hid (hb1'.trans (hb2.mono hb1'.size))
            have HZ2 := Lib.hid hb2.size
            have HO2 := Lib.hid (Own.below HO.out HB2.out)
            have HK2 := Lib.hid (KB.out.trans (HB2.out.mono KB.out.size))
            have RI2 := Lib.hid (i3.below hb2)
            have SEP := Lib.hid hsep
            have hz2 : w.heap.size ≤ w2.heap.size := HK2.out.size
            have wni := u64_wrapN (n := m1) (by unfold U64; omega)
            clear ho2 hb2 R2' en2 i3 hsep
            go_wp2_with (at_builtin; refine wpList_appB _ rfl (.tmp 46) (.tmp 48) rfl w.heap.size _ P rfl HO2.out A2 n2 c2 (varL N) rfl EN2.out.symm R2.out (by have := hPl.out; omega) hz2 ?_; intro v3 w3 ho3 hg3 hv3; have HO3 := Lib.hid ho3; have HK3 := Lib.hid (HK2.out.grown hg3 HK2.out.size (fun j hj => (Own.lt HO2.out j hj).1)); have RI3 := Lib.hid (RI2.out.grownS hg3 (fun hne b off e ej => (SEP.out hne b off e).2 b ej rfl)); have HV3 : Hid (v3.ownBlock = u3.ownBlock ∨ v3.ownBlock = some w2.heap.size) := Lib.hid hv3; have HZ3 := Lib.hid hg3.size; clear ho3 hg3 hv3 hz2)
            refine (refVar_c m1 w3 (by unfold U64; omega)).mono ?_
            rintro r w4 ⟨v4, rfl, ho4, hb4⟩
            obtain ⟨A4, c4, ev4, -, -, R4', -⟩ := OwnB.form ho4
            obtain ⟨n4, en4⟩ : ∃ n4, n4 = (varL m1).length := ⟨_, rfl⟩
            have hn4 : n4 ≤ 10 := by rw [en4]; exact varL_10 (by omega)
            rw [← en4] at ev4
            subst ev4
            have R4 := Lib.hid R4'
            have EN4 := Lib.hid en4
            have HO4 := Lib.hid (Own.below HO3.out hb4)
            have HK4 := Lib.hid (HK3.out.trans (hb4.mono HK3.out.size))
            have RI4 := Lib.hid (RI3.out.below hb4)
            have hz4 : w.heap.size ≤ w4.heap.size := HK4.out.size
            have hP3 : Hid ((P ++ varL N).length ≤ 4116 * 100000 + 10) := Lib.hid (by rw [List.length_append, ← EN2.out]; have := hPl.out; omega)
            clear ho4 hb4 R4' en4 wni
            go_wp2_with (first
              | (at_builtin; refine wpList_appB _ rfl (.tmp 50) (.tmp 54) rfl w.heap.size _ (P ++ varL N) rfl HO4.out A4 n4 c4 (varL m1) rfl EN4.out.symm R4.out (by have := hP3.out; omega) hz4 ?_; intro v5 w5 ho5 hg5 hv5; have HO5 := Lib.hid ho5; have HK5 := Lib.hid (HK4.out.grown hg5 HK4.out.size (fun j hj => (Own.lt HO4.out j hj).1)); have RI5 := Lib.hid (RI4.out.grownS hg5 (fun hne b off e ej => Or.elim HV3.out (fun q => (SEP.out hne b off e).2 b (q.symm.trans ej) rfl) (fun q => by (have ej' := Option.some.inj (q.symm.trans ej); have := (SEP.out hne b off e).1; have := HZ2.out; omega)))); have hz5 : w.heap.size ≤ w5.heap.size := HK5.out.size; have hP5 : Hid ((P ++ varL N ++ varL m1).length ≤ 4116 * 100000 + 20) := Lib.hid (by rw [List.length_append, ← EN4.out]; have := hP3.out; omega); clear ho5 hg5 hv5 hz4)
              | (at_builtin; refine wpList_appB _ rfl (.tmp 56) (.tmp 57) rfl w.heap.size _ (P ++ varL N ++ varL m1) rfl HO5.out Ai m1 cm1 I rfl ENI.out.symm RI5.out (by have := hP5.out; omega) hz5 ?_; intro v6 w6 ho6 hg6 _; have HO6 := Lib.hid ho6; have HK6 := Lib.hid (HK5.out.grown hg6 HK5.out.size (fun j hj => (Own.lt HO5.out j hj).1)); clear ho6 hg6))
            go_roundw
            case rel => exact ⟨k + 1, rest, P ++ varL N ++ varL m1 ++ I, by go_num, HKb, R1b, ZR, HSb, HO6, Lib.hid (by rw [HL.out, layL, EN.out, ENI.out, EI.out]; simp only [List.append_assoc]; rfl), HK6.out⟩
            case measure => simp [intOf]; omega
end Go.Proofs.Ytgnciejbhaebeaa

/- What the reference's Check answers. Conditions: items that can be read. -/
namespace Go.Proofs.Ytgnciejbhaebeaa
open Go Go.RowKit

set_option maxRecDepth 100000 in
set_option maxHeartbeats 8000000 in
theorem refCheck_c (f : Fo) (ok : Nat → Prop) (A : Option Addr) (n c : Nat) (w : World) (hn : f.len = n) (h1 : FoR ok w A 0 f) (hl : n ≤ 2199023255488) :
    Calls Try.prog 51 #[.slice A n c] w fun r w' => r = .returned (.int .i64 (checkF f)) ∧ Below w.heap.size w w' := by
  have HN := Lib.hid hn; clear hn
  have H1 := Lib.hid h1; clear h1
  obtain ⟨C, hC⟩ : ∃ C, C = checkF f := ⟨_, rfl⟩
  rw [← hC]
  have HC := Lib.hid hC; clear hC
  go_enter Try.func51, Try.ntmps51
  go_wp2_with (fail)
  refine Calls.mono (row_c f.size f rfl 1 65 (by omega) (by omega) (by omega) (by omega) ok A n c w HN.out H1.out hl) ?_
  rintro _ w1 ⟨v, ds, rfl, ho, hm, hk⟩
  obtain ⟨L, eL⟩ : ∃ L, ds.length = L := ⟨_, rfl⟩
  obtain ⟨Av, cv, rfl, f1, f2, f3⟩ := ho.formL eL
  have hb : ∀ (j : Nat) (hj : j < ds.length), ds[j].nb ≤ 140737488355328 ∧ ds[j].ns ≤ 2199023255488 := fun j hj =>
    full_bounds f A 0 1 0 H1.out _ (List.mem_of_mem_take (by rw [rowR] at hm; rw [← hm]; exact List.mem_map.2 ⟨_, List.getElem_mem hj, rfl⟩))
  have hL4 : L ≤ 66 := by
    have h2 := congrArg List.length hm
    rw [List.length_map, rowR, List.length_take, eL] at h2
    have : ((65 : Int) + 1).toNat = 66 := rfl
    omega
  have hsc : scanF (ds.map EnV.en) 0 = scanF (fullR f 1 0) 0 := by rw [hm, rowR]; exact scan_take _
  have hres : ∀ (k : Nat) (hk : k < ds.length), (∀ (j : Nat) (hj : j < ds.length), j < k → fe j ds[j].en = 0) → ∀ u : Int, u ≠ 0 → fe k ds[k].en = u → C = u := fun k hk h0 u hu he => by
    have hk' : k < (ds.map EnV.en).length := by rw [List.length_map]; exact hk
    have q := scanF_at (ds.map EnV.en) 0 k hk' (fun j hj hjk => by
      rw [List.getElem_map, Nat.zero_add]; exact h0 j (by rw [List.length_map] at hj; exact hj) hjk) (by rw [List.getElem_map, Nat.zero_add, he]; exact hu)
    rw [List.getElem_map, Nat.zero_add, he, hsc] at q
    rw [HC.out, checkF, q, if_pos hu]
  have HR := Lib.hid hres
  have HS := Lib.hid hsc
  have HB := Lib.hid hb
  have EL := Lib.hid eL
  have RD := Lib.hid f3
  have HK := Lib.hid hk
  have hz1 := Lib.hid hk.size
  clear ho hm hb eL f2 f3 hk hres hsc
  go_wp2_with (fail)
  go_loopw [4] (fun i wr => ∃ (k : Nat), i = .int .i64 k ∧ k ≤ L ∧ Hid (∀ (j : Nat) (hj : j < ds.length), j < k → fe j ds[j].en = 0) ∧ Below w1.heap.size w1 wr) (fun i _ => L - (intOf i).toNat)
  case atStart => exact ⟨0, rfl, Nat.zero_le _, Lib.hid (fun j hj h0 => absurd h0 (Nat.not_lt_zero _)), Below.refl _ _⟩
  case round =>
    obtain ⟨k, rfl, hkL, HP, kb⟩ := hrel
    by_cases hkl : k < L
    · obtain ⟨b1, o1, rfl, hb1, x0, x1, x2, x3, x4, x5, x6⟩ := RdE_at RD.out k (by rw [EL.out]; exact hkl)
      obtain ⟨p1, p2⟩ := HB.out k (by rw [EL.out]; exact hkl)
      obtain ⟨xx, exx⟩ : ∃ xx, xx = (ds[k]'(by rw [EL.out]; exact hkl)) := ⟨_, rfl⟩
      rw [← exx] at x0 x1 x2 x3 x4 x5 x6 p1 p2
      have res : Hid (∀ u : Int, u ≠ 0 → fe k xx.en = u → C = u) := Lib.hid (by rw [exx]; exact HR.out k (by rw [EL.out]; exact hkl) HP.out)
      have nxt : Hid (fe k xx.en = 0 → Hid (∀ (j : Nat) (hj : j < ds.length), j < k + 1 → fe j ds[j].en = 0)) := Lib.hid fun h0 => Lib.hid fun j hj h1 => by
        by_cases e : j = k
        · subst e; rw [← exx]; exact h0
        · exact HP.out j hj (by omega)
      clear exx HP
      obtain ⟨kd, cr, li, Ax, nb, cb, As, ns, cs, dd, ah⟩ := xx
      simp only at x0 x1 x2 x3 x4 x5 x6 p1 p2
      rw [← kb.cell (p := ⟨b1, _, none⟩) hb1] at x0 x1 x2 x3 x4 x5 x6
      obtain ⟨wa, ewa⟩ : ∃ wa, wa = wr.alloc (.cells #[.int .i64 kd, .bool cr, .bool li, .slice Ax nb cb, .slice As ns cs] 95) := ⟨_, rfl⟩
      have hba : Below wr.heap.size wr wa := by rw [ewa]; exact (Below.refl _ _).alloc (Nat.le_refl _) _
      have hka : Below w1.heap.size w1 wa := kb.trans (hba.mono kb.size)
      have ya : ∀ (j : Nat) (v : Value), (#[Value.int .i64 kd, .bool cr, .bool li, .slice Ax nb cb, .slice As ns cs] : Array Value)[j]? = some v → wa.cell? ⟨wr.heap.size, j, none⟩ = some v := fun j v h => by
        rw [ewa, cell_of_row _ _ _ _ _ (0, 0) (heap_alloc_new wr _)]; exact h
      have y0 := ya 0 _ rfl
      have y2 := ya 2 _ rfl
      have y3 := ya 3 _ rfl
      have y4 := ya 4 _ rfl
      have z5 : wa.cell? ⟨b1, o1 + k * 7 + 5, none⟩ = some (.int .i64 dd) := (hba.cell (p := ⟨b1, _, none⟩) (Nat.lt_of_lt_of_le hb1 kb.size)).trans x5
      have z6 : wa.cell? ⟨b1, o1 + k * 7 + 6, none⟩ = some (.int .i64 ah) := (hba.cell (p := ⟨b1, _, none⟩) (Nat.lt_of_lt_of_le hb1 kb.size)).trans x6
      clear ya
      have HKA := Lib.hid hka
      have EWA := Lib.hid ewa
      have KB := Lib.hid kb
      clear hka hba ewa kb
      have hlt' : (k : Int) < (L : Int) := by omega
      by_cases h64 : 64 ≤ k
      · have h64' : (64 : Int) ≤ (k : Int) := by omega
        have e := Lib.hid <| res.out 4 (by decide) (fe_64 h64)
        go_wp2_with (fail)
        rw [← EWA.out]
        go_ret
        exact ⟨by rw [e.out]; rfl, HK.out.trans (HKA.out.mono HK.out.size)⟩
      · have h64' : (k : Int) < 64 := by omega
        by_cases hA : kd < 1
        · have e := Lib.hid <| res.out 1 (by decide) (fe_1 h64 (.inl hA))
          have bA : decide (kd < 1) = true := decide_eq_true (by omega)
          clear hA
          go_wp2_with (fail)
          rw [← EWA.out]
          clear x0 x1 x2 x3 x4 x5 x6
          go_quiet (fail)
          go_wp2_with (fail)
          go_ret
          exact ⟨by rw [e.out]; rfl, below_drewN (HK.out.trans (HKA.out.mono HK.out.size)) _⟩
        · have bA : decide (kd < 1) = false := decide_eq_false hA
          by_cases hB : 1000 < kd
          · have e := Lib.hid <| res.out 1 (by decide) (fe_1 h64 (.inr (.inl hB)))
            have bB : decide (1000 < kd) = true := decide_eq_true (by omega)
            clear hA hB
            go_wp2_with (fail)
            rw [← EWA.out]
            clear x0 x1 x2 x3 x4 x5 x6
            go_quiet (fail)
            go_wp2_with (fail)
            go_ret
            exact ⟨by rw [e.out]; rfl, below_drewN (HK.out.trans (HKA.out.mono HK.out.size)) _⟩
          · have bB : decide (1000 < kd) = false := decide_eq_false hB
            by_cases hC : kd ≤ ah
            · have e := Lib.hid <| res.out 1 (by decide) (fe_1 h64 (.inr (.inr (.inl hC))))
              have bC : decide (kd ≤ ah) = true := decide_eq_true (by omega)
              clear hA hB hC
              go_wp2_with (fail)
              rw [← EWA.out]
              clear x0 x1 x2 x3 x4 x5 x6
              go_quiet (fail)
              go_wp2_with (fail)
              go_ret
              exact ⟨by rw [e.out]; rfl, below_drewN (HK.out.trans (HKA.out.mono HK.out.size)) _⟩
            · have bC : decide (kd ≤ ah) = false := decide_eq_false hC
              cases li with
              | false =>
                by_cases hD : 0 < ns
                · have e := Lib.hid <| res.out 1 (by decide) (fe_1 h64 (.inr (.inr (.inr (.inl ⟨hD, rfl⟩)))))
                  have bD : decide ((0 : Int) < (ns : Int)) = true := decide_eq_true (by omega)
                  have bDn : decide (0 < ns) = true := decide_eq_true (by omega)
                  clear hA hB hC hD
                  go_wp2_with (fail)
                  rw [← EWA.out]
                  clear x0 x1 x2 x3 x4 x5 x6
                  go_quiet (fail)
                  go_wp2_with (fail)
                  go_ret
                  exact ⟨by rw [e.out]; rfl, below_drewN (HK.out.trans (HKA.out.mono HK.out.size)) _⟩
                · have fa : Hid (En.fair (EnV.en ⟨kd, cr, false, Ax, nb, cb, As, ns, cs, dd, ah⟩)) := Lib.hid ⟨by show 1 ≤ kd; omega, by show kd ≤ 1000; omega, by show ah < kd; omega, fun _ => by show ns = 0; omega, fun h => by cases h⟩
                  have bD : decide ((0 : Int) < (ns : Int)) = false := decide_eq_false (by omega)
                  have bDn : decide (0 < ns) = false := decide_eq_false (by omega)
                  by_cases hF : 4096 < nb
                  · have e := Lib.hid <| res.out 4 (by decide) (fe_4b h64 fa.out (fun h => by cases h.1) hF)
                    have bE : decide ((0 : Int) < (nb : Int)) = true := decide_eq_true (by omega)
                    have bEn : decide (0 < nb) = true := decide_eq_true (by omega)
                    have bF : decide ((4096 : Int) < (nb : Int)) = true := decide_eq_true (by omega)
                    have bFn : decide (4096 < nb) = true := decide_eq_true (by omega)
                    clear hA hB hC hD hF
                    go_wp2_with (fail)
                    rw [← EWA.out]
                    clear x0 x1 x2 x3 x4 x5 x6
                    go_quiet (fail)
                    go_wp2_with (fail)
                    go_ret
                    exact ⟨by rw [e.out]; rfl, below_drewN (HK.out.trans (HKA.out.mono HK.out.size)) _⟩
                  · have bF : decide ((4096 : Int) < (nb : Int)) = false := decide_eq_false (by omega)
                    have bFn : decide (4096 < nb) = false := decide_eq_false (by omega)
                    by_cases hE : 0 < nb
                    · have nx := nxt.out (fe_0 h64 fa.out (fun h => by cases h.1) (by show nb ≤ 4096; omega))
                      have bE : decide ((0 : Int) < (nb : Int)) = true := decide_eq_true (by omega)
                      have bEn : decide (0 < nb) = true := decide_eq_true (by omega)
                      clear hA hB hC hD hE hF
                      go_wp2_with (fail)
                      rw [← EWA.out]
                      clear x0 x1 x2 x3 x4 x5 x6
                      go_quiet (fail)
                      go_wp2_with (fail)
                      exact ⟨⟨k + 1, by go_num, by omega, nx, below_drewN HKA.out _⟩, by simp [intOf]; omega⟩
                    · have nx := nxt.out (fe_0 h64 fa.out (fun h => by cases h.1) (by show nb ≤ 4096; omega))
                      have bE : decide ((0 : Int) < (nb : Int)) = false := decide_eq_false (by omega)
                      have bEn : decide (0 < nb) = false := decide_eq_false (by omega)
                      clear hA hB hC hD hE hF
                      go_wp2_with (fail)
                      rw [← EWA.out]
                      clear x0 x1 x2 x3 x4 x5 x6
                      go_quiet (fail)
                      go_wp2_with (fail)
                      exact ⟨⟨k + 1, by go_num, by omega, nx, below_drewN HKA.out _⟩, by simp [intOf]; omega⟩
              | true =>
                by_cases hE : 0 < nb
                · have e := Lib.hid <| res.out 1 (by decide) (fe_1 h64 (.inr (.inr (.inr (.inr ⟨hE, rfl⟩)))))
                  have bE : decide ((0 : Int) < (nb : Int)) = true := decide_eq_true (by omega)
                  have bEn : decide (0 < nb) = true := decide_eq_true (by omega)
                  by_cases hD : 0 < ns
                  · have bD : decide ((0 : Int) < (ns : Int)) = true := decide_eq_true (by omega)
                    have bDn : decide (0 < ns) = true := decide_eq_true (by omega)
                    clear hA hB hC hD hE
                    go_wp2_with (fail)
                    rw [← EWA.out]
                    clear x0 x1 x2 x3 x4 x5 x6
                    go_quiet (fail)
                    go_wp2_with (fail)
                    go_ret
                    exact ⟨by rw [e.out]; rfl, below_drewN (HK.out.trans (HKA.out.mono HK.out.size)) _⟩
                  · have bD : decide ((0 : Int) < (ns : Int)) = false := decide_eq_false (by omega)
                    have bDn : decide (0 < ns) = false := decide_eq_false (by omega)
                    clear hA hB hC hD hE
                    go_wp2_with (fail)
                    rw [← EWA.out]
                    clear x0 x1 x2 x3 x4 x5 x6
                    go_quiet (fail)
                    go_wp2_with (fail)
                    go_ret
                    exact ⟨by rw [e.out]; rfl, below_drewN (HK.out.trans (HKA.out.mono HK.out.size)) _⟩
                · have fa : Hid (En.fair (EnV.en ⟨kd, cr, true, Ax, nb, cb, As, ns, cs, dd, ah⟩)) := Lib.hid ⟨by show 1 ≤ kd; omega, by show kd ≤ 1000; omega, by show ah < kd; omega, fun h => (by cases h), fun _ => by show nb = 0; omega⟩
                  have bE : decide ((0 : Int) < (nb : Int)) = false := decide_eq_false (by omega)
                  have bEn : decide (0 < nb) = false := decide_eq_false (by omega)
                  have bF : decide ((4096 : Int) < (nb : Int)) = false := decide_eq_false (by omega)
                  have bFn : decide (4096 < nb) = false := decide_eq_false (by omega)
                  by_cases hG : dd = 4
                  · have ed : (dd == 4) = true := by rw [hG]; rfl
                    have e := Lib.hid <| res.out 5 (by decide) (fe_5 h64 fa.out rfl hG)
                    by_cases hD : 0 < ns
                    · have bD : decide ((0 : Int) < (ns : Int)) = true := decide_eq_true (by omega)
                      have bDn : decide (0 < ns) = true := decide_eq_true (by omega)
                      clear hA hB hC hD hE hG
                      go_wp2_with (fail)
                      rw [← EWA.out]
                      clear x0 x1 x2 x3 x4 x5 x6
                      go_quiet (fail)
                      go_wp2_with (fail)
                      go_ret
                      exact ⟨by rw [e.out]; rfl, below_drewN (HK.out.trans (HKA.out.mono HK.out.size)) _⟩
                    · have bD : decide ((0 : Int) < (ns : Int)) = false := decide_eq_false (by omega)
                      have bDn : decide (0 < ns) = false := decide_eq_false (by omega)
                      clear hA hB hC hD hE hG
                      go_wp2_with (fail)
                      rw [← EWA.out]
                      clear x0 x1 x2 x3 x4 x5 x6
                      go_quiet (fail)
                      go_wp2_with (fail)
                      go_ret
                      exact ⟨by rw [e.out]; rfl, below_drewN (HK.out.trans (HKA.out.mono HK.out.size)) _⟩
                  · have ed : (dd == 4) = false := by simpa using hG
                    have nx := nxt.out (fe_0 h64 fa.out (fun h => hG h.2) (by show nb ≤ 4096; omega))
                    by_cases hD : 0 < ns
                    · have bD : decide ((0 : Int) < (ns : Int)) = true := decide_eq_true (by omega)
                      have bDn : decide (0 < ns) = true := decide_eq_true (by omega)
                      clear hA hB hC hD hE hG
                      go_wp2_with (fail)
                      rw [← EWA.out]
                      clear x0 x1 x2 x3 x4 x5 x6
                      go_quiet (fail)
                      go_wp2_with (fail)
                      exact ⟨⟨k + 1, by go_num, by omega, nx, below_drewN HKA.out _⟩, by simp [intOf]; omega⟩
                    · have bD : decide ((0 : Int) < (ns : Int)) = false := decide_eq_false (by omega)
                      have bDn : decide (0 < ns) = false := decide_eq_false (by omega)
                      clear hA hB hC hD hE hG
                      go_wp2_with (fail)
                      rw [← EWA.out]
                      clear x0 x1 x2 x3 x4 x5 x6
                      go_quiet (fail)
                      go_wp2_with (fail)
                      exact ⟨⟨k + 1, by go_num, by omega, nx, below_drewN HKA.out _⟩, by simp [intOf]; omega⟩
    · have hkl' : (L : Int) ≤ (k : Int) := by omega
      have hkk : k = L := by omega
      have hz : scanF (fullR f 1 0) 0 = 0 := by
        rw [← HS.out]
        refine scanF_none _ _ fun j hj => ?_
        rw [List.getElem_map, Nat.zero_add]
        exact HP.out j (by rw [List.length_map] at hj; exact hj) (by rw [List.length_map, EL.out] at hj; omega)
      obtain ⟨gd, sz⟩ := check_scan hz
      have HZ := Lib.hid hz
      have GD := Lib.hid gd
      have hkb := Lib.hid (HK.out.trans (kb.mono HK.out.size))
      clear hz gd hkk
      go_wp2_with (fail)
      refine (refBytes_c f.size f rfl GD.out (by omega) ok A n c wr HN.out (H1.out.below hkb.out) hl).mono ?_
      rintro _ w2 ⟨v2, rfl, ho2, hk2⟩
      obtain ⟨A2, c2, rfl, -, -, -, -⟩ := OwnB.form ho2
      obtain ⟨l2, el2⟩ : ∃ l2, l2 = (layL f).length := ⟨_, rfl⟩
      rw [← el2]
      have EL2 := Lib.hid el2
      have K2 := Lib.hid (hkb.out.trans (hk2.mono hkb.out.size))
      clear el2 ho2 hk2
      by_cases h4 : 4096 < l2
      · have h4' : (4096 : Int) < (l2 : Int) := by omega
        have e := Lib.hid (show C = 4 by rw [HC.out, checkF, HZ.out, if_neg (by simp), if_pos (by rw [← EL2.out]; exact h4)])
        go_wp2_with (fail)
        go_ret
        exact ⟨by rw [e.out]; rfl, K2.out⟩
      · have h4' : (l2 : Int) ≤ 4096 := by omega
        have e := Lib.hid (show C = 0 by rw [HC.out, checkF, HZ.out, if_neg (by simp), if_neg (by rw [← EL2.out]; exact h4)])
        go_wp2_with (fail)
        go_ret
        exact ⟨by rw [e.out]; rfl, K2.out⟩
end Go.Proofs.Ytgnciejbhaebeaa

/- What tlv.Encode and the reference's Encode of items answer. Conditions: items that can be read. -/
namespace Go.Proofs.Ytgnciejbhaebeaa
open Go Go.RowKit

theorem check_zero {f : Fo} (h : checkF f = 0) : f.good ∧ f.size ≤ 64 ∧ (layL f).length ≤ 4096 := by
  unfold checkF at h
  by_cases h0 : scanF (fullR f 1 0) 0 = 0
  · rw [if_neg (by simp [h0])] at h
    obtain ⟨g1, g2⟩ := check_scan h0
    refine ⟨g1, g2, ?_⟩
    by_cases h4 : 4096 < (layL f).length
    · rw [if_pos h4] at h; omega
    · omega
  · rw [if_pos h0] at h; exact absurd h h0
/-- What Encode answers. -/
def encF (f : Fo) : List UInt8 := if checkF f = 0 then layL f else []

set_option maxRecDepth 100000 in
set_option maxHeartbeats 4000000 in
theorem EncodeT_c (f : Fo) (ok : Nat → Prop) (A : Option Addr) (n c : Nat) (w : World) (hn : f.len = n) (h1 : FoR ok w A 0 f) (hl : n ≤ 2199023255488) :
    Calls Try.prog 43 #[.slice A n c] w fun r w' => ∃ v, r = .returned (.tuple #[v, .int .i64 (checkF f)]) ∧ OwnB w' w.heap.size v (encF f) ∧ Below w.heap.size w w' := by
  obtain ⟨C, hC⟩ : ∃ C, C = checkF f := ⟨_, rfl⟩
  rw [← hC]
  have HC := Lib.hid hC; clear hC
  have H1 := Lib.hid h1; clear h1
  have HN := Lib.hid hn; clear hn
  go_enter Try.func43, Try.ntmps43
  go_wp2_with (fail)
  refine (Check_c f ok A n c w HN.out H1.out hl).mono ?_
  rintro _ w1 ⟨rfl, hk1⟩
  rw [← HC.out]
  have K1 := Lib.hid hk1; clear hk1
  by_cases h0 : C = 0
  · have ed : (C != 0) = false := by rw [h0]; rfl
    have hz : checkF f = 0 := HC.out.symm.trans h0
    obtain ⟨gd, sz, -⟩ := check_zero hz
    have H0 := Lib.hid h0
    have HZ := Lib.hid hz
    have GD := Lib.hid gd
    clear h0 hz gd
    go_wp2_with (fail)
    refine (lay_c f.size f rfl GD.out (by omega) ok A n c w1 HN.out (H1.out.below K1.out) hl).mono ?_
    rintro _ w2 ⟨v2, rfl, ho2, hk2⟩
    have HO2 := Lib.hid ho2
    have K2 := Lib.hid (K1.out.trans (hk2.mono K1.out.size))
    clear ho2 hk2
    go_wp2_with (fail)
    go_ret2
    exact ⟨v2, (by rw [H0.out]; rfl), by rw [encF, if_pos HZ.out]; exact Own.low HO2.out K1.out.size, K2.out⟩
  · have ed : (C != 0) = true := by simpa using h0
    have e := Lib.hid (show encF f = [] by rw [encF, if_neg (fun h => h0 (HC.out.trans h))])
    clear h0
    go_wp2_with (fail)
    go_ret2
    exact ⟨_, rfl, by rw [e.out]; exact Own.nil_ _ _ _, K1.out⟩
set_option maxRecDepth 100000 in
set_option maxHeartbeats 4000000 in
theorem refEncodeT_c (f : Fo) (ok : Nat → Prop) (A : Option Addr) (n c : Nat) (w : World) (hn : f.len = n) (h1 : FoR ok w A 0 f) (hl : n ≤ 2199023255488) :
    Calls Try.prog 44 #[.slice A n c] w fun r w' => ∃ v, r = .returned (.tuple #[v, .int .i64 (checkF f)]) ∧ OwnB w' w.heap.size v (encF f) ∧ Below w.heap.size w w' := by
  obtain ⟨C, hC⟩ : ∃ C, C = checkF f := ⟨_, rfl⟩
  rw [← hC]
  have HC := Lib.hid hC; clear hC
  have H1 := Lib.hid h1; clear h1
  have HN := Lib.hid hn; clear hn
  go_enter Try.func44, Try.ntmps44
  go_wp2_with (fail)
  refine (refCheck_c f ok A n c w HN.out H1.out hl).mono ?_
  rintro _ w1 ⟨rfl, hk1⟩
  rw [← HC.out]
  have K1 := Lib.hid hk1; clear hk1
  by_cases h0 : C = 0
  · have ed : (C != 0) = false := by rw [h0]; rfl
    have hz : checkF f = 0 := HC.out.symm.trans h0
    obtain ⟨gd, sz, -⟩ := check_zero hz
    have H0 := Lib.hid h0
    have HZ := Lib.hid hz
    have GD := Lib.hid gd
    clear h0 hz gd
    go_wp2_with (fail)
    refine (refBytes_c f.size f rfl GD.out (by omega) ok A n c w1 HN.out (H1.out.below K1.out) hl).mono ?_
    rintro _ w2 ⟨v2, rfl, ho2, hk2⟩
    have HO2 := Lib.hid ho2
    have K2 := Lib.hid (K1.out.trans (hk2.mono K1.out.size))
    clear ho2 hk2
    go_wp2_with (fail)
    go_ret2
    exact ⟨v2, (by rw [H0.out]; rfl), by rw [encF, if_pos HZ.out]; exact Own.low HO2.out K1.out.size, K2.out⟩
  · have ed : (C != 0) = true := by simpa using h0
    have e := Lib.hid (show encF f = [] by rw [encF, if_neg (fun h => h0 (HC.out.trans h))])
    clear h0
    go_wp2_with (fail)
    go_ret2
    exact ⟨_, rfl, by rw [e.out]; exact Own.nil_ _ _ _, K1.out⟩
end Go.Proofs.Ytgnciejbhaebeaa

/- What bytes say as a list of items, in plain words. Conditions: none. -/
namespace Go.Proofs.Ytgnciejbhaebeaa
open Go Go.RowKit

/-- The error; the items; how many items in all: of the bytes that are left to a reader, in a list of the depth d, the kind ahead ah, c items ahead in all. -/
def decG : Nat → RS → Int → Nat → Nat → Nat × Fo × Nat
  | 0, _, _, _, c => (0, .nil, c)
  | m + 1, s, d, ah, c =>
    if s.b.length ≤ s.at_ then (0, .nil, c)
    else if (varR s).2.err ≠ 0 then ((varR s).2.err, .nil, c)
    else if (varR s).1 / 4 ≤ ah ∨ 1000 < (varR s).1 / 4 then (3, .nil, c)
    else if 64 ≤ c then (4, .nil, c + 1)
    else if (varR s).1 % 2 = 1 ∧ d = 4 then (5, .nil, c + 1)
    else if (textR (varR s).2 4096).2.err ≠ 0 then ((textR (varR s).2 4096).2.err, .nil, c + 1)
    else if (varR s).1 % 2 = 1 then
      if (decG m ⟨(textR (varR s).2 4096).1, 0, 0, none⟩ (d + 1) 0 (c + 1)).1 ≠ 0 then ((decG m ⟨(textR (varR s).2 4096).1, 0, 0, none⟩ (d + 1) 0 (c + 1)).1, .nil, (decG m ⟨(textR (varR s).2 4096).1, 0, 0, none⟩ (d + 1) 0 (c + 1)).2.2)
      else ((decG m (textR (varR s).2 4096).2 d ((varR s).1 / 4) (decG m ⟨(textR (varR s).2 4096).1, 0, 0, none⟩ (d + 1) 0 (c + 1)).2.2).1,
        .cons ((varR s).1 / 4 : Nat) (decide (2 ≤ (varR s).1 % 4)) true [] (decG m ⟨(textR (varR s).2 4096).1, 0, 0, none⟩ (d + 1) 0 (c + 1)).2.1 (decG m (textR (varR s).2 4096).2 d ((varR s).1 / 4) (decG m ⟨(textR (varR s).2 4096).1, 0, 0, none⟩ (d + 1) 0 (c + 1)).2.2).2.1,
        (decG m (textR (varR s).2 4096).2 d ((varR s).1 / 4) (decG m ⟨(textR (varR s).2 4096).1, 0, 0, none⟩ (d + 1) 0 (c + 1)).2.2).2.2)
    else ((decG m (textR (varR s).2 4096).2 d ((varR s).1 / 4) (c + 1)).1,
      .cons ((varR s).1 / 4 : Nat) (decide (2 ≤ (varR s).1 % 4)) false (textR (varR s).2 4096).1 .nil (decG m (textR (varR s).2 4096).2 d ((varR s).1 / 4) (c + 1)).2.1,
      (decG m (textR (varR s).2 4096).2 d ((varR s).1 / 4) (c + 1)).2.2)
/-- Items ahead of what was read. -/
def cmb (P : Fo) (R : Nat × Fo × Nat) : Nat × Fo × Nat := (R.1, P.app R.2.1, R.2.2)
theorem cmb_nil (R : Nat × Fo × Nat) : cmb .nil R = R := rfl
theorem cmb_cmb (P Q : Fo) (R : Nat × Fo × Nat) : cmb P (cmb Q R) = cmb (P.app Q) R := by rw [cmb, cmb, cmb, Fo.app_assoc]

section
variable {m : Nat} {s s1 s2 : RS} {d : Int} {ah c n : Nat} {t : List UInt8}
theorem decG_end (h : s.b.length ≤ s.at_) : decG (m + 1) s d ah c = (0, .nil, c) := by rw [decG, if_pos h]
theorem decG_var (h : s.at_ < s.b.length) (hv : varR s = (n, s1)) (h1 : s1.err ≠ 0) : decG (m + 1) s d ah c = (s1.err, .nil, c) := by
  rw [decG, if_neg (by omega), hv]
  exact if_pos h1
theorem decG_form (h : s.at_ < s.b.length) (hv : varR s = (n, s1)) (h1 : s1.err = 0) (h2 : n / 4 ≤ ah ∨ 1000 < n / 4) : decG (m + 1) s d ah c = (3, .nil, c) := by
  rw [decG, if_neg (by omega), hv]
  exact (if_neg (by simpa using h1)).trans (if_pos h2)
theorem decG_many (h : s.at_ < s.b.length) (hv : varR s = (n, s1)) (h1 : s1.err = 0) (h2 : ¬ (n / 4 ≤ ah ∨ 1000 < n / 4)) (h3 : 64 ≤ c) : decG (m + 1) s d ah c = (4, .nil, c + 1) := by
  rw [decG, if_neg (by omega), hv]
  exact (if_neg (by simpa using h1)).trans ((if_neg h2).trans (if_pos h3))
theorem decG_deep (h : s.at_ < s.b.length) (hv : varR s = (n, s1)) (h1 : s1.err = 0) (h2 : ¬ (n / 4 ≤ ah ∨ 1000 < n / 4)) (h3 : ¬ 64 ≤ c) (h4 : n % 2 = 1 ∧ d = 4) : decG (m + 1) s d ah c = (5, .nil, c + 1) := by
  rw [decG, if_neg (by omega), hv]
  exact (if_neg (by simpa using h1)).trans ((if_neg h2).trans ((if_neg h3).trans (if_pos h4)))
theorem decG_text (h : s.at_ < s.b.length) (hv : varR s = (n, s1)) (h1 : s1.err = 0) (h2 : ¬ (n / 4 ≤ ah ∨ 1000 < n / 4)) (h3 : ¬ 64 ≤ c) (h4 : ¬ (n % 2 = 1 ∧ d = 4)) (ht : textR s1 4096 = (t, s2)) (h5 : s2.err ≠ 0) :
    decG (m + 1) s d ah c = (s2.err, .nil, c + 1) := by
  rw [decG, if_neg (by omega), hv]
  refine (if_neg (by simpa using h1)).trans ((if_neg h2).trans ((if_neg h3).trans ((if_neg h4).trans ?_)))
  simp only [ht]
  exact if_pos h5
theorem decG_item (h : s.at_ < s.b.length) (hv : varR s = (n, s1)) (h1 : s1.err = 0) (h2 : ¬ (n / 4 ≤ ah ∨ 1000 < n / 4)) (h3 : ¬ 64 ≤ c) (ht : textR s1 4096 = (t, s2)) (h5 : s2.err = 0) (h6 : n % 2 = 0) :
    decG (m + 1) s d ah c = cmb (.cons (n / 4 : Nat) (decide (2 ≤ n % 4)) false t .nil .nil) (decG m s2 d (n / 4) (c + 1)) := by
  rw [decG, if_neg (by omega), hv]
  refine (if_neg (by simpa using h1)).trans ((if_neg h2).trans ((if_neg h3).trans ((if_neg (by omega)).trans ?_)))
  simp only [ht]
  exact (if_neg (by simpa using h5)).trans ((if_neg (by omega)).trans rfl)
theorem decG_bad (h : s.at_ < s.b.length) (hv : varR s = (n, s1)) (h1 : s1.err = 0) (h2 : ¬ (n / 4 ≤ ah ∨ 1000 < n / 4)) (h3 : ¬ 64 ≤ c) (h4 : d ≠ 4) (ht : textR s1 4096 = (t, s2)) (h5 : s2.err = 0) (h6 : n % 2 = 1)
    (h7 : (decG m ⟨t, 0, 0, none⟩ (d + 1) 0 (c + 1)).1 ≠ 0) :
    decG (m + 1) s d ah c = ((decG m ⟨t, 0, 0, none⟩ (d + 1) 0 (c + 1)).1, .nil, (decG m ⟨t, 0, 0, none⟩ (d + 1) 0 (c + 1)).2.2) := by
  rw [decG, if_neg (by omega), hv]
  refine (if_neg (by simpa using h1)).trans ((if_neg h2).trans ((if_neg h3).trans ((if_neg (fun h => h4 h.2)).trans ?_)))
  simp only [ht]
  exact (if_neg (by simpa using h5)).trans ((if_pos h6).trans (if_pos h7))
theorem decG_list (h : s.at_ < s.b.length) (hv : varR s = (n, s1)) (h1 : s1.err = 0) (h2 : ¬ (n / 4 ≤ ah ∨ 1000 < n / 4)) (h3 : ¬ 64 ≤ c) (h4 : d ≠ 4) (ht : textR s1 4096 = (t, s2)) (h5 : s2.err = 0) (h6 : n % 2 = 1)
    {L : Fo} {c' : Nat} (h7 : decG m ⟨t, 0, 0, none⟩ (d + 1) 0 (c + 1) = (0, L, c')) :
    decG (m + 1) s d ah c = cmb (.cons (n / 4 : Nat) (decide (2 ≤ n % 4)) true [] L .nil) (decG m s2 d (n / 4) c') := by
  rw [decG, if_neg (by omega), hv]
  refine (if_neg (by simpa using h1)).trans ((if_neg h2).trans ((if_neg h3).trans ((if_neg (fun h => h4 h.2)).trans ?_)))
  simp only [ht]
  refine (if_neg (by simpa using h5)).trans ((if_pos h6).trans ?_)
  rw [h7]
  exact (if_neg (by simp)).trans rfl
end

/-! ### What a reader's step leaves -/
theorem varR_step {s s1 : RS} {n : Nat} (hv : varR s = (n, s1)) (h0 : s.err = 0) (ha : s.at_ ≤ s.b.length) : s1.b = s.b ∧ s1.gA = s.gA ∧ s.at_ ≤ s1.at_ ∧ s1.at_ ≤ s.b.length ∧ U64 n ∧ (s1.err = 0 → s.at_ < s1.at_) := by
  unfold varR at hv
  rw [if_neg (by simpa using h0)] at hv
  cases hg : varGo (s.b.drop s.at_) 0 with
  | bad e =>
    rw [hg] at hv
    injection hv with hn hs
    subst hs
    refine ⟨rfl, rfl, Nat.le_refl _, ha, by rw [← hn]; unfold U64; decide, fun h => ?_⟩
    rcases varGo_err hg with rfl | rfl <;> cases h
  | ok n' k =>
    rw [hg] at hv
    injection hv with hn hs
    subst hs
    obtain ⟨g1, g2, g3⟩ := varGo_u64 hg
    rw [List.length_drop] at g2
    exact ⟨rfl, rfl, Nat.le_add_right _ _, by show s.at_ + k ≤ _; omega, hn ▸ g1, fun _ => by show s.at_ < s.at_ + k; omega⟩
theorem textR_step {s s1 : RS} {t : List UInt8} (ht : textR s 4096 = (t, s1)) (h0 : s.err = 0) (ha : s.at_ ≤ s.b.length) : s1.b = s.b ∧ s1.gA = s.gA ∧ s.at_ ≤ s1.at_ ∧ s1.at_ ≤ s.b.length ∧ t.length ≤ 4096 ∧ s.at_ + t.length ≤ s.b.length ∧ (s1.err = 0 → s.at_ + t.length < s1.at_) := by
  unfold textR at ht
  rw [if_neg (by simpa using h0)] at ht
  cases hg : varGo (s.b.drop s.at_) 0 with
  | bad e =>
    rw [hg] at ht
    injection ht with hn hs
    subst hs hn
    refine ⟨rfl, rfl, Nat.le_refl _, ha, by simp, by simpa using ha, fun h => ?_⟩
    rcases varGo_err hg with rfl | rfl <;> cases h
  | ok n k =>
    rw [hg] at ht
    obtain ⟨g1, g2, g3⟩ := varGo_u64 hg
    rw [List.length_drop] at g2
    simp only at ht
    by_cases h1 : (4096 : Int) < 0 ∨ (4096 : Int) < (n : Int)
    · rw [if_pos h1] at ht
      injection ht with hn hs
      subst hs hn
      exact ⟨rfl, rfl, Nat.le_refl _, ha, by simp, by simpa using ha, fun h => by cases h⟩
    · rw [if_neg h1] at ht
      by_cases h2 : s.b.length < s.at_ + k + n
      · rw [if_pos h2] at ht
        injection ht with hn hs
        subst hs hn
        exact ⟨rfl, rfl, Nat.le_refl _, ha, by simp, by simpa using ha, fun h => by cases h⟩
      · rw [if_neg h2] at ht
        injection ht with hn hs
        subst hs hn
        have hl : ((s.b.drop (s.at_ + k)).take n).length = n := by rw [List.length_take, List.length_drop]; omega
        rw [hl]
        exact ⟨rfl, rfl, by show s.at_ ≤ s.at_ + k + n; omega, by show s.at_ + k + n ≤ _; omega, by omega, by omega, fun _ => by show s.at_ + n < s.at_ + k + n; omega⟩
/-- Where the bytes lie plays no part. -/
theorem textR_g (s : RS) (g : Option Addr) (z : Int) : textR { s with gA := g } z = ((textR s z).1, { (textR s z).2 with gA := g }) := by
  unfold textR
  simp only
  split
  · rfl
  · split
    · rfl
    · split
      · rfl
      · split <;> rfl
theorem varR_g2 (s : RS) (g : Option Addr) : varR { s with gA := g } = ((varR s).1, { (varR s).2 with gA := g }) := by
  unfold varR
  simp only
  split
  · rfl
  · split <;> rfl
theorem decG_g (g : Option Addr) : ∀ (m : Nat) (s : RS) (d : Int) (ah c : Nat), decG m { s with gA := g } d ah c = decG m s d ah c
  | 0, _, _, _, _ => rfl
  | m + 1, s, d, ah, c => by
    rw [decG, decG, varR_g2]
    simp only
    rw [textR_g]
    simp only
    rw [decG_g g m, decG_g g m]
/-- How many items there are behind. -/
theorem decG_count : ∀ (m : Nat) (s : RS) (d : Int) (ah c : Nat), c ≤ 64 → (decG m s d ah c).1 = 0 → (decG m s d ah c).2.2 = c + (decG m s d ah c).2.1.size ∧ (decG m s d ah c).2.2 ≤ 64
  | 0, _, _, _, c, hc, _ => ⟨rfl, hc⟩
  | m + 1, s, d, ah, c, hc, h => by
    obtain ⟨n, s1, hv⟩ : ∃ n s1, varR s = (n, s1) := ⟨_, _, rfl⟩
    obtain ⟨t, s2, ht⟩ : ∃ t s2, textR s1 4096 = (t, s2) := ⟨_, _, rfl⟩
    by_cases h0 : s.b.length ≤ s.at_
    · rw [decG_end h0]; exact ⟨rfl, hc⟩
    have h0' : s.at_ < s.b.length := by omega
    by_cases h1 : s1.err = 0
    · by_cases h2 : n / 4 ≤ ah ∨ 1000 < n / 4
      · rw [decG_form h0' hv h1 h2] at h; cases h
      by_cases h3 : 64 ≤ c
      · rw [decG_many h0' hv h1 h2 h3] at h; cases h
      by_cases h4 : n % 2 = 1 ∧ d = 4
      · rw [decG_deep h0' hv h1 h2 h3 h4] at h; cases h
      by_cases h5 : s2.err = 0
      · by_cases h6 : n % 2 = 1
        · have hd : d ≠ 4 := fun e => h4 ⟨h6, e⟩
          by_cases h7 : (decG m ⟨t, 0, 0, none⟩ (d + 1) 0 (c + 1)).1 = 0
          · obtain ⟨L, c', e7⟩ : ∃ L c', decG m ⟨t, 0, 0, none⟩ (d + 1) 0 (c + 1) = (0, L, c') := ⟨_, _, Prod.ext h7 rfl⟩
            obtain ⟨q1, q2⟩ := decG_count m ⟨t, 0, 0, none⟩ (d + 1) 0 (c + 1) (by omega) h7
            rw [e7] at q1 q2
            rw [decG_list h0' hv h1 h2 h3 hd ht h5 h6 e7] at h ⊢
            obtain ⟨r1, r2⟩ := decG_count m s2 d (n / 4) c' q2 h
            refine ⟨?_, r2⟩
            show _ = c + (Fo.app _ _).size
            rw [Fo.size_app]
            simp only [Fo.size]
            show (decG m s2 d (n / 4) c').2.2 = _
            rw [r1]
            simp only at q1
            omega
          · rw [decG_bad h0' hv h1 h2 h3 hd ht h5 h6 h7] at h; exact absurd h h7
        · rw [decG_item h0' hv h1 h2 h3 ht h5 (by omega)] at h ⊢
          obtain ⟨r1, r2⟩ := decG_count m s2 d (n / 4) (c + 1) (by omega) h
          refine ⟨?_, r2⟩
          show _ = c + (Fo.app _ _).size
          rw [Fo.size_app]
          simp only [Fo.size]
          show (decG m s2 d (n / 4) (c + 1)).2.2 = _
          rw [r1]
          omega
      · rw [decG_text h0' hv h1 h2 h3 h4 ht h5] at h; exact absurd h h5
    · rw [decG_var h0' hv h1] at h; exact absurd h h1
end Go.Proofs.Ytgnciejbhaebeaa

/- tlv.must: an error is thrown. Conditions: none. -/
namespace Go.Proofs.Ytgnciejbhaebeaa
open Go Go.RowKit

/-- An error that was thrown. -/
def thrown (e : Nat) : Ending := .panicked [{ v := .iface 28 (.int .i64 (e : Int)), recovered := false }]
set_option maxRecDepth 100000 in
theorem must_ok (e : Nat) (he : e = 0) (w : World) : Calls Try.prog 88 #[.int .i64 (e : Int)] w fun r w' => r = .returned (.tuple #[]) ∧ w' = w := by
  subst he
  go_enter Try.func88, Try.ntmps88
  go_wp2
  go_end0
  exact ⟨rfl, rfl⟩
set_option maxRecDepth 100000 in
theorem must_no (e : Nat) (he : e ≠ 0) (w : World) : Calls Try.prog 88 #[.int .i64 (e : Int)] w fun r w' => r = thrown e ∧ w' = w := by
  have h0 : ((e : Int) != 0) = true := by rw [bne_iff_ne]; omega
  unfold thrown
  go_enter Try.func88, Try.ntmps88
  clear he
  go_wp2
  exact ⟨rfl, rfl, rfl⟩
end Go.Proofs.Ytgnciejbhaebeaa

/- The world within tlv's reading of a list of items. Conditions: none. -/
namespace Go.Proofs.Ytgnciejbhaebeaa
open Go Go.RowKit

theorem and_two (n : Nat) : (n &&& 2 ≠ 0) = (2 ≤ n % 4) := by
  have h1 : n &&& 2 ≤ 2 := Nat.and_le_right
  have h2 : (n &&& 2) % 2 ^ 2 = (n % 2 ^ 2) &&& (2 % 2 ^ 2) := Nat.and_mod_two_pow
  have h3 : n &&& 2 = (n % 4) &&& 2 := by
    have : (n &&& 2) % 2 ^ 2 = n &&& 2 := Nat.mod_eq_of_lt (by omega)
    rw [this] at h2
    exact h2
  rw [h3]
  have h4 : n % 4 < 4 := Nat.mod_lt _ (by decide)
  generalize n % 4 = q at h4
  match q, h4 with
  | 0, _ => decide
  | 1, _ => decide
  | 2, _ => decide
  | 3, _ => decide
theorem and_one (n : Nat) : (n &&& 1 ≠ 0) = (n % 2 = 1) := by
  rw [Nat.and_one_is_mod]
  exact propext ⟨fun h => by omega, fun h => by omega⟩
theorem band2 {n : Nat} (h : U64 n) : (bits BinOp.and .u64 (n : Int) 2 != 0) = decide (2 ≤ n % 4) := by
  rw [show (2 : Int) = ((2 : Nat) : Int) from rfl, u64_and_nat n 2 h.out (by decide)]
  have := and_two n
  by_cases h0 : n &&& 2 = 0
  · rw [h0]
    have h1 : ¬ 2 ≤ n % 4 := fun hh => by rw [← this] at hh; exact hh h0
    rw [decide_eq_false h1]; rfl
  · have h1 : 2 ≤ n % 4 := by rw [← this]; exact h0
    rw [decide_eq_true h1, bne_iff_ne]
    omega
theorem band1 {n : Nat} (h : U64 n) : (bits BinOp.and .u64 (n : Int) 1 != 0) = decide (n % 2 = 1) := by
  rw [show (1 : Int) = ((1 : Nat) : Int) from rfl, u64_and_nat n 1 h.out (by decide)]
  have := and_one n
  by_cases h0 : n &&& 1 = 0
  · rw [h0]
    have h1 : ¬ n % 2 = 1 := fun hh => by rw [← this] at hh; exact hh h0
    rw [decide_eq_false h1]; rfl
  · have h1 : n % 2 = 1 := by rw [← this]; exact h0
    rw [decide_eq_true h1, bne_iff_ne]
    omega
theorem Rdr.frame {w w' : World} {r : Nat} {s : RS} (h : Rdr w r s) (h1 : w'.heap[r]? = w.heap[r]?) (h2 : ∀ a, s.gA = some a → a.block < w.heap.size → w'.heap[a.block]? = w.heap[a.block]?) (hs : w.heap.size ≤ w'.heap.size) : Rdr w' r s := by
  obtain ⟨A, c, g1, g2, g3, g4⟩ := h
  refine ⟨A, c, h1.trans g1, g2.of_blocks (fun b hb ⟨off, e⟩ => ?_) hs, g3, g4⟩
  exact h2 ⟨b, off, none⟩ (by rw [← g3.1]; exact e) hb
/-- The count of items. -/
def CntB (w : World) (bx c : Nat) : Prop := w.heap[bx]? = some (.cells #[.int .i64 (c : Int)] 128 (0, 0))
theorem CntB.set {w : World} {bx c : Nat} (h : CntB w bx c) (c' : Nat) : CntB (w.setCell ⟨bx, 0, none⟩ (.int .i64 (c' : Int))) bx c' := by
  unfold CntB at *
  rw [heap_set h]; rfl
def okD (w0 : World) (gr : Nat) (g : Option Addr) (j : Nat) : Prop := w0.heap.size ≤ j ∧ j ≠ gr ∧ ∀ a, g = some a → j ≠ a.block
structure DlS (w0 : World) (bx gr : Nat) (s : RS) (v : Value) (ds : List ItV) (P : Fo) (c0 : Nat) (w : World) : Prop where
  rd : Rdr w gr s
  out : FoP (okD w0 gr s.gA) w v ds P
  cnt : CntB w bx c0
  g : w0.grownBy w (some bx)
  lo : w0.heap.size ≤ gr
  bx : bx < w0.heap.size
  gA : ∀ a, s.gA = some a → w0.heap.size ≤ a.block ∧ a.block < w.heap.size
section
variable {w0 w w' : World} {bx gr c0 : Nat} {s s' : RS} {v v' : Value} {ds : List ItV} {P : Fo}
/-- What turns no old block but the count's. -/
theorem DlS.step (h : DlS w0 bx gr s v ds P c0 w) (hg : w.grownBy w' (some bx)) {c1 : Nat} (hc : CntB w' bx c1) : DlS w0 bx gr s v ds P c1 w' := by
  have hb := h.bx
  have hne : ∀ j, w0.heap.size ≤ j → j < w.heap.size → w'.heap[j]? = w.heap[j]? := fun j hj hl => hg.block j hl (fun e => by injection e with e; omega)
  exact ⟨h.rd.frame (hne gr h.lo h.rd.lt) (fun a e hl => hne _ (h.gA a e).1 hl) hg.size, h.out.frame (fun j hj hl => hne j hj.1 hl), hc, only_trans h.g hg, h.lo, h.bx, fun a e => ⟨(h.gA a e).1, Nat.lt_of_lt_of_le (h.gA a e).2 hg.size⟩⟩
theorem DlS.below (h : DlS w0 bx gr s v ds P c0 w) (hb : Below w.heap.size w w') : DlS w0 bx gr s v ds P c0 w' :=
  h.step (grownBy_of_below hb _) ((hb.block bx (heap_lt h.cnt)).trans h.cnt)
theorem DlS.drewN (h : DlS w0 bx gr s v ds P c0 w) (q : Nat) : DlS w0 bx gr s v ds P c0 (w.drewN q) := h.below (below_drewN (Below.refl _ _) q)
/-- The reader reads on. -/
theorem DlS.read (h : DlS w0 bx gr s v ds P c0 w) (hr : Rdr w' gr s') (hA : s'.gA = s.gA) (hg : w.grownBy w' (some gr)) : DlS w0 bx gr s' v ds P c0 w' := by
  have hb := h.bx
  have hl := h.lo
  refine ⟨hr, ?_, (hg.block bx (heap_lt h.cnt) (fun e => by injection e with e; omega)).trans h.cnt, ?_, h.lo, h.bx, fun a e => ?_⟩
  · rw [hA]
    exact h.out.frame (fun j hj hl => hg.block j hl (fun e => by injection e with e; exact hj.2.1 e))
  · refine ⟨hg.os.trans h.g.os, hg.tape.trans h.g.tape, hg.output.trans h.g.output, Nat.le_trans h.g.size hg.size, fun k hk hne => ?_⟩
    exact (hg.block k (Nat.lt_of_lt_of_le hk h.g.size) (fun e => by injection e with e; omega)).trans (h.g.block k hk hne)
  · rw [hA] at e
    exact ⟨(h.gA a e).1, Nat.lt_of_lt_of_le (h.gA a e).2 hg.size⟩
theorem DlS.more (h : DlS w0 bx gr s v ds P c0 w) {d : ItV} {R : Fo} (hd : ItsO (fun j => okD w0 gr s.gA j ∧ v.ownBlock ≠ some j) w [d] R) (ho : OwnI w' 0 v' (ds ++ [d])) (hg : w.grownBy w' v.ownBlock) (hv : v'.ownBlock = v.ownBlock ∨ v'.ownBlock = some w.heap.size) :
    DlS w0 bx gr s v' (ds ++ [d]) (P.app R) c0 w' := by
  have hb := h.bx
  have hz := h.g.size
  have hlt := h.rd.lt
  have hne : ∀ j, j < w.heap.size → ¬ okD w0 gr s.gA j → w'.heap[j]? = w.heap[j]? := fun j hl hn => hg.block j hl (fun e => hn (h.out.ok_ j e.symm))
  refine ⟨h.rd.frame (hne gr hlt (fun hh => hh.2.1 rfl)) (fun a e hl => hne _ hl (fun hh => hh.2.2 a e rfl)) hg.size, h.out.more hd ho hg hv ⟨hz, by omega, fun a e => ?_⟩, ?_, ?_, h.lo, h.bx, fun a e => ⟨(h.gA a e).1, Nat.lt_of_lt_of_le (h.gA a e).2 hg.size⟩⟩
  · have := (h.gA a e).2; omega
  · exact (hne bx (heap_lt h.cnt) (fun hh => by have := hh.1; omega)).trans h.cnt
  · refine ⟨hg.os.trans h.g.os, hg.tape.trans h.g.tape, hg.output.trans h.g.output, Nat.le_trans h.g.size hg.size, fun k hk hne' => ?_⟩
    exact (hne k (Nat.lt_of_lt_of_le hk h.g.size) (fun hh => by have := hh.1; omega)).trans (h.g.block k hk hne')
end
/-- From a world behind, where only the reader, the count and newer blocks have turned. -/
theorem DlS.jump {w0 w w' : World} {bx gr c0 c1 : Nat} {s s' : RS} {v : Value} {ds : List ItV} {P : Fo} (h : DlS w0 bx gr s v ds P c0 w) (hk : Keeps (fun j => j = gr ∨ j = bx ∨ w.heap.size ≤ j) w w') (hr : Rdr w' gr s') (hA : s'.gA = s.gA) (hc : CntB w' bx c1) : DlS w0 bx gr s' v ds P c1 w' := by
  have hb := h.bx
  have hl := h.lo
  have hz := h.g.size
  refine ⟨hr, ?_, hc, ⟨hk.os.trans h.g.os, hk.tape.trans h.g.tape, hk.output.trans h.g.output, Nat.le_trans hz hk.size, fun k hk' hne => ?_⟩, h.lo, h.bx, fun a e => ?_⟩
  · rw [hA]
    exact h.out.frame (fun j hj hl => hk.block j hl (fun e => by
      have h1 := hj.1
      have h2 := hj.2.1
      omega))
  · exact (hk.block k (Nat.lt_of_lt_of_le hk' hz) (fun e => by
      have : k ≠ bx := fun e => hne (by rw [e])
      omega)).trans (h.g.block k hk' hne)
  · rw [hA] at e
    exact ⟨(h.gA a e).1, Nat.lt_of_lt_of_le (h.gA a e).2 hk.size⟩
/-- What the reading of a list ends with. -/
def DlP (w : World) (bx : Nat) (R : Nat × Fo × Nat) (r : Ending) (w' : World) : Prop :=
  (R.1 = 0 → ∃ v, r = .returned v ∧ FoO (w.heap.size ≤ ·) w' v R.2.1 ∧ CntB w' bx R.2.2) ∧ (R.1 ≠ 0 → r = thrown R.1) ∧ w.grownBy w' (some bx)
theorem DlP.bad {w w' : World} {bx : Nat} {R : Nat × Fo × Nat} {e : Nat} (hR : R.1 = e) (he : e ≠ 0) (hg : w.grownBy w' (some bx)) : DlP w bx R (thrown e) w' :=
  ⟨fun h => absurd (hR.symm.trans h) he, fun _ => by rw [hR], hg⟩
end Go.Proofs.Ytgnciejbhaebeaa
