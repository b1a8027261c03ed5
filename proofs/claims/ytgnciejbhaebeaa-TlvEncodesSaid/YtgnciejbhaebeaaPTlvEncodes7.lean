/- Parts one behind the other: The chapter's examples of items; What the reference's Copy answers of items: the same items in memory of one's own; How a law's argument is opened: an event by value; a slice of events; How a law's argument is opened: a list of items; The walk of the law TlvEncodes: it returns true. Conditions: as told at each. -/
import Derived.Test.YtgnciejbhaebeaaPTlvEncodes3
import Derived.Test.YtgnciejbhaebeaaPTlvEncodes5
import Derived.Test.YtgnciejbhaebeaaPTlvEncodes6
import Derived.Test.YtgnciejbhaebeaaPTlvEncodes1
import Derived.Test.YtgnciejbhaebeaaPTlvEncodes2
import Derived.Deep.Fields

/- The chapter's examples of items. Conditions: none. -/
namespace Go.Proofs.Ytgnciejbhaebeaa
open Go Go.RowKit

def fxF : Fo := .cons 1 false false [7] .nil (.cons 2 true true [] .nil .nil)
theorem fx_lay : layL fxF = [4, 1, 7, 11, 0] := by
  simp only [fxF, layL, numI, List.length_nil, List.length_singleton, List.append_nil, if_true, Bool.false_eq_true, if_false]
  rw [varL_lo (by decide), varL_lo (by decide), varL_lo (by decide), varL_lo (by decide)]
  rfl
theorem fx_check : checkF fxF = 0 := by
  rw [checkF, fx_lay]
  have : scanF (fullR fxF 1 0) 0 = 0 := by decide
  rw [this]
  rfl
theorem fx_enc : encF fxF = [4, 1, 7, 11, 0] := by rw [encF, fx_check, if_pos rfl, fx_lay]
theorem fx_dec : (decT [4, 0, 4, 0]).1 = 3 := by kernel_rfl
theorem fx_pick : pickT [1] fxF = (7, .nil) := by
  have : critF [1] fxF = true := by decide
  rw [pickT, this]; rfl
set_option maxRecDepth 100000 in
set_option maxHeartbeats 4000000 in
theorem fixedT_c (w : World) : Calls Try.prog 41 #[] w fun r w' => r = .returned (.bool true) ∧ Below w.heap.size w w' := by
  obtain ⟨w1, ew1⟩ : ∃ w1, w1 = w.alloc (.cells #[.int .u8 7] 5) := ⟨_, rfl⟩
  obtain ⟨g, eg⟩ : ∃ g, g = w.heap.size := ⟨_, rfl⟩
  obtain ⟨w2, ew2⟩ : ∃ w2, w2 = w1.alloc (.cells #[.int .i64 1, .bool false, .bool false, .slice (some ⟨g, 0, none⟩) 1 1, .slice none 0 0, .int .i64 2, .bool true, .bool true, .slice none 0 0, .slice none 0 0] 95) := ⟨_, rfl⟩
  have hs1 : w1.heap.size = g + 1 := by rw [ew1, eg]; simp
  have b1 : Below w.heap.size w w1 := by rw [ew1]; exact (Below.refl _ _).alloc (Nat.le_refl _) _
  have b2 : Below w.heap.size w w2 := by rw [ew2]; exact b1.alloc b1.size _
  have h1 : w2.heap[g]? = some (.cells #[.int .u8 7] 5 (0, 0)) := by rw [ew2, Below.heap_alloc _ _ _ (by omega), ew1, eg]; exact heap_alloc_new _ _
  have h2 : w2.heap[g + 1]? = some (.cells #[.int .i64 1, .bool false, .bool false, .slice (some ⟨g, 0, none⟩) 1 1, .slice none 0 0, .int .i64 2, .bool true, .bool true, .slice none 0 0, .slice none 0 0] 95 (0, 0)) := by rw [ew2, ← hs1]; exact heap_alloc_new _ _
  have hf : FoR (fun _ => True) w2 (some ⟨g + 1, 0, none⟩) 0 fxF := by
    refine FoR.of_row (heap_lt h2) trivial fxF [⟨1, false, false, some ⟨g, 0, none⟩, 1, 1, none, 0, 0⟩, ⟨2, true, true, none, 0, 0, none, 0, 0⟩] 0 (fun k hk => ?_) ?_
    · simp only [Nat.zero_mul, Nat.zero_add]
      rw [heap_cell h2]
      have hk10 : k < 10 := hk
      match k, hk10 with
      | 0, _ => rfl
      | 1, _ => rfl
      | 2, _ => rfl
      | 3, _ => rfl
      | 4, _ => rfl
      | 5, _ => rfl
      | 6, _ => rfl
      | 7, _ => rfl
      | 8, _ => rfl
      | 9, _ => rfl
    · refine ⟨_, _, rfl, rfl, rfl, rfl, ⟨rfl, ?_, Nat.le_refl _, by show 1 ≤ maxLen; unfold maxLen; omega, fun _ _ _ => trivial, by show 1 ≤ 140737488355328; omega⟩, ⟨rfl, trivial, Nat.le_refl _, Nat.zero_le _, Nat.zero_le _⟩, ?_⟩
      · refine .inr ⟨g, 0, rfl, heap_lt h1, fun k hk => ?_⟩
        have hk1 : k < 1 := hk
        rw [heap_cell h1]
        match k, hk1 with
        | 0, _ => rfl
      · exact ⟨_, [], rfl, rfl, rfl, rfl, (TxtO.nil_ _ _).r, ⟨rfl, trivial, Nat.le_refl _, Nat.zero_le _, Nat.zero_le _⟩, rfl⟩
  have HF := Lib.hid hf
  have B2 := Lib.hid b2
  have EW1 := Lib.hid ew1
  have EG := Lib.hid eg
  have EW2 := Lib.hid ew2
  clear ew1 eg ew2 hs1 b1 b2 h1 h2 hf
  go_enter Try.func41, Try.ntmps41
  go_wp2_with (fail)
  rw [← EW1.out, ← EG.out, ← EW2.out]
  refine (EncodeT_c fxF (fun _ => True) (some ⟨g + 1, 0, none⟩) 2 2 w2 rfl HF.out (by omega)).mono ?_
  rintro _ w3 ⟨v3, rfl, ho3, hb3⟩
  rw [fx_check]
  rw [fx_enc] at ho3
  obtain ⟨A3, c3, rfl, -, -, r3, -⟩ := OwnB.form ho3
  have B3 := Lib.hid (B2.out.trans (hb3.mono B2.out.size))
  have R3 := Lib.hid r3
  have HF3 := Lib.hid (HF.out.below hb3)
  clear ho3 hb3 r3
  have rd4 : Rd (w3.alloc (.cells #[.int .u8 4, .int .u8 0, .int .u8 4, .int .u8 0] 5)) (some ⟨w3.heap.size, 0, none⟩) (([4, 0, 4, 0] : List UInt8).map bv) := Rd.lit w3 (([4, 0, 4, 0] : List UInt8).map bv) 5
  have b34 : Below w3.heap.size w3 (w3.alloc (.cells #[.int .u8 4, .int .u8 0, .int .u8 4, .int .u8 0] 5)) := (Below.refl _ _).alloc (Nat.le_refl _) _
  have RD4 := Lib.hid rd4
  have B34 := Lib.hid b34
  clear rd4 b34
  go_wp2_with (fail)
  refine (DecodeT_c [4, 0, 4, 0] _ 4 4 _ rfl RD4.out (by omega)).mono ?_
  rintro _ w5 ⟨v5, rfl, -, hb5⟩
  rw [fx_dec]
  have b35 : Below w3.heap.size w3 w5 := B34.out.trans (hb5.mono B34.out.size)
  have B5 := Lib.hid (B3.out.trans (b35.mono B3.out.size))
  have HF5 := Lib.hid (HF3.out.below b35)
  have R5 := Lib.hid (R3.out.below b35)
  clear hb5 b35
  obtain ⟨w6, ew6⟩ : ∃ w6, w6 = w5.alloc (.cells #[.int .i64 1] 3) := ⟨_, rfl⟩
  have b56 : Below w5.heap.size w5 w6 := by rw [ew6]; exact (Below.refl _ _).alloc (Nat.le_refl _) _
  have rk : RdI w6 (some ⟨w5.heap.size, 0, none⟩) [1] := by
    refine .inr ⟨w5.heap.size, 0, rfl, by rw [ew6]; simp, fun k hk => ?_⟩
    have hk1 : k < 1 := hk
    rw [ew6, heap_cell (heap_alloc_new _ _)]
    match k, hk1 with
    | 0, _ => rfl
  have HF6 := Lib.hid (HF5.out.below b56)
  have R6 := Lib.hid (R5.out.below b56)
  have B6 := Lib.hid (B5.out.trans (b56.mono B5.out.size))
  have RK := Lib.hid rk
  have EW6 := Lib.hid ew6
  clear ew6 b56 rk
  go_wp2_with (fail)
  rw [← EW6.out]
  refine (Pick_c fxF (fun _ => True) (some ⟨g + 1, 0, none⟩) 2 2 (some ⟨w5.heap.size, 0, none⟩) 1 1 [1] w6 rfl HF6.out (by decide) rfl RK.out (by omega)).mono ?_
  rintro _ w7 ⟨v7, rfl, -, hb7⟩
  rw [fx_pick]
  have B7 := Lib.hid (B6.out.trans (hb7.mono B6.out.size))
  have R7 := Lib.hid (R6.out.below hb7)
  clear hb7
  have b78 : Below w7.heap.size w7 (w7.alloc (.cells #[.int .u8 4, .int .u8 1, .int .u8 7, .int .u8 11, .int .u8 0] 5)) := (Below.refl _ _).alloc (Nat.le_refl _) _
  have rd8 : Rd (w7.alloc (.cells #[.int .u8 4, .int .u8 1, .int .u8 7, .int .u8 11, .int .u8 0] 5)) (some ⟨w7.heap.size, 0, none⟩) (([4, 1, 7, 11, 0] : List UInt8).map bv) := Rd.lit w7 (([4, 1, 7, 11, 0] : List UInt8).map bv) 5
  have R8 := Lib.hid (R7.out.below b78)
  have RD8 := Lib.hid rd8
  have B8 := Lib.hid (B7.out.trans (b78.mono B7.out.size))
  clear b78 rd8
  go_wp2_with (fail)
  refine (Same_t A3 (some ⟨w7.heap.size, 0, none⟩) 5 5 c3 5 [4, 1, 7, 11, 0] _ rfl rfl R8.out RD8.out (by unfold maxLen; omega)).mono ?_
  rintro _ w9 ⟨rfl, q, rfl⟩
  go_wp2_with (fail)
  go_ret
  exact ⟨rfl, below_drewN B8.out q⟩
end Go.Proofs.Ytgnciejbhaebeaa

/- What the reference's Copy answers of items: the same items in memory of one's own. Conditions: items that can be read; at most so many. -/
namespace Go.Proofs.Ytgnciejbhaebeaa
open Go Go.RowKit

/-- k of them are copied: the list P. -/
def Ci (w : World) (B g n c : Nat) (P : Fo) (k : Nat) (d : Option ItV) : Prop :=
  ∃ ds' : List ItV, ds'.length = n ∧ OwnI w B (.slice (some ⟨g, 0, none⟩) n c) ds' ∧ ItsO (g < ·) w (ds'.take k) P ∧ ∀ (h : k < ds'.length) d', d = some d' → ds'[k] = d'
theorem Ci.below {w w' : World} {B g n c k : Nat} {P : Fo} {d : Option ItV} (h : Ci w B g n c P k d) (hb : Below w.heap.size w w') : Ci w' B g n c P k d := by
  obtain ⟨ds', h1, h2, h3, h4⟩ := h
  exact ⟨ds', h1, h2.below hb, h3.frame (fun q _ hq => hb.block q hq), h4⟩
theorem take_set_le {α : Type} (l : List α) (k : Nat) (x : α) : (l.set k x).take k = l.take k := by
  rw [List.take_set]
  refine List.set_eq_of_length_le ?_
  rw [List.length_take]; omega
theorem Ci.setAll {w : World} {B g n c k : Nat} {P : Fo} {d0 : Option ItV} (h : Ci w B g n c P k d0) (hk : k < n) (d : ItV) :
    Ci (((((w.setCell ⟨g, k * 5, none⟩ (.int .i64 d.k)).setCell ⟨g, k * 5 + 1, none⟩ (.bool d.cr)).setCell ⟨g, k * 5 + 2, none⟩ (.bool d.li)).setCell ⟨g, k * 5 + 3, none⟩ (.slice d.A d.n d.c)).setCell ⟨g, k * 5 + 4, none⟩ (.slice d.As d.ns d.cs)) B g n c P k (some d) := by
  obtain ⟨ds', h1, h2, h3, _⟩ := h
  refine ⟨_, by rw [List.length_set]; exact h1, h2.setAll k (by omega) d, ?_, fun _ d' e => ?_⟩
  · rw [take_set_le]
    refine h3.frame (fun q hq _ => ?_)
    have hq' : q ≠ g := by have : g < q := hq; omega
    rw [heap_far _ hq', heap_far _ hq', heap_far _ hq', heap_far _ hq', heap_far _ hq']
  · injection e with e
    subst e
    rw [List.getElem_set, if_pos rfl]
theorem Ci.setT {w : World} {B g n c k : Nat} {P : Fo} {d : ItV} (h : Ci w B g n c P k (some d)) (hk : k < n) (A' : Option Addr) (n' c' : Nat) : Ci (w.setCell ⟨g, k * 5 + 3, none⟩ (.slice A' n' c')) B g n c P k (some (d.txt A' n' c')) := by
  obtain ⟨ds', h1, h2, h3, h4⟩ := h
  have e := h4 (by omega) d rfl
  refine ⟨_, by rw [List.length_set]; exact h1, h2.setT k (by omega) A' n' c', ?_, fun _ d' e' => ?_⟩
  · rw [take_set_le]
    exact h3.frame (fun q hq _ => heap_far _ (by have : g < q := hq; show q ≠ g; omega))
  · injection e' with e'
    subst e'
    rw [List.getElem_set, if_pos rfl, e]
theorem Ci.setS {w : World} {B g n c k : Nat} {P : Fo} {d : ItV} (h : Ci w B g n c P k (some d)) (hk : k < n) (A' : Option Addr) (n' c' : Nat) : Ci (w.setCell ⟨g, k * 5 + 4, none⟩ (.slice A' n' c')) B g n c P k (some (d.sub A' n' c')) := by
  obtain ⟨ds', h1, h2, h3, h4⟩ := h
  have e := h4 (by omega) d rfl
  refine ⟨_, by rw [List.length_set]; exact h1, h2.setS k (by omega) A' n' c', ?_, fun _ d' e' => ?_⟩
  · rw [take_set_le]
    exact h3.frame (fun q hq _ => heap_far _ (by have : g < q := hq; show q ≠ g; omega))
  · injection e' with e'
    subst e'
    rw [List.getElem_set, if_pos rfl, e]
theorem Ci.next {w : World} {B g n c k : Nat} {P R : Fo} {d : ItV} (h : Ci w B g n c P k (some d)) (hk : k < n) (ho : ItsO (g < ·) w [d] R) : Ci w B g n c (P.app R) (k + 1) none := by
  obtain ⟨ds', h1, h2, h3, h4⟩ := h
  have e := h4 (by omega) d rfl
  refine ⟨ds', h1, h2, ?_, fun _ _ e => by cases e⟩
  rw [List.take_succ_eq_append_getElem (by omega), e]
  exact ItsO.snoc ho P _ h3
theorem Ci.cell {w : World} {B g n c k : Nat} {P : Fo} {d : Option ItV} (h : Ci w B g n c P k d) (j : Nat) (hj : j < n) :
    ∃ u0 u1 u2 u3 u4, w.cell? ⟨g, j * 5, none⟩ = some u0 ∧ w.cell? ⟨g, j * 5 + 1, none⟩ = some u1 ∧ w.cell? ⟨g, j * 5 + 2, none⟩ = some u2 ∧ w.cell? ⟨g, j * 5 + 3, none⟩ = some u3 ∧ w.cell? ⟨g, j * 5 + 4, none⟩ = some u4 := by
  obtain ⟨ds', h1, h2, _⟩ := h
  obtain ⟨a0, a1, a2, a3, a4⟩ := h2.five j (by omega)
  exact ⟨_, _, _, _, _, a0, a1, a2, a3, a4⟩
theorem Ci.free {w : World} {B g n c k : Nat} {P : Fo} {d : Option ItV} (h : Ci w B g n c P k d) (j : Nat) : w.frozen? ⟨g, j, none⟩ = false := by
  obtain ⟨ds', _, h2, _⟩ := h
  exact h2.free j
theorem Ci.out {w : World} {B g n c : Nat} {P : Fo} {d : Option ItV} (h : Ci w B g n c P n d) : FoO (B ≤ ·) w (.slice (some ⟨g, 0, none⟩) n c) P := by
  obtain ⟨ds', h1, h2, h3, h4⟩ := h
  have hg := h2.len.2.2.2.1
  rw [List.take_of_length_le (by omega)] at h3
  refine ⟨ds', h2.low (Nat.zero_le _), fun k e => ?_, h3.weak (fun q hq _ => by have : g < q := hq; show B ≤ q; omega)⟩
  injection e with e
  subst e
  exact hg

set_option maxRecDepth 100000 in
set_option maxHeartbeats 4000000 in
theorem Copy02_c : ∀ (M : Nat) (f : Fo), f.size = M → ∀ (ok : Nat → Prop) (A : Option Addr) (n c : Nat) (w : World), f.len = n → FoR ok w A 0 f → n ≤ 2199023255488 →
    Calls Try.prog 42 #[.slice A n c] w fun r w' => ∃ v, r = .returned v ∧ FoO (w.heap.size ≤ ·) w' v f ∧ Below w.heap.size w w' := by
  intro M
  induction M using Nat.strongRecOn with
  | _ M ih =>
    intro f hM ok A n c w hn h1 hl
    have IH := Lib.hid ih; clear ih
    have HN := Lib.hid hn; clear hn
    have H1 := Lib.hid h1; clear h1
    have HM := Lib.hid hM; clear hM
    go_enter Try.func42, Try.ntmps42
    go_wp2_with (first | (at_make; refine wpList_makeI _ rfl (.tmp 6) (.tmp 6) rfl _ _ _ _ n rfl rfl rfl rfl hl ?_))
    intro w1 ho1 hb1 _
    have hcl : Ci w1 w.heap.size w.heap.size n n .nil 0 none := ⟨_, List.length_replicate, ho1, rfl, fun _ _ e => by cases e⟩
    have HC := Lib.hid hcl; clear hcl
    have hbw : w.heap.size < w1.heap.size := ho1.len.2.2.2.2
    clear ho1
    go_wp2_with (fail)
    go_loopw [10] (fun i wr => ∃ (k : Nat) (r P : Fo), i = .int .i64 k ∧ Hid (k + r.len = n) ∧ Hid (FoR ok w A k r) ∧ Hid (r.size ≤ f.size) ∧ Hid (f = P.app r) ∧ Hid (Ci wr w.heap.size w.heap.size n n P k none) ∧ Below w.heap.size w wr ∧ w.heap.size < wr.heap.size) (fun i _ => n - (intOf i).toNat)
    case atStart => exact ⟨0, f, .nil, rfl, Lib.hid (by rw [HN.out]; omega), H1, Lib.hid (Nat.le_refl _), Lib.hid rfl, HC, hb1, hbw⟩
    case round =>
      clear HC hb1 hbw
      obtain ⟨k, r, P, rfl, HK, R1, HS, HF, HC, kb, hbw⟩ := hrel
      cases r with
      | nil =>
        have hk : k = n := HK.out
        have hk' : (n : Int) ≤ (k : Int) := by omega
        have hfin : FoO (w.heap.size ≤ ·) wr (.slice (some ⟨w.heap.size, 0, none⟩) n n) f := by
          have := HC.out
          rw [hk] at this
          rw [HF.out, Fo.app_nil]
          exact this.out
        have FIN := Lib.hid hfin
        clear hk hfin
        go_wp2_with (fail)
        go_ret
        exact ⟨_, rfl, FIN.out, kb⟩
      | cons z cr li bs sub rest =>
        obtain ⟨⟨b1, o1, At, m, cm, As, e1, rfl, hb1, -, ⟨c0, ca, cb, cc, cd⟩, tt, s1, l1, l2, l3⟩, r1⟩ := R1.out.one
        obtain ⟨t1, t2, t3, t4, -, t5⟩ := tt
        have hlt : k < n := by have := HK.out; simp only [Fo.len] at this; omega
        have X4 := Lib.hid cd
        have HB1 := Lib.hid hb1
        rw [← kb.cell (p := ⟨b1, _, none⟩) hb1] at c0 ca cb cc cd
        have R1b := Lib.hid r1
        have S1 := Lib.hid s1
        have T1 := Lib.hid t1
        have HSb : Hid (rest.size ≤ f.size) := Lib.hid (by have := HS.out; simp only [Fo.size] at this; omega)
        have HSs : Hid (sub.size < M) := Lib.hid (by have := HS.out; have := HM.out; simp only [Fo.size] at *; omega)
        have HKb : Hid (k + 1 + rest.len = n) := Lib.hid (by have := HK.out; simp only [Fo.len] at this; omega)
        have HFb : Hid (f = (P.app (.cons z cr li bs sub .nil)).app rest) := Lib.hid (by rw [HF.out, Fo.app_assoc]; rfl)
        obtain ⟨sl, esl⟩ : ∃ sl, sl = sub.len := ⟨_, rfl⟩
        rw [← esl] at X4 cd l1 l3
        have ESL := Lib.hid esl
        obtain ⟨u0, u1, u2, u3, u4, f0, f1, f2, f3, f4⟩ := HC.out.cell k hlt
        have fr0 := HC.out.free (k * 5)
        have fr1 := HC.out.free (k * 5 + 1)
        have fr2 := HC.out.free (k * 5 + 2)
        have fr3 := HC.out.free (k * 5 + 3)
        have fr4 := HC.out.free (k * 5 + 4)
        have hne : b1 ≠ w.heap.size := by omega
        have hlt' : (k : Int) < (n : Int) := by omega
        obtain ⟨w2, ew2, hq2, kb2⟩ : ∃ w2, w2 = ((((wr.setCell ⟨w.heap.size, k * 5, none⟩ (.int .i64 z)).setCell ⟨w.heap.size, k * 5 + 1, none⟩ (.bool cr)).setCell ⟨w.heap.size, k * 5 + 2, none⟩ (.bool li)).setCell ⟨w.heap.size, k * 5 + 3, none⟩ (.slice At m cm)).setCell ⟨w.heap.size, k * 5 + 4, none⟩ (.slice As sl e1) ∧
            Ci w2 w.heap.size w.heap.size n n P k (some ⟨z, cr, li, At, m, cm, As, sl, e1⟩) ∧ Below w.heap.size w w2 ∧ w2.heap.size = wr.heap.size := by
          refine ⟨_, rfl, HC.out.setAll hlt ⟨z, cr, li, At, m, cm, As, sl, e1⟩, ?_, by simp [World.setCell]⟩
          have st : ∀ {wa : World} (j : Nat) (u : Value), Below w.heap.size w wa → Below w.heap.size w (wa.setCell ⟨w.heap.size, j, none⟩ u) := fun j u h => h.grown (only_set w.heap.size j u) h.size (fun q e => by injection e with e; omega)
          exact st _ _ (st _ _ (st _ _ (st _ _ (st _ _ kb))))
        obtain ⟨kb2, sz2⟩ := kb2
        have HQ2 := Lib.hid hq2; clear hq2
        have EW := Lib.hid ew2; clear ew2
        have r2 := Lib.hid (t2.below kb2)
        clear t1 t2 r1 s1 esl HK HS HF R1
        go_wp2_with (fail)
        rw [← EW.out]
        clear EW
        refine (Copy_c At m cm bs w2 T1.out r2.out t5).mono ?_
        rintro _ w3 ⟨v3, rfl, ho3, hb3⟩
        obtain ⟨A3, c3, rfl, p1, p2, p3, p4⟩ := OwnB.form ho3
        rw [T1.out] at p1 ho3 ⊢
        have HO3 := Lib.hid ho3; clear ho3
        have HQ3 := Lib.hid (HQ2.out.below hb3)
        have kb3 := kb2.trans (hb3.mono kb2.size)
        have gs := hb3.size
        have P4 : Hid (∀ a, A3 = some a → w.heap.size < a.block) := Lib.hid (fun a ea => Nat.lt_of_lt_of_le (by omega) (p4 a ea).1)
        have x4b : w3.cell? ⟨b1, o1 + k * 5 + 4, none⟩ = some (.slice As sl e1) := (kb3.cell (p := ⟨b1, _, none⟩) HB1.out).trans X4.out
        clear fr0 fr1 fr2 fr3 fr4 f0 f1 f2 f3 f4 c0 ca cb cc cd p3 p4 r2 HQ2 hb3 kb2
        obtain ⟨v0, v1, v2, v3, v4, -, -, -, f3, -⟩ := HQ3.out.cell k hlt
        have fr3 := HQ3.out.free (k * 5 + 3)
        obtain ⟨w4, ew4⟩ : ∃ w4, w4 = w3.setCell ⟨w.heap.size, k * 5 + 3, none⟩ (.slice A3 m c3) := ⟨_, rfl⟩
        have HQ4 := Lib.hid (HQ3.out.setT hlt A3 m c3)
        have kb4 : Below w.heap.size w w4 := by rw [ew4]; exact kb3.grown (only_set w.heap.size (k * 5 + 3) (.slice A3 m c3)) kb3.size (fun q e => by injection e with e; omega)
        have hT4 : TxtO (w.heap.size < ·) w4 A3 m c3 bs := by
          rw [ew4]
          refine ⟨T1.out, Own.frameK (Own.low HO3.out (Nat.zero_le _)) (fun g e => heap_far _ ?_), fun a ea => P4.out a ea, t5⟩
          cases A3 with
          | none => cases e
          | some a =>
            injection e with e
            have := P4.out a rfl
            rw [e] at this
            show g ≠ w.heap.size
            omega
        have sz4 : w4.heap.size = w3.heap.size := by rw [ew4]; simp [World.setCell]
        rw [← ew4] at HQ4
        have EW := Lib.hid ew4
        have HT4 := Lib.hid hT4
        have KB4 := Lib.hid kb4
        clear ew4 hT4 kb4
        go_wp2_with (fail)
        rw [← EW.out]
        refine (IH.out sub.size HSs.out sub rfl ok As sl e1 w4 ESL.out.symm (S1.out.below KB4.out) l3).mono ?_
        rintro _ w5 ⟨v5, rfl, ho5, hb5⟩
        obtain ⟨A5, c5, rfl, g1, g2, -⟩ := ho5.form ESL.out.symm
        have HO5 := Lib.hid ho5
        have HQ5 := Lib.hid (HQ4.out.below hb5)
        have HT5 := Lib.hid (HT4.out.frame (fun q _ hq => hb5.block q hq))
        have kb5 := KB4.out.trans (hb5.mono KB4.out.size)
        have gs5 := hb5.size
        clear fr3 f3 x4b HQ4 hb5 ho5 HQ3 HO3
        obtain ⟨v0, v1, v2, v3, v4, -, -, -, -, f4⟩ := HQ5.out.cell k hlt
        have fr4 := HQ5.out.free (k * 5 + 4)
        go_wp2_with (fail)
        have hfar : ∀ q, w.heap.size < q → (w5.setCell ⟨w.heap.size, k * 5 + 4, none⟩ (.slice A5 sl c5)).heap[q]? = w5.heap[q]? := fun q hq => heap_far _ (by show q ≠ w.heap.size; omega)
        have hO : ItsO (w.heap.size < ·) (w5.setCell ⟨w.heap.size, k * 5 + 4, none⟩ (.slice A5 sl c5)) [((⟨z, cr, li, At, m, cm, As, sl, e1⟩ : ItV).txt A3 m c3).sub A5 sl c5] (.cons z cr li bs sub .nil) := by
          obtain ⟨es, i1, i2, i3⟩ := HO5.out
          have i2' : ∀ g, (Value.slice A5 sl c5).ownBlock = some g → w.heap.size < g := fun g e => by have : w4.heap.size ≤ g := i2 g e; omega
          refine ⟨_, [], rfl, rfl, rfl, rfl, HT5.out.frame (fun q hq _ => hfar q hq), ⟨es, i1.frame (fun g e => hfar g (i2' g e)), i2', ItsO.frame (fun q hq _ => hfar q hq) sub es (ItsO.weak (fun q hq _ => by have : w4.heap.size ≤ q := hq; show w.heap.size < q; omega) sub es i3), by rw [← ESL.out]; exact l3⟩, rfl⟩
        have hput := (HQ5.out.setS hlt A5 sl c5).next hlt hO
        have HP := Lib.hid hput
        have kset := kb5.grown (only_set w.heap.size (k * 5 + 4) (.slice A5 sl c5)) kb5.size (fun q e => by injection e with e; omega)
        clear hput hO hfar
        go_roundw
        case rel => exact ⟨k + 1, rest, _, by go_num, HKb, R1b, HSb, HFb, HP, kset, by show w.heap.size < _; simp [World.setCell]; omega⟩
        case measure => simp [intOf]; omega
end Go.Proofs.Ytgnciejbhaebeaa

/- How a law's argument is opened: an event by value; a slice of events. Conditions: none. -/
namespace Go.Proofs.Ytgnciejbhaebeaa
open Go Go.RowKit Go.ChangeShapes Go.WideShapes

/-- The fields of an event's type. -/
structure EvT (P : Program) (t : TypeId) (f0 f1 f2 f3 f4 : Field) (e : TypeId) : Prop where
  hs : P.underlying t = some (.struct #[f0, f1, f2, f3, f4])
  hone : Deep.oneCellFields P #[f0, f1, f2, f3, f4] = true
  hC : P.cellsOf t = 5
  h0 : P.underlying f0.type = some (.int .i64)
  h1 : P.underlying f1.type = some (.slice e)
  h2 : P.underlying f2.type = some (.int .i64)
  h3 : P.underlying f3.type = some (.int .i64)
  h4 : P.underlying f4.type = some (.int .i64)
  he : P.underlying e = some (.int .u8)
  hc : P.cellsOf e = 1
  hb : P.bytesOf e = 1

theorem open_txt {H : Type} {enc : TypeId × Value → H} {P : Program} {W : World} {t e fuel : Nat} {u : Value} {y : DataW H × List MemPlace} (ht : P.underlying t = some (.slice e)) (he : P.underlying e = some (.int .u8)) (hc : P.cellsOf e = 1) (hb : P.bytesOf e = 1)
    (hf : DataW.trod enc P W 0 (fun _ => true) true fuel t [u] = some y) :
    ∃ (A : Option Addr) (m c : Nat) (bs : List UInt8), u = .slice A m c ∧ bs.length = m ∧ Rd W A (bs.map bv) ∧ m ≤ c ∧ c ≤ maxLen ∧ ((∀ n ∈ y.1.weights P t, n ≤ reachBytes) → m ≤ 140737488351232) := by
  rcases open_ints ht he hc hf with ⟨hcs, _⟩ | ⟨x, l, c, zs, hcs, _, hl, hm, hz, hx, hcell, hwz⟩
  · injection hcs with hcs _
    subst hcs
    exact ⟨none, 0, 0, [], rfl, rfl, .inl rfl, Nat.le_refl _, Nat.zero_le _, fun _ => by decide⟩
  · injection hcs with hcs _
    subst hcs
    subst hx
    simp only [if_true] at hz
    obtain ⟨bs, g1, g2⟩ := rd_of_ints (len := l) (by omega) hcell hwz
    refine ⟨some x, l, c, bs, rfl, g1, g2, hl, hm, fun hw => ?_⟩
    have h := hw ((zs.take l).length + (zs.drop l).length) (by
      simp only [DataW.weights, ht, List.mem_cons]
      left
      rw [hb]
      simp [lits])
    simp only [List.length_take, List.length_drop, reachBytes] at h
    omega

theorem open_ev {H : Type} {enc : TypeId × Value → H} {P : Program} {W : World} {t e fuel : Nat} {f0 f1 f2 f3 f4 : Field} (T : EvT P t f0 f1 f2 f3 f4 e) {cs : List Value} {x : DataW H × List MemPlace} (hf : DataW.trod enc P W 0 (fun _ => true) true fuel t cs = some x) :
    ∃ (k : Int) (A : Option Addr) (m c : Nat) (X Y b : Int) (bs : List UInt8), cs = [.int .i64 k, .slice A m c, .int .i64 X, .int .i64 Y, .int .i64 b] ∧ bs.length = m ∧ Rd W A (bs.map bv) ∧ m ≤ c ∧ c ≤ maxLen ∧ ((∀ n ∈ x.1.weights P t, n ≤ reachBytes) → m ≤ 140737488351232) := by
  obtain ⟨ys, n, _, rfl, hl, hlen, hg⟩ := DataW.trod_struct T.hs hf
  rw [T.hC] at hl
  obtain ⟨o0, k0⟩ := Deep.hone_of T.hone 0 f0 rfl
  obtain ⟨o1, k1⟩ := Deep.hone_of T.hone 1 f1 rfl
  obtain ⟨o2, k2⟩ := Deep.hone_of T.hone 2 f2 rfl
  obtain ⟨o3, k3⟩ := Deep.hone_of T.hone 3 f3 rfl
  obtain ⟨o4, k4⟩ := Deep.hone_of T.hone 4 f4 rfl
  match cs, hl, ys, hlen with
  | [u0, u1, u2, u3, u4], _, [y0, y1, y2, y3, y4], _ =>
    have g0 := hg 0 f0 rfl
    have g1 := hg 1 f1 rfl
    have g2 := hg 2 f2 rfl
    have g3 := hg 3 f3 rfl
    have g4 := hg 4 f4 rfl
    rw [o0, k0] at g0
    rw [o1, k1] at g1
    rw [o2, k2] at g2
    rw [o3, k3] at g3
    rw [o4, k4] at g4
    obtain ⟨a0, e0, _, _⟩ := DataW.trod_int T.h0 g0
    obtain ⟨a2, e2, _, _⟩ := DataW.trod_int T.h2 g2
    obtain ⟨a3, e3, _, _⟩ := DataW.trod_int T.h3 g3
    obtain ⟨a4, e4, _, _⟩ := DataW.trod_int T.h4 g4
    obtain ⟨A, m, c, bs, eu, q1, q2, q3, q4, q5⟩ := open_txt T.h1 T.he T.hc T.hb g1
    simp at e0 e2 e3 e4
    subst e0 e2 e3 e4 eu
    refine ⟨a0, A, m, c, a2, a3, a4, bs, rfl, q1, q2, q3, q4, fun hw => q5 (fun n hn => hw n ?_)⟩
    simp only [DataW.weights, T.hs]
    exact DataW.weights_mem_each (j := 1) (t := f1.type) (d := y1.1) (by simp) (by simp) n hn

theorem opn_ev {H : Type} {enc : TypeId × Value → H} {P : Program} {W : World} {base t e j : Nat} {f0 f1 f2 f3 f4 : Field} (T : EvT P t f0 f1 f2 f3 f4 e) {v : Value} {d : DataW H} {p : List MemPlace} {ts : List TypeId} {ds : List (DataW H)}
    (hv : Value.okWide P W .any base t v) (hj : DataW.Trod enc P W 0 (fun _ => true) true t v d p) (hsz : (DataW.weightsEach P ts ds).all (· ≤ reachBytes) = true) (k1 : ts[j]? = some t) (k2 : ds[j]? = some d) :
    ∃ (k : Int) (A : Option Addr) (n c : Nat) (x y b : Int) (bs : List UInt8), v = .agg #[.int .i64 k, .slice A n c, .int .i64 x, .int .i64 y, .int .i64 b] ∧ (bs.length = n ∧ Rd W A (bs.map bv) ∧ n ≤ c ∧ c ≤ maxLen ∧ n ≤ 140737488351232) := by
  obtain ⟨cs, rfl, hsz2⟩ := okWide_struct T.hs hv
  obtain ⟨fuel, hf⟩ := hj
  obtain ⟨k, A, m, c, x, y, b, bs, hcs, q1, q2, q3, q4, q5⟩ := open_ev T hf
  refine ⟨k, A, m, c, x, y, b, bs, ?_, q1, q2, q3, q4, q5 (fun n hn => ?_)⟩
  · congr 1
    apply Array.ext'
    simpa [Value.cells] using hcs
  · exact of_decide_eq_true (List.all_eq_true.1 hsz n (DataW.weights_mem_each k1 k2 n hn))

theorem opn_evs {H : Type} {enc : TypeId × Value → H} {P : Program} {W : World} {base t et e j : Nat} {f0 f1 f2 f3 f4 : Field} (ht : P.underlying t = some (.slice et)) (hB : P.bytesOf et = 56) (T : EvT P et f0 f1 f2 f3 f4 e) {v : Value} {d : DataW H} {p : List MemPlace} {ts : List TypeId} {ds : List (DataW H)}
    (hv : Value.okWide P W .any base t v) (hj : DataW.Trod enc P W 0 (fun _ => true) true t v d p) (hsz : (DataW.weightsEach P ts ds).all (· ≤ reachBytes) = true) (k1 : ts[j]? = some t) (k2 : ds[j]? = some d) :
    ∃ (A : Option Addr) (n c : Nat) (dv : List EvV) (es : List Ev), v = .slice A n c ∧ (es.length = n ∧ EvsR (· < W.heap.size) W A dv es ∧ n ≤ c ∧ c ≤ maxLen ∧ n ≤ 2513169434843) := by
  obtain ⟨a0, len, cap, rfl⟩ := okWide_slice ht hv
  obtain ⟨fuel, hf⟩ := hj
  rcases Deep.open_slice ht hf with ⟨hcs, _⟩ | ⟨a, l, c, m, n, D, Pl, hcs, _, hl, hm, hmm, hx, hcell⟩
  · simp [Value.cells] at hcs
    obtain ⟨rfl, rfl, rfl⟩ := hcs
    exact ⟨none, 0, 0, [], [], rfl, rfl, ⟨rfl, .inl rfl, fun _ a e => (by cases e), fun i h => absurd h (by simp)⟩, Nat.le_refl _, Nat.zero_le _, by decide⟩
  · simp [Value.cells] at hcs
    obtain ⟨rfl, rfl, rfl⟩ := hcs
    simp only [if_true] at hmm
    subst hmm
    simp only [Prod.mk.injEq] at hx
    obtain ⟨rfl, _⟩ := hx
    have hb := sized_slice hsz k1 k2 ht
    rw [hB] at hb
    simp only [List.length_map, List.length_range, reachBytes] at hb
    have each : ∀ i, i < len → ∃ z : EvV × Ev, (∀ q (hq : q < 5), W.cell? (a.add (i * 5 + q)) = (z.1.cells)[q]?) ∧ EvR (· < W.heap.size) W z.1 z.2 := by
      intro i hi
      obtain ⟨cs', g1, g2⟩ := hcell i (by omega)
      rw [T.hC] at g1
      obtain ⟨_, hlen, hg⟩ := World.cells?_some g1
      obtain ⟨k, A, m', c', x, y, b, bs, hcs, q1, q2, q3, q4, q5⟩ := open_ev T g2
      have hm' : m' ≤ 140737488351232 := q5 (fun n hn => of_decide_eq_true (List.all_eq_true.1 hsz n (DataW.weights_mem_each k1 k2 n (by
        simp only [DataW.weights, ht, List.mem_cons, List.mem_append]
        exact Or.inr (Or.inl (weightsAll_mem (List.mem_map.2 ⟨i, List.mem_range.2 hi, rfl⟩) n hn))))))
      refine ⟨(⟨k, A, m', c', x, y, b⟩, ⟨k, bs, x, y, b⟩), fun q hq => ?_, rfl, rfl, rfl, rfl, q1, q2, q3, q4, fun h0 a' e => ?_, (show m' ≤ 140737488355328 by omega)⟩
      · rw [← Deep.add_add]
        subst hcs
        have := hg q (by simpa using hq)
        rw [this]
        rfl
      · rcases q2 with h | ⟨b', off, rfl, hb', _⟩
        · have h0' : 0 < m' := h0
          have : bs = [] := by simpa using h
          rw [this, List.length_nil] at q1
          omega
        · injection e with e; subst e; exact hb'
    obtain ⟨zs, hz1, hz2⟩ := list_of_all len each
    have hcellz : ∀ i (hi : i < zs.length) q, q < 5 → W.cell? (a.add (i * 5 + q)) = (cellsV (zs.map (·.1)))[i * 5 + q]? := by
      intro i hi q hq
      rw [cellsV_get _ i (by simpa using hi) q hq, (hz2 i hi).1 q hq]
      simp
    have hblk : 0 < len → a.spot = none ∧ a.block < W.heap.size := by
      intro h0
      have h := hcellz 0 (by omega) 0 (by decide)
      have hc0 : (cellsV (zs.map (·.1)))[0 * 5 + 0]? ≠ none := by
        rw [List.getElem?_eq_getElem (by rw [cellsV_length, List.length_map]; omega)]
        simp
      have h2 : ∃ u, W.cell? a = some u := by
        have e1 : a.add (0 * 5 + 0) = a := by simp [Addr.add]
        rw [e1] at h
        rw [← h] at hc0
        exact Option.ne_none_iff_exists'.1 hc0
      obtain ⟨u, hu⟩ := h2
      exact ⟨World.cell?_spot hu, World.block_lt_of_cell? W a hu⟩
    refine ⟨some a, len, _, zs.map (·.1), zs.map (·.2), rfl, by simpa using hz1, ⟨by simp, ?_, fun h0 a' e => ?_, fun i h1 h2 => ?_⟩, hl, hm, by omega⟩
    · rcases Nat.eq_zero_or_pos len with h0 | h0
      · left
        have : zs = [] := List.eq_nil_of_length_eq_zero (by omega)
        rw [this]; rfl
      · obtain ⟨hsp, hlt⟩ := hblk h0
        obtain ⟨b, off, spot⟩ := a
        simp only at hsp
        subst hsp
        refine .inr ⟨b, off, rfl, hlt, fun k hk => ?_⟩
        have hk' : k < zs.length * 5 := by rw [cellsV_length] at hk; simpa using hk
        have h := hcellz (k / 5) (by omega) (k % 5) (Nat.mod_lt _ (by decide))
        rw [show k / 5 * 5 + k % 5 = k by omega, Addr.add_lit, List.getElem?_eq_getElem hk] at h
        exact h
    · injection e with e
      subst e
      exact (hblk (by rw [List.length_map] at h0; omega)).2
    · simp only [List.getElem_map]
      exact (hz2 i (by simpa using h1)).2
end Go.Proofs.Ytgnciejbhaebeaa

/- How a law's argument is opened: a list of items. Conditions: none. -/
namespace Go.Proofs.Ytgnciejbhaebeaa
open Go Go.RowKit Go.ChangeShapes Go.WideShapes

/-- The fields of an item's type (t: the type of a list of items). -/
structure ItT (P : Program) (t it : TypeId) (f0 f1 f2 f3 f4 : Field) (et e : TypeId) : Prop where
  ht : P.underlying t = some (.slice it)
  hs : P.underlying it = some (.struct #[f0, f1, f2, f3, f4])
  hone : Deep.oneCellFields P #[f0, f1, f2, f3, f4] = true
  hC : P.cellsOf it = 5
  hB : P.bytesOf it = 64
  h0 : P.underlying f0.type = some (.int .i64)
  h1 : P.underlying f1.type = some .bool
  h2 : P.underlying f2.type = some .bool
  h3 : f3.type = et
  h3' : P.underlying et = some (.slice e)
  h4 : f4.type = t
  he : P.underlying e = some (.int .u8)
  hc : P.cellsOf e = 1
  hb : P.bytesOf e = 1

/-- Items built from what is known at each place. -/
theorem fo_of_all {ok : Nat → Prop} {W : World} {b off len : Nat} (hb : b < W.heap.size) (hok : ok b)
    (h : ∀ i, i < len → ∃ (k : Int) (cr li : Bool) (At : Option Addr) (n c : Nat) (bs : List UInt8) (As : Option Addr) (d : Nat) (sub : Fo),
      (W.cell? ⟨b, off + i * 5, none⟩ = some (.int .i64 k) ∧ W.cell? ⟨b, off + i * 5 + 1, none⟩ = some (.bool cr) ∧ W.cell? ⟨b, off + i * 5 + 2, none⟩ = some (.bool li) ∧
       W.cell? ⟨b, off + i * 5 + 3, none⟩ = some (.slice At n c) ∧ W.cell? ⟨b, off + i * 5 + 4, none⟩ = some (.slice As sub.len d)) ∧
      TxtR ok W At n c bs ∧ FoR ok W As 0 sub ∧ sub.len ≤ d ∧ d ≤ maxLen ∧ sub.len ≤ 2199023255488) : ∀ (r i : Nat), i + r = len → ∃ f : Fo, f.len = r ∧ FoR ok W (some ⟨b, off, none⟩) i f
  | 0, i, _ => ⟨.nil, rfl, trivial⟩
  | r + 1, i, hi => by
    obtain ⟨k, cr, li, At, n, c, bs, As, d, sub, hc, ht, hsub, h1, h2, h3⟩ := h i (by omega)
    obtain ⟨f, e, hf⟩ := fo_of_all hb hok h r (i + 1) (by omega)
    exact ⟨.cons k cr li bs sub f, by rw [Fo.len, e], ⟨b, off, At, n, c, As, d, rfl, hb, hok, hc, ht, hsub, h1, h2, h3⟩, hf⟩

theorem open_fo {H : Type} {enc : TypeId × Value → H} {P : Program} {W : World} {t it et e : TypeId} {f0 f1 f2 f3 f4 : Field} (T : ItT P t it f0 f1 f2 f3 f4 et e) : ∀ (fuel : Nat) (u : Value) (x : DataW H × List MemPlace),
    DataW.trod enc P W 0 (fun _ => true) true fuel t [u] = some x → (∀ n ∈ x.1.weights P t, n ≤ reachBytes) →
    ∃ (A : Option Addr) (n c : Nat) (f : Fo), u = .slice A n c ∧ FoR (· < W.heap.size) W A 0 f ∧ f.len = n ∧ n ≤ c ∧ c ≤ maxLen ∧ n ≤ 2199023255488 := by
  intro fuel
  induction fuel using Nat.strongRecOn with
  | _ fuel ih =>
    intro u x hf hw
    rcases DataW.trod_slice T.ht hf with ⟨hcs, _⟩ | ⟨a, len, cap, elems, rest, n, hfu, hcs, hx, _, hl, hm, hlen, hel, hsp, _⟩
    · injection hcs with hcs _
      subst hcs
      exact ⟨none, 0, 0, .nil, rfl, trivial, rfl, Nat.le_refl _, Nat.zero_le _, by decide⟩
    · injection hcs with hcs _
      subst hcs
      subst hx
      obtain ⟨hrl, _⟩ := hsp rfl
      have hbd := hw _ (by simp only [DataW.weights, T.ht, List.mem_cons]; exact Or.inl rfl)
      rw [T.hB] at hbd
      simp only [List.length_map, reachBytes] at hbd
      have each : ∀ i, i < len → ∃ (k : Int) (cr li : Bool) (At : Option Addr) (n c : Nat) (bs : List UInt8) (As : Option Addr) (d : Nat) (sub : Fo),
          (W.cell? (a.add (i * 5 + 0)) = some (.int .i64 k) ∧ W.cell? (a.add (i * 5 + 1)) = some (.bool cr) ∧ W.cell? (a.add (i * 5 + 2)) = some (.bool li) ∧
           W.cell? (a.add (i * 5 + 3)) = some (.slice At n c) ∧ W.cell? (a.add (i * 5 + 4)) = some (.slice As sub.len d)) ∧
          TxtR (· < W.heap.size) W At n c bs ∧ FoR (· < W.heap.size) W As 0 sub ∧ sub.len ≤ d ∧ d ≤ maxLen ∧ sub.len ≤ 2199023255488 := by
        intro i hi
        have he := hel i hi
        have hi' : i < elems.length := by omega
        rw [List.getElem?_eq_getElem hi', T.hC, Option.bind_eq_some_iff] at he
        obtain ⟨cs', g1, g2⟩ := he
        obtain ⟨_, hlen5, hg⟩ := World.cells?_some g1
        obtain ⟨ys, n', hfu', hy, hl5, hlen', hgs⟩ := DataW.trod_struct T.hs g2
        rw [T.hC] at hl5
        obtain ⟨o0, k0⟩ := Deep.hone_of T.hone 0 f0 rfl
        obtain ⟨o1, k1⟩ := Deep.hone_of T.hone 1 f1 rfl
        obtain ⟨o2, k2⟩ := Deep.hone_of T.hone 2 f2 rfl
        obtain ⟨o3, k3⟩ := Deep.hone_of T.hone 3 f3 rfl
        obtain ⟨o4, k4⟩ := Deep.hone_of T.hone 4 f4 rfl
        match cs', hl5, ys, hlen' with
        | [u0, u1, u2, u3, u4], _, [y0, y1, y2, y3, y4], _ =>
          have q0 := hgs 0 f0 rfl
          have q1 := hgs 1 f1 rfl
          have q2 := hgs 2 f2 rfl
          have q3 := hgs 3 f3 rfl
          have q4 := hgs 4 f4 rfl
          rw [o0, k0] at q0
          rw [o1, k1] at q1
          rw [o2, k2] at q2
          rw [o3, k3, T.h3] at q3
          rw [o4, k4, T.h4] at q4
          have hwe : ∀ n ∈ (elems[i]).1.weights P it, n ≤ reachBytes := fun n hn => hw n (by
            simp only [DataW.weights, T.ht, List.mem_cons, List.mem_append]
            exact Or.inr (Or.inl (weightsAll_mem (List.mem_map.2 ⟨elems[i], List.getElem_mem _, rfl⟩) n hn)))
          rw [hy] at hwe
          have hwf : ∀ (j : Nat) (f : Field) (y : DataW H × List MemPlace), (#[f0, f1, f2, f3, f4] : Array Field)[j]? = some f → ([y0, y1, y2, y3, y4] : List (DataW H × List MemPlace))[j]? = some y → ∀ n ∈ y.1.weights P f.type, n ≤ reachBytes := by
            intro j f y hj hy' n hn
            refine hwe n ?_
            simp only [DataW.weights, T.hs]
            refine DataW.weights_mem_each (j := j) (t := f.type) (d := y.1) ?_ ?_ n hn
            · rw [List.getElem?_map]
              have : ([f0, f1, f2, f3, f4] : List Field)[j]? = some f := by simpa using hj
              show Option.map _ (([f0, f1, f2, f3, f4] : List Field)[j]?) = _
              rw [this]; rfl
            · rw [List.getElem?_map, hy']; rfl
          obtain ⟨a0, e0, _, _⟩ := DataW.trod_int T.h0 q0
          obtain ⟨a1, e1, _⟩ := DataW.trod_bool T.h1 q1
          obtain ⟨a2, e2, _⟩ := DataW.trod_bool T.h2 q2
          obtain ⟨At, m, c', bs, eu, r1, r2, r3, r4, r5⟩ := open_txt T.h3' T.he T.hc T.hb (show DataW.trod enc P W 0 (fun _ => true) true n' et [u3] = some y3 from q3)
          have hm' : m ≤ 140737488351232 := r5 (fun n hn => hwf 3 f3 y3 rfl rfl n (by rw [T.h3]; exact hn))
          obtain ⟨As, m2, d, sub, es, s1, s2, s3, s4, s5⟩ := ih n' (by omega) u4 y4 (show DataW.trod enc P W 0 (fun _ => true) true n' t [u4] = some y4 from q4) (fun n hn => hwf 4 f4 y4 rfl rfl n (by rw [T.h4]; exact hn))
          simp at e0 e1 e2
          subst e0 e1 e2 eu es s2
          have g : ∀ q (hq : q < 5), W.cell? (a.add (i * 5 + q)) = [Value.int .i64 a0, .bool a1, .bool a2, .slice At m c', .slice As sub.len d][q]? := fun q hq => by
            rw [← Deep.add_add]
            exact hg q (by simpa using hq)
          refine ⟨a0, a1, a2, At, m, c', bs, As, d, sub, ⟨g 0 (by decide), g 1 (by decide), g 2 (by decide), g 3 (by decide), g 4 (by decide)⟩, ⟨r1, r2, r3, r4, fun h0 a' e' => ?_, by omega⟩, s1, s3, s4, s5⟩
          rcases r2 with h | ⟨b', off, rfl, hb', _⟩
          · have h0' : 0 < m := h0
            have : bs = [] := by simpa using h
            rw [this, List.length_nil] at r1
            omega
          · injection e' with e'; subst e'; exact hb'
      rcases Nat.eq_zero_or_pos len with h0 | h0
      · subst h0
        exact ⟨some a, 0, cap, .nil, rfl, trivial, rfl, Nat.zero_le _, hm, Nat.zero_le _⟩
      · obtain ⟨k, _, _, _, _, _, _, _, _, _, ⟨hc0, _⟩, _⟩ := each 0 h0
        have e1 : a.add (0 * 5 + 0) = a := by simp [Addr.add]
        rw [e1] at hc0
        have hsp' := World.cell?_spot hc0
        have hlt := World.block_lt_of_cell? W a hc0
        obtain ⟨b, off, spot⟩ := a
        simp only at hsp' hlt
        subst hsp'
        have each' : ∀ i, i < len → ∃ (k : Int) (cr li : Bool) (At : Option Addr) (n c : Nat) (bs : List UInt8) (As : Option Addr) (d : Nat) (sub : Fo),
            (W.cell? ⟨b, off + i * 5, none⟩ = some (.int .i64 k) ∧ W.cell? ⟨b, off + i * 5 + 1, none⟩ = some (.bool cr) ∧ W.cell? ⟨b, off + i * 5 + 2, none⟩ = some (.bool li) ∧
             W.cell? ⟨b, off + i * 5 + 3, none⟩ = some (.slice At n c) ∧ W.cell? ⟨b, off + i * 5 + 4, none⟩ = some (.slice As sub.len d)) ∧
            TxtR (· < W.heap.size) W At n c bs ∧ FoR (· < W.heap.size) W As 0 sub ∧ sub.len ≤ d ∧ d ≤ maxLen ∧ sub.len ≤ 2199023255488 := by
          intro i hi
          obtain ⟨k, cr, li, At, n, c, bs, As, d, sub, ⟨g0, g1, g2, g3, g4⟩, r⟩ := each i hi
          rw [Addr.add_lit] at g0 g1 g2 g3 g4
          exact ⟨k, cr, li, At, n, c, bs, As, d, sub, ⟨g0, g1, g2, g3, g4⟩, r⟩
        obtain ⟨f, hf1, hf2⟩ := fo_of_all (ok := (· < W.heap.size)) hlt hlt each' len 0 (by omega)
        exact ⟨some ⟨b, off, none⟩, len, cap, f, rfl, hf2, hf1, hl, hm, by omega⟩
theorem opn_fo {H : Type} {enc : TypeId × Value → H} {P : Program} {W : World} {base t it et e j : Nat} {f0 f1 f2 f3 f4 : Field} (T : ItT P t it f0 f1 f2 f3 f4 et e) {v : Value} {d : DataW H} {p : List MemPlace} {ts : List TypeId} {ds : List (DataW H)}
    (hv : Value.okWide P W .any base t v) (hj : DataW.Trod enc P W 0 (fun _ => true) true t v d p) (hsz : (DataW.weightsEach P ts ds).all (· ≤ reachBytes) = true) (k1 : ts[j]? = some t) (k2 : ds[j]? = some d) :
    ∃ (A : Option Addr) (n c : Nat) (f : Fo), v = .slice A n c ∧ (FoR (· < W.heap.size) W A 0 f ∧ f.len = n ∧ n ≤ c ∧ c ≤ maxLen ∧ n ≤ 2199023255488) := by
  obtain ⟨a0, len, cap, rfl⟩ := okWide_slice T.ht hv
  obtain ⟨fuel, hf⟩ := hj
  have hf' : DataW.trod enc P W 0 (fun _ => true) true fuel t [.slice a0 len cap] = some (d, p) := by
    simpa [Value.cells] using hf
  obtain ⟨A, n, c, f, e1, r⟩ := open_fo T fuel _ _ hf' (fun n hn => of_decide_eq_true (List.all_eq_true.1 hsz n (DataW.weights_mem_each k1 k2 n hn)))
  exact ⟨A, n, c, f, e1, r⟩
end Go.Proofs.Ytgnciejbhaebeaa

/- The walk of the law TlvEncodes: it returns true. Conditions: the row's own. -/
namespace Go.Proofs.Ytgnciejbhaebeaa
open Go Go.RowKit

set_option maxRecDepth 100000 in
set_option maxHeartbeats 4000000 in
theorem TlvEncodes_walk (w : World) (A : Option Addr) (n c : Nat) (f : Fo) (hr : FoR (· < w.heap.size) w A 0 f ∧ f.len = n ∧ n ≤ c ∧ c ≤ maxLen ∧ n ≤ 2199023255488) :
    Calls Try.prog 8 #[.slice A n c] w fun r w' => r = .returned (.bool true) ∧ Below w.heap.size w w' := by
  obtain ⟨h1, hn, hc, hm, hl⟩ := hr
  have H1 := Lib.hid h1
  have HN := Lib.hid hn
  clear h1 hn hc hm
  go_enter Try.func8, Try.ntmps8
  go_wp2_with (fail)
  refine (Small_c f _ A n c w HN.out H1.out hl).mono ?_
  rintro _ w1 ⟨b, rfl, hb, hk1⟩
  have K1 := Lib.hid hk1
  have HB := Lib.hid hb
  clear hk1 hb
  cases b with
  | false =>
    go_wp2_with (fail)
    refine (fixedT_c w1).mono ?_
    rintro _ w2 ⟨rfl, hk2⟩
    have K2 := Lib.hid (K1.out.trans (hk2.mono K1.out.size))
    clear hk2
    go_wp2_with (fail)
    go_ret
    exact ⟨rfl, K2.out⟩
  | true =>
    obtain ⟨sz, -⟩ := HB.out rfl
    go_wp2_with (fail)
    refine (Copy02_c f.size f rfl _ A n c w1 HN.out (H1.out.below K1.out) hl).mono ?_
    rintro _ w2 ⟨v2, rfl, ho2, hk2⟩
    obtain ⟨A2, c2, rfl, -, -, r2⟩ := ho2.form HN.out
    have K2 := Lib.hid (K1.out.trans (hk2.mono K1.out.size))
    have R2 := Lib.hid r2
    clear ho2 hk2 r2
    go_wp2_with (fail)
    refine (EncodeT_c f _ A2 n c2 w2 HN.out R2.out hl).mono ?_
    rintro _ w3 ⟨v3, rfl, ho3, hk3⟩
    obtain ⟨A3, c3, rfl, -, -, r3, -⟩ := OwnB.form ho3
    obtain ⟨C, hC⟩ : ∃ C, C = checkF f := ⟨_, rfl⟩
    obtain ⟨E, hE⟩ : ∃ E, E = encF f := ⟨_, rfl⟩
    have hE4 : E.length ≤ 4096 := by
      rw [hE, encF]
      split
      · rename_i h; exact (check_zero h).2.2
      · simp
    rw [← hC, ← hE]
    rw [← hE] at r3
    obtain ⟨m, hm⟩ : ∃ m, m = E.length := ⟨_, rfl⟩
    rw [← hm] at hE4 ⊢
    have K3 := Lib.hid (K2.out.trans (hk3.mono K2.out.size))
    have R3 := Lib.hid r3
    have RO3 := Lib.hid (R2.out.below hk3)
    have HC := Lib.hid hC
    have HE := Lib.hid hE
    have HM := Lib.hid hm
    clear ho3 hk3 r3 hC hE hm
    go_wp2_with (fail)
    refine (refEncodeT_c f _ A n c w3 HN.out (H1.out.below K3.out) hl).mono ?_
    rintro _ w4 ⟨v4, rfl, ho4, hk4⟩
    obtain ⟨A4, c4, rfl, -, -, r4, -⟩ := OwnB.form ho4
    rw [← HC.out, ← HE.out, ← HM.out]
    rw [← HE.out] at r4
    have K4 := Lib.hid (K3.out.trans (hk4.mono K3.out.size))
    have R4 := Lib.hid r4
    have R3b := Lib.hid (R3.out.below hk4)
    have RO4 := Lib.hid (RO3.out.below hk4)
    clear ho4 hk4 r4
    go_wp2_with (fail)
    refine (fixedT_c w4).mono ?_
    rintro _ w5 ⟨rfl, hk5⟩
    have K5 := Lib.hid (K4.out.trans (hk5.mono K4.out.size))
    have R4b := Lib.hid (R4.out.below hk5)
    have R3c := Lib.hid (R3b.out.below hk5)
    have RO5 := Lib.hid (RO4.out.below hk5)
    have cc : (C == C) = true := beq_self_eq_true C
    clear hk5
    go_wp2_with (fail)
    refine (Same_t A3 A4 m m c3 c4 E w5 HM.out.symm HM.out.symm R3c.out R4b.out (by unfold maxLen; omega)).mono ?_
    rintro _ w6 ⟨rfl, q, rfl⟩
    go_wp2_with (fail)
    refine (Check_c f _ A2 n c2 (w5.drewN q) HN.out (RO5.out.drewN q) hl).mono ?_
    rintro _ w7 ⟨rfl, hk7⟩
    rw [← HC.out]
    have b57 : Below w5.heap.size w5 w7 := (below_drewN (Below.refl _ _) q).trans hk7
    have K7 := Lib.hid (K5.out.trans (b57.mono K5.out.size))
    have RO7 := Lib.hid (RO5.out.below b57)
    have RL7 := Lib.hid (H1.out.below K7.out)
    clear hk7 b57
    go_wp2_with (fail)
    refine (Same02_t f.size f (Nat.le_refl _) _ _ A2 A n c2 c w7 HN.out RO7.out RL7.out hl).mono ?_
    rintro _ w8 ⟨rfl, q8, rfl⟩
    go_wp2_with (fail)
    go_ret
    exact ⟨rfl, below_drewN K7.out q8⟩
end Go.Proofs.Ytgnciejbhaebeaa
