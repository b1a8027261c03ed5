/- Parts one behind the other: Further laws that RowsEncodes needs. Conditions: as told at each. -/
import Derived.Test.YtipofokinjkclaaDoorPE1
import Derived.Test.YtipofokinjkclaaDoorPE2
import Derived.Test.YtipofokinjkclaaDoorPE3
import Derived.Test.YtipofokinjkclaaDoorPE4
import Derived.Test.YtipofokinjkclaaDoorPE5
import Derived.Test.YtipofokinjkclaaDoorPE6
import Derived.Test.YtipofokinjkclaaDoorPE7
import Derived.Test.YtipofokinjkclaaDoorPE8
import Derived.Test.YtipofokinjkclaaDoorPE9
import Derived.Test.YtipofokinjkclaaDoorPE10
import Derived.Test.YtipofokinjkclaaDoorPE11
import Derived.Test.YtipofokinjkclaaDoorPE12
import Derived.Test.YtipofokinjkclaaDoorPE13
import Derived.Test.YtipofokinjkclaaDoorPE14
import Derived.Test.YtipofokinjkclaaDoorPE15
import Derived.Test.YtipofokinjkclaaDoorPE16
import Derived.Test.YtipofokinjkclaaDoorPE17
import Derived.Test.YtipofokinjkclaaDoorPE18
import Derived.Test.YtipofokinjkclaaDoorPE19
import Derived.Test.YtipofokinjkclaaDoorPE20
import Derived.Test.YtipofokinjkclaaDoorPE21
import Derived.Test.YtipofokinjkclaaDoorPE23
import Derived.Lib.AppendStr
import Derived.Lib.ConvBytes
import Derived.Laws.Rows
import Derived.Laws.Tables
import Derived.WalkKit
import Derived.Laws.BitsAllLaws
import Derived.Deep.DeepCutAuto

set_option linter.unusedVariables false
set_option linter.unusedSimpArgs false
/- Further laws that RowsEncodes needs. Conditions: none. -/
namespace Go.Proofs.YtipofokinjkclaaDoor
open Go Go.RowKit

theorem strCells_eq (s : ByteArray) : Lib.strCells s = (strB s).map bv := rfl

/-- 'append(v, s...)' of a string. -/
theorem wpList_appStr (w : World) {ops : Array Oper} {rest : List Oper} {o : Oper} {a : Act} {Q : Exit → Act → World → Prop} (hgd : o.guard = none) (x y : Operand)
    (ho : o.op = .call { callee := .builtin .append, args := #[x, y], argTypes := #[29, 9] })
    (B : Nat) (v : Value) (bs : List UInt8) (hs : a.eval x = v) (hown : OwnB w B v bs)
    (s : ByteArray) (hx : a.eval y = .string s)
    (hlen : bs.length + s.size ≤ 140737488355328) (hB : B ≤ w.heap.size)
    (h : ∀ v' w', OwnB w' B v' (bs ++ strB s) → w.grownBy w' v.ownBlock → wpList Tryd.prog ops Q rest (a.put o.dst v') w') : wpList Tryd.prog ops Q (o :: rest) a w := by
  obtain ⟨i0, hi, hz0, hz1, hz2⟩ := info_parts info_u8
  have hown' : w.ownsRow B 5 1 v bs.length (bs.map bv) := by
    have h0 : w.ownsRow B 5 1 v (bs.map bv).length (bs.map bv) := hown
    rwa [List.length_map] at h0
  refine Lib.wpList_append_own_string (w := w) hgd x y 29 9 ho B 5 i0 Tryd.underlying29 Tryd.underlying9 hi hz0 hz1 hz2 v bs.length (bs.map bv) hs hown' s hx (by unfold maxLen; omega) hlen hB ?_
  intro v' w' h1 h2 _
  refine h v' w' ?_ h2
  rw [strCells_eq, ← strB_len, ← List.map_append, ← List.length_append] at h1
  unfold OwnB Own
  rwa [List.length_map]

end Go.Proofs.YtipofokinjkclaaDoor

namespace Go.Proofs.YtipofokinjkclaaDoor
open Go Go.RowKit Go.Lib

theorem sc_cells (s : ScD) (A : Option Addr) (n c : Nat) (L : Option Addr) (m cm : Nat) (A' : Option Addr) (c' : Nat) : (scC s A n c L m cm).setIfInBounds 2 (.slice A' n c') = scC s A' n c' L m cm := rfl
theorem sc_links (s : ScD) (A : Option Addr) (n c : Nat) (L : Option Addr) (m cm : Nat) (A' : Option Addr) (c' : Nat) : (scC s A n c L m cm).setIfInBounds 8 (.slice A' m c') = scC s A n c A' m c' := rfl
set_option maxRecDepth 100000 in
set_option maxHeartbeats 16000000 in
theorem refCopyS_c (s : ScD) (A : Option Addr) (n c : Nat) (L : Option Addr) (m cm : Nat) (w : World) (hs : ScR w s A n c L m cm) :
    Calls Tryd.prog 19 #[.agg (scC s A n c L m cm)] w fun e w' => ∃ A' c' L' cm', e = .returned (.agg (scC s A' n c' L' m cm')) ∧ OwnC w' w.heap.size (.slice A' n c') s.cells ∧ OwnT w' w.heap.size (.slice L' m cm') s.links ∧ (∀ a b, A' = some a → L' = some b → a.block ≠ b.block) ∧ Below w.heap.size w w' := by
  obtain ⟨X, eX⟩ : ∃ X, X = scC s A n c L m cm := ⟨_, rfl⟩
  rw [← eX]
  have EX := Lib.hid eX
  have HS := Lib.hid hs
  clear eX hs
  go_enter Tryd.func19, Tryd.ntmps19
  go_upto_region 1 with (fail)
  obtain ⟨W1, eW1⟩ : ∃ W1, W1 = (w.alloc (.cells X 25)).alloc (.cells (scC scZ none 0 0 none 0 0) 25) := ⟨_, rfl⟩
  obtain ⟨p, ep⟩ : ∃ p, p = w.heap.size := ⟨_, rfl⟩
  obtain ⟨q, eq⟩ : ∃ q, q = w.heap.size + 1 := ⟨_, rfl⟩
  have hb1 : Below w.heap.size w W1 := by rw [eW1]; exact ((Below.refl _ _).alloc (Nat.le_refl _) _).alloc (by simp) _
  have hp1 : ScB W1 p s A n c L m cm := by
    rw [eW1, ep, EX.out]
    exact (Below.heap_alloc _ _ _ (by simp)).trans (heap_alloc_new _ _)
  have hq1 : ScB W1 q scZ none 0 0 none 0 0 := by rw [eW1, eq]; exact heap_alloc2_new _ _ _
  have eW1' : (w.alloc (.cells X 25)).alloc (.cells #[.int .i64 0, .int .i64 0, .slice none 0 0, .int .i64 0, .int .i64 0, .bool false, .int .u8 0, .string { data := #[] }, .slice none 0 0] 25) = W1 := by rw [eW1]; rfl
  rw [eW1', ← eq, ← ep]
  have HB1 := Lib.hid hb1
  have HP1 := Lib.hid hp1
  have HQ1 := Lib.hid hq1
  have HR1 := Lib.hid (HS.out.below hb1)
  have HPQ : Hid (w.heap.size ≤ p ∧ w.heap.size ≤ q ∧ p ≠ q ∧ p < W1.heap.size ∧ q < W1.heap.size) := Lib.hid ⟨by omega, by omega, by omega, heap_lt hp1, heap_lt hq1⟩
  obtain ⟨x0, x1, x2, x3, x4, x5, x6, x7, x8⟩ := hp1.nine
  clear eW1 eW1' ep eq hb1 hp1 hq1 x0 x1 x3 x4 x5 x6 x7 x8
  have HO1 : Hid (OwnC (W1.alloc (.cells #[] 47)) W1.heap.size (.slice (some ⟨W1.heap.size, 0, none⟩) 0 0) []) := Lib.hid (OwnC.made W1)
  have HA1 : Hid (Below W1.heap.size W1 (W1.alloc (.cells #[] 47))) := Lib.hid ((Below.refl _ _).alloc (Nat.le_refl _) _)
  have z2 : (W1.alloc (.cells #[] 47)).cell? ⟨p, 2, none⟩ = some (.slice A n c) := (HA1.out.cell (p := ⟨p, 2, none⟩) HPQ.out.2.2.2.1).trans x2
  go_upto_region 2 with (at_builtin; go_must (refine wpList_appC _ rfl (.tmp 3) (.tmp 5) rfl W1.heap.size _ [] rfl HO1.out A n c s.cells rfl HR1.out.hn (HR1.out.below HA1.out).rd (by have := HR1.out.nl; simp only [List.length_nil]; omega) HA1.out.size ?_); intro v2 w2 q2 hg2 hv2; obtain ⟨A2, c2, rfl, _, _, _, ha2, _⟩ := q2.form; have HA2 := Lib.hid ha2; have HQ2 := Lib.hid q2; have HG2 := Lib.hid hg2; clear q2 hg2 hv2 ha2; have hb2 : Below W1.heap.size W1 w2 := HA1.out.grown HG2.out HA1.out.size (fun k e => by have e' : some W1.heap.size = some k := e; injection e' with e'; omega); have HB2 := Lib.hid hb2; have y2 : w2.cell? ⟨p, 2, none⟩ = some (.slice A n c) := (hb2.cell (p := ⟨p, 2, none⟩) HPQ.out.2.2.2.1).trans x2; have f2 : w2.frozen? ⟨p, 2, none⟩ = false := heap_free (HP1.out.below hb2) 2; clear hb2)
  rw [HR1.out.hn]
  obtain ⟨W3, eW3⟩ : ∃ W3, W3 = w2.setCell ⟨p, 2, none⟩ (.slice A2 n c2) := ⟨_, rfl⟩
  rw [← eW3]
  have hb3 : Below w.heap.size w W3 := by rw [eW3]; exact below_set (HB1.out.trans (HB2.out.mono HB1.out.size)) p _ _ HPQ.out.1
  have hp3 : ScB W3 p s A2 n c2 L m cm := by
    rw [eW3]
    have := heap_set (HP1.out.below HB2.out) 2 (.slice A2 n c2)
    rwa [sc_cells] at this
  have hq3 : ScB W3 q scZ none 0 0 none 0 0 := by
    rw [eW3]
    exact (heap_far _ (Ne.symm HPQ.out.2.2.1)).trans (HQ1.out.below HB2.out)
  have ho3 : OwnC W3 W1.heap.size (.slice A2 n c2) s.cells := by
    have h := HQ2.out
    rw [List.nil_append, HR1.out.hn] at h
    refine OwnC.keep h (fun g e => ?_)
    rw [eW3]
    exact heap_far _ (fun e2 => by have h1 := (OwnC.lt h g e).1; have h2 := HPQ.out.2.2.2.1; have e3 : g = p := e2; omega)
  have hsz3 : W3.heap.size = w2.heap.size := by rw [eW3]; simp [World.setCell]
  have HA3 : Hid (∀ a, A2 = some a → W1.heap.size ≤ a.block ∧ a.block < W3.heap.size) := Lib.hid (fun a e => ⟨(HA2.out a e).1, by rw [hsz3]; exact (HA2.out a e).2.1⟩)
  have HR3 := Lib.hid (HS.out.below hb3)
  obtain ⟨z0, z1, z2', z3, z4, z5, z6, z7, z8⟩ := hp3.nine
  have HB3 := Lib.hid hb3
  have HP3 := Lib.hid hp3
  have HQ3 := Lib.hid hq3
  have HO3 := Lib.hid ho3
  have HPQ3 : Hid (p < W3.heap.size ∧ q < W3.heap.size) := Lib.hid ⟨heap_lt hp3, heap_lt hq3⟩
  have HW1 : Hid (w.heap.size ≤ W1.heap.size) := Lib.hid HB1.out.size
  clear hb3 hp3 hq3 ho3 eW3 hsz3 z0 z1 z2' z3 z4 z5 z6 z7 x2 z2 y2 f2 HO1 HA1 HP1 HQ1 HB2 HG2 HQ2 HR1
  have HO3t : Hid (OwnT (W3.alloc (.cells #[] 9)) W3.heap.size (.slice (some ⟨W3.heap.size, 0, none⟩) 0 0) []) := Lib.hid (OwnT.made W3)
  have HA3t : Hid (Below W3.heap.size W3 (W3.alloc (.cells #[] 9))) := Lib.hid ((Below.refl _ _).alloc (Nat.le_refl _) _)
  have z9 : (W3.alloc (.cells #[] 9)).cell? ⟨p, 8, none⟩ = some (.slice L m cm) := (HA3t.out.cell (p := ⟨p, 8, none⟩) HPQ3.out.1).trans z8
  go_upto_region 3 with (at_builtin; go_must (refine wpList_appT _ rfl (.tmp 8) (.tmp 10) rfl W3.heap.size _ [] rfl HO3t.out L m cm s.links rfl HR3.out.hm (HR3.out.below HA3t.out).rt (by have := HR3.out.ml; simp only [List.length_nil]; omega) HA3t.out.size ?_); intro v4 w4 q4 hg4 hv4; obtain ⟨A4, c4, rfl, _, _, _, ha4⟩ := q4.form; have HA4 := Lib.hid ha4; have HQ4 := Lib.hid q4; have HG4 := Lib.hid hg4; clear q4 hg4 hv4 ha4; have hb4 : Below W3.heap.size W3 w4 := HA3t.out.grown HG4.out HA3t.out.size (fun k e => by have e' : some W3.heap.size = some k := e; injection e' with e'; omega); have HB4 := Lib.hid hb4; have y4 : w4.cell? ⟨p, 8, none⟩ = some (.slice L m cm) := (hb4.cell (p := ⟨p, 8, none⟩) HPQ3.out.1).trans z8; have f4 : w4.frozen? ⟨p, 8, none⟩ = false := heap_free (HP3.out.below hb4) 8; clear hb4)
  rw [HR3.out.hm]
  obtain ⟨W5, eW5⟩ : ∃ W5, W5 = w4.setCell ⟨p, 8, none⟩ (.slice A4 m c4) := ⟨_, rfl⟩
  rw [← eW5]
  have hb5 : Below w.heap.size w W5 := by rw [eW5]; exact below_set (HB3.out.trans (HB4.out.mono HB3.out.size)) p _ _ HPQ.out.1
  have hp5 : ScB W5 p s A2 n c2 A4 m c4 := by
    rw [eW5]
    have := heap_set (HP3.out.below HB4.out) 8 (.slice A4 m c4)
    rwa [sc_links] at this
  have hq5 : ScB W5 q scZ none 0 0 none 0 0 := by
    rw [eW5]
    exact (heap_far _ (Ne.symm HPQ.out.2.2.1)).trans (HQ3.out.below HB4.out)
  have ho5 : OwnC W5 W1.heap.size (.slice A2 n c2) s.cells := by
    refine OwnC.keep (OwnC.below HO3.out HB4.out) (fun g e => ?_)
    rw [eW5]
    exact heap_far _ (fun e2 => by have h1 := (OwnC.lt HO3.out g e).1; have h2 := HPQ.out.2.2.2.1; have e3 : g = p := e2; omega)
  have ht5 : OwnT W5 W3.heap.size (.slice A4 m c4) s.links := by
    have h := HQ4.out
    rw [List.nil_append, HR3.out.hm] at h
    refine Own.frameK' h (fun g e => ?_)
    rw [eW5]
    exact heap_far _ (fun e2 => by have h1 := (Own.lt h g e).1; have h2 := HPQ3.out.1; have e3 : g = p := e2; omega)
  have HD5 : Hid (∀ a b, A2 = some a → A4 = some b → a.block ≠ b.block) := Lib.hid (fun a b ea eb => by have h1 := (HA3.out a ea).2; have h2 := (HA4.out b eb).1; omega)
  have HB5 := Lib.hid hb5
  have HP5 := Lib.hid hp5
  have HQ5 := Lib.hid hq5
  have HO5 : Hid (OwnC W5 w.heap.size (.slice A2 n c2) s.cells) := Lib.hid (OwnC.low ho5 HW1.out)
  have HT5 : Hid (OwnT W5 w.heap.size (.slice A4 m c4) s.links) := Lib.hid (Own.low ht5 HB3.out.size)
  have HPQ5 : Hid (q < W1.heap.size ∧ q < W3.heap.size) := Lib.hid ⟨HPQ.out.2.2.2.2, HPQ3.out.2⟩
  have HOo := Lib.hid ho5
  have HTo := Lib.hid ht5
  clear hb5 hp5 hq5 ho5 ht5 eW5 z8 z9 y4 f4 HO3t HA3t HB3 HP3 HQ3 HO3 HB4 HQ4 HG4 HR3 HA4 HA3 HA2
  go_wp2_with (first
    | (refine wpList_load_row rfl 25 (.tmp 1) rfl p rfl 25 _ (0, 0) _ HP5.out Tryd.underlying25 rfl (info_sc.trans rfl) ?_)
    | (refine wpList_store_row rfl 25 (.tmp 2) (.tmp 13) rfl q (scC s A2 n c2 A4 m c4) rfl rfl 25 _ HQ5.out (info_sc.trans rfl) rfl (sc_one _ _ _ _ _ _ _) ?_))
  refine bodyPost_ret (v := .agg (scC s A2 n c2 A4 m c4)) (results_cell_row (p := 2) (ty := 25) rfl _ _ q 25 _ (0, 0) _ rfl (setRow_heap W5 q _ _ _ _ HQ5.out) Tryd.underlying25 rfl (info_sc.trans rfl)) rfl ?_
  have hk : ∀ g, g ≠ q → (W5.setRow q (scC s A2 n c2 A4 m c4)).heap[g]? = W5.heap[g]? := fun g e => setRow_other _ _ _ _ e
  exact ⟨A2, c2, A4, c4, rfl, OwnC.keep HO5.out (fun g e => hk g (by have h1 := (OwnC.lt HOo.out g e).1; have h2 := HPQ5.out.1; omega)), Own.frameK' HT5.out (fun g e => hk g (by have h1 := (Own.lt HTo.out g e).1; have h2 := HPQ5.out.2; omega)), HD5.out, below_setRow HB5.out HPQ.out.2.1 _⟩
end Go.Proofs.YtipofokinjkclaaDoor

namespace Go.Proofs.YtipofokinjkclaaDoor
open Go Go.RowKit

theorem u64_div {x : Nat} (h : U64 x) (d : Nat) : IntKind.u64.wrap ((x : Int) / (d : Int)) = (x : Int) / (d : Int) := by
  have h1 := h.out
  have h2 : x / d ≤ x := Nat.div_le_self _ _
  rw [← Int.natCast_ediv]
  generalize x / d = q at *
  simp only [IntKind.wrap_u64]; omega
end Go.Proofs.YtipofokinjkclaaDoor

namespace Go.Proofs.YtipofokinjkclaaDoor
open Go Go.RowKit

def numLI (n : Nat) (size : Int) : List UInt8 := if 1 ≤ size ∧ size ≤ 8 then numL n size.toNat else []

set_option maxRecDepth 100000 in
set_option maxHeartbeats 400000 in
theorem refNum_c (n : Nat) (size : Int) (w : World) (hn : U64 n) :
    Calls Tryd.prog 128 #[.int .u64 n, .int .i64 size] w fun e w' => ∃ v, e = .returned v ∧ OwnB w' w.heap.size v (numLI n size) ∧ Below w.heap.size w w' := by
  rcases Int.lt_or_le size 1 with h1 | h1
  · go_enter Tryd.func128, Tryd.ntmps128
    go_wp2
    go_ret
    refine ⟨_, rfl, ?_, Below.refl _ _⟩
    rw [numLI, if_neg (by omega)]; exact Own.nil_ _ _ _
  rcases Int.lt_or_le 8 size with h8 | h8
  · go_enter Tryd.func128, Tryd.ntmps128
    go_wp2
    go_ret
    refine ⟨_, rfl, ?_, Below.refl _ _⟩
    rw [numLI, if_neg (by omega)]; exact Own.nil_ _ _ _
  obtain ⟨s, rfl⟩ := Int.eq_ofNat_of_zero_le (show 0 ≤ size by omega)
  have hfin : numLI n (s : Int) = numL n s := by rw [numLI, if_pos ⟨h1, h8⟩, Int.toNat_natCast]
  have HF := Lib.hid hfin; clear hfin
  go_enter Tryd.func128, Tryd.ntmps128
  go_wp2_with (first | (at_make; refine wpList_makeB _ rfl (.tmp 13) (.tmp 13) rfl _ _ _ _ s rfl rfl rfl rfl (by omega) ?_))
  intro w1 ho1 hb1 _
  go_wp2
  go_loopw [0, 6] (fun m i wr => ∃ k : Nat, k ≤ s ∧ i = .int .i64 (k : Int) ∧ m = .int .u64 ((n / 256 ^ k : Nat) : Int) ∧ OwnB wr w.heap.size (.slice (some ⟨w.heap.size, 0, none⟩) s s) (numTail n s (s - k)) ∧ Below w.heap.size w wr) (fun m i _ => s - (intOf i).toNat)
  case atStart =>
    refine ⟨0, Nat.zero_le _, rfl, ?_, ?_, hb1⟩
    · rw [Nat.pow_zero, Nat.div_one]
    · rw [Nat.sub_zero, numTail_start]; exact ho1
  case round =>
    obtain ⟨k, hk, rfl, rfl, hown, hb⟩ := hrel
    rcases Nat.lt_or_ge k s with h0 | h0
    · obtain ⟨x, hx⟩ : ∃ x, x = n / 256 ^ k := ⟨_, rfl⟩
      have hu : U64 x := hn.le (by rw [hx]; exact Nat.div_le_self _ _)
      have hw : IntKind.u64.wrap ((x : Int) / 256) = (x : Int) / 256 := u64_div hu 256
      have hq : x / 256 = n / 256 ^ (k + 1) := by rw [hx, Nat.div_div_eq_div_mul, ← Nat.pow_succ]
      obtain ⟨old, hcell⟩ : ∃ old, wr.cell? ⟨w.heap.size, s - 1 - k, none⟩ = some old := ⟨_, hown.cell (s - 1 - k) (by rw [numTail_length _ _ _ (by omega)]; omega)⟩
      have hfree := hown.free (s - 1 - k)
      rw [← hx]
      have HX := Lib.hid hx; clear hx
      have HQ := Lib.hid hq; clear hq
      go_wp2
      go_roundw
      case rel =>
        refine ⟨k + 1, by omega, by go_num, by rw [← HQ.out]; try rfl, ?_, hb.setCell (Nat.le_refl _) _⟩
        rw [int_lo (x := (x : Int) % 256) (n := x) (by omega), ← numTail_step (by omega), show s - (k + 1) + 1 = s - k by omega, show s - 1 - (s - (k + 1)) = k by omega, ← HX.out, show s - (k + 1) = s - 1 - k by omega]
        exact hown.set _ _
      case measure => simp [intOf]; omega
    · obtain rfl : k = s := by omega
      go_wp2
      go_ret
      refine ⟨_, rfl, ?_, hb⟩
      rw [Nat.sub_self, numTail_zero] at hown
      rw [HF.out]; exact hown

end Go.Proofs.YtipofokinjkclaaDoor

namespace Go.Proofs.YtipofokinjkclaaDoor
open Go Go.RowKit Go.Lib

theorem num2 (n : Nat) : numLI n 2 = numL n 2 := by rw [numLI, if_pos (by decide)]; rfl
theorem num4' (n : Nat) : numLI n 4 = numL n 4 := by rw [numLI, if_pos (by decide)]; rfl
set_option maxRecDepth 100000 in
set_option maxHeartbeats 16000000 in
theorem cellBytes_c (d : CeD) (w : World) (h : CeN d) :
    Calls Tryd.prog 90 #[d.val] w fun e w' => ∃ v, e = .returned v ∧ OwnB w' w.heap.size v (cellB d) ∧ Below w.heap.size w w' := by
  obtain ⟨Z, eZ⟩ : ∃ Z, cellB d = Z := ⟨_, rfl⟩
  rw [eZ]
  obtain ⟨r, er⟩ : ∃ r : Nat, d.r = (r : Int) := ⟨d.r.toNat, by have := h.r0; omega⟩
  obtain ⟨f, ef⟩ : ∃ f : Nat, d.fg = (f : Int) := ⟨d.fg.toNat, by have := h.f0; omega⟩
  obtain ⟨g, eg⟩ : ∃ g : Nat, d.bg = (g : Int) := ⟨d.bg.toNat, by have := h.b0; omega⟩
  obtain ⟨t, et⟩ : ∃ t : Nat, d.at_ = (t : Int) := ⟨d.at_.toNat, by have := h.a0; omega⟩
  have hB : r ≤ 1114111 ∧ f ≤ 65535 ∧ g ≤ 65535 ∧ t ≤ 255 := by have := h.r1; have := h.f1; have := h.b1; have := h.a1; omega
  have EZ : Hid (numL r 4 ++ numL f 2 ++ numL g 2 ++ [lo t] = Z) := Lib.hid (by rw [← eZ, cellB, er, ef, eg, et]; rfl)
  obtain ⟨W0, eW0⟩ : ∃ W0, W0 = w.alloc (.cells d.arr 47) := ⟨_, rfl⟩
  obtain ⟨p, ep⟩ : ∃ p, p = w.heap.size := ⟨_, rfl⟩
  have hp0 : W0.heap[p]? = some (.cells d.arr 47 (0, 0)) := by rw [eW0, ep]; exact heap_alloc_new _ _
  have HP0 := Lib.hid hp0
  have HBN := Lib.hid hB
  have HB0 : Hid (Below w.heap.size w W0) := Lib.hid (by rw [eW0]; exact (Below.refl _ _).alloc (Nat.le_refl _) _)
  have EW0 : Hid (w.alloc (.cells #[.int .i32 d.r, .int .u8 d.w, .int .u32 d.fg, .int .u32 d.bg, .int .u8 d.at_, .int .u16 d.ln] 47) = W0) := Lib.hid eW0.symm
  have EP := Lib.hid ep
  have ER := Lib.hid er
  have EF := Lib.hid ef
  have EG := Lib.hid eg
  have ET := Lib.hid et
  clear eW0 ep hp0 eZ er ef eg et h
  show Calls _ _ #[.agg #[.int .i32 d.r, .int .u8 d.w, .int .u32 d.fg, .int .u32 d.bg, .int .u8 d.at_, .int .u16 d.ln]] w _
  go_enter Tryd.func90, Tryd.ntmps90
  go_upto_region 1 with (fail)
  rw [EW0.out, ← EP.out]
  have v0 : W0.cell? ⟨p, 0, none⟩ = some (.int .i32 (r : Int)) := by rw [← ER.out]; exact heap_cell HP0.out 0
  have hw : IntKind.u64.wrap (r : Int) = (r : Int) := IntWalk.u64_in _ ⟨by omega, by omega⟩
  go_upto_region 2 with (first
    | (go_at_call 128; (refine (refNum_c r 4 W0 (u64_small (by omega))).mono ?_); rintro _ w1 ⟨v1, rfl, ho1, hb1⟩; rw [num4'] at ho1; have HO1 : Hid (OwnB w1 W0.heap.size _ _) := Lib.hid ho1; have HB1 := Lib.hid (HB0.out.trans (hb1.mono HB0.out.size)); have HP1 := Lib.hid ((hb1.block p (heap_lt HP0.out)).trans HP0.out); have HZ1 : Hid (W0.heap.size ≤ w1.heap.size) := Lib.hid hb1.size; clear ho1 hb1))
  clear v0 hw
  have v2 : w1.cell? ⟨p, 2, none⟩ = some (.int .u32 (f : Int)) := by rw [← EF.out]; exact heap_cell HP1.out 2
  have hw : IntKind.u64.wrap (f : Int) = (f : Int) := IntWalk.u64_in _ ⟨by omega, by omega⟩
  go_upto_region 3 with (first
    | (go_at_call 128; (refine (refNum_c f 2 w1 (u64_small (by omega))).mono ?_); rintro _ w2 ⟨v2, rfl, ho2, hb2⟩; rw [num2] at ho2; obtain ⟨A2, c2, rfl, _, _, r2, _⟩ := OwnB.form ho2; rw [numL_length]; have R2 := Lib.hid r2; have HX2 : Hid (OwnB w2 W0.heap.size _ _) := Lib.hid (Own.below HO1.out hb2); have HB2 := Lib.hid (HB1.out.trans (hb2.mono HB1.out.size)); have HP2 := Lib.hid ((hb2.block p (heap_lt HP1.out)).trans HP1.out); have HZ2 : Hid (W0.heap.size ≤ w2.heap.size) := Lib.hid (Nat.le_trans HZ1.out hb2.size); clear ho2 hb2 r2)
    | (at_builtin; go_must (refine wpList_appB _ rfl (.tmp 8) (.tmp 13) rfl W0.heap.size _ _ rfl HX2.out A2 2 c2 (numL f 2) rfl (numL_length _ _) R2.out (by simp [numL_length]) HZ2.out ?_); intro v3 w3 h3 hg3 _; have HO3 := Lib.hid h3; have hk3 : Below W0.heap.size w2 w3 := (Below.refl _ _).grown hg3 HZ2.out (fun k e => (Own.lt HX2.out k e).1); have HB3 := Lib.hid (HB2.out.trans (hk3.mono HB0.out.size)); have HP3 := Lib.hid ((hk3.block p (heap_lt HP0.out)).trans HP2.out); have HZ3 : Hid (W0.heap.size ≤ w3.heap.size) := Lib.hid (Nat.le_trans HZ2.out hk3.size); clear h3 hg3 hk3))
  clear v2 hw
  have v2 : w3.cell? ⟨p, 3, none⟩ = some (.int .u32 (g : Int)) := by rw [← EG.out]; exact heap_cell HP3.out 3
  have hw : IntKind.u64.wrap (g : Int) = (g : Int) := IntWalk.u64_in _ ⟨by omega, by omega⟩
  go_upto_region 4 with (first
    | (go_at_call 128; (refine (refNum_c g 2 w3 (u64_small (by omega))).mono ?_); rintro _ w4 ⟨v4, rfl, ho4, hb4⟩; rw [num2] at ho4; obtain ⟨A4, c4, rfl, _, _, r4, _⟩ := OwnB.form ho4; rw [numL_length]; have R4 := Lib.hid r4; have HX4 : Hid (OwnB w4 W0.heap.size _ _) := Lib.hid (Own.below HO3.out hb4); have HB4 := Lib.hid (HB3.out.trans (hb4.mono HB3.out.size)); have HP4 := Lib.hid ((hb4.block p (heap_lt HP3.out)).trans HP3.out); have HZ4 : Hid (W0.heap.size ≤ w4.heap.size) := Lib.hid (Nat.le_trans HZ3.out hb4.size); clear ho4 hb4 r4)
    | (at_builtin; go_must (refine wpList_appB _ rfl (.tmp 15) (.tmp 20) rfl W0.heap.size _ _ rfl HX4.out A4 2 c4 (numL g 2) rfl (numL_length _ _) R4.out (by simp [numL_length]) HZ4.out ?_); intro v5 w5 h5 hg5 _; have HO5 := Lib.hid h5; have hk5 : Below W0.heap.size w4 w5 := (Below.refl _ _).grown hg5 HZ4.out (fun k e => (Own.lt HX4.out k e).1); have HB5 := Lib.hid (HB4.out.trans (hk5.mono HB0.out.size)); have HP5 := Lib.hid ((hk5.block p (heap_lt HP0.out)).trans HP4.out); have HZ5 : Hid (W0.heap.size ≤ w5.heap.size) := Lib.hid (Nat.le_trans HZ4.out hk5.size); clear h5 hg5 hk5))
  clear v2 hw
  have v4 : w5.cell? ⟨p, 4, none⟩ = some (.int .u8 (t : Int)) := by rw [← ET.out]; exact heap_cell HP5.out 4
  have hlo : Value.int .u8 (t : Int) = bv (lo t) := int_lo (by rw [Nat.mod_eq_of_lt (by omega)])
  have HLO := Lib.hid hlo
  clear hlo
  go_wp2_with (first
    | (at_builtin; go_must (refine wpList_appB1 _ rfl (.tmp 22) (.tmp 26) rfl W0.heap.size _ _ rfl HO5.out (.int .u8 (t : Int)) rfl (lo t) HLO.out (by simp [numL_length]) HZ5.out ?_); intro v6 w6 h6 hg6 _; have HO6 := Lib.hid h6; have hk6 : Below W0.heap.size w5 w6 := ((Below.refl _ _).alloc HZ5.out _).grown hg6 (Nat.le_trans HZ5.out (by simp)) (fun k e => (Own.lt HO5.out k e).1); have HB6 := Lib.hid (HB5.out.trans (hk6.mono HB0.out.size)); clear h6 hg6 hk6))
  go_ret
  exact ⟨_, rfl, by rw [← EZ.out]; exact Own.low HO6.out HB0.out.size, HB6.out⟩
end Go.Proofs.YtipofokinjkclaaDoor

namespace Go.Proofs.YtipofokinjkclaaDoor
open Go Go.RowKit Go.Lib

theorem gives_cutC {o : Oper} {f : Nat → Value} {w : World} {K : Value → World → Prop} (x lo hi : Operand) (ho : o.op = .slice 22 x (some lo) (some hi) none) (A : Option Addr) (n c : Nat) (hx : evF f x = .slice A n c)
    (U V : Int) (hlo : evF f lo = .int .i64 U) (hhi : evF f hi = .int .i64 V) (l h : Nat) (hU : U = (l : Int)) (hV : V = (h : Int)) (h1 : l ≤ h) (h2 : h ≤ n) (hc : n ≤ c) (ds : List CeD) (hl : ds.length = n) (hr : RdC w A ds)
    (hK : ∀ A', RdC w A' ((ds.drop l).take (h - l)) → K (.slice A' (h - l) (c - l)) w) : Gives Tryd.prog o f w K := by
  subst hU hV
  have g1 : (l : Int) ≤ (h : Int) := by omega
  have g2 : (h : Int) ≤ (c : Int) := by omega
  have hcut := hr.cut (l := l) (h := h) (m := c) (by omega) h1 (by omega)
  unfold Gives execOp
  simp only [ho, Option.map_some, Option.map_none, hx, hlo, hhi]
  go_simp
  exact hK _ hcut
/-- Cells that can be read, as a value. -/
def Rl.rdc (C : Nat) (ds : List CeD) : Rl := ⟨fun w v => ∃ A c, v = .slice A C c ∧ RdC w A ds, fun ⟨A, c, e, r⟩ g => ⟨A, c, e, RdC.below r g⟩⟩
theorem rowAt_get {C y x l : Nat} {ds : List CeD} (h : x < (rowAt C y ds).length) (e : l = y * C) (h2 : l + x < ds.length) : (rowAt C y ds)[x] = ds[l + x] := by
  subst e
  have h3 : (rowAt C y ds)[x]? = ds[y * C + x]? := by
    have hx : x < C := by unfold rowAt at h; rw [List.length_take] at h; omega
    unfold rowAt
    rw [List.getElem?_take, if_pos hx, List.getElem?_drop]
  rw [List.getElem?_eq_getElem h, List.getElem?_eq_getElem h2] at h3
  injection h3
set_option maxRecDepth 100000 in
set_option maxHeartbeats 16000000 in
theorem diff_c (a b : ScD) (A1 : Option Addr) (n1 c1 : Nat) (L1 : Option Addr) (m1 k1 : Nat) (A : Option Addr) (n c : Nat) (L : Option Addr) (m cm : Nat) (C R f0 : Nat) (w : World)
    (ha : ScR w a A1 n1 c1 L1 m1 k1) (hb : ScR w b A n c L m cm) (hf : Fit16 b C R) (hce : ∀ d ∈ b.cells, CeN d) (hal : a.cells.length = C * R) (h0 : f0 ≤ 4) :
    Calls Tryd.prog 49 #[.agg (scC a A1 n1 c1 L1 m1 k1), .agg (scC b A n c L m cm), .int .i64 (f0 : Int)] w fun e w' => ∃ v, e = .returned v ∧ OwnB w' w.heap.size v (layB a b f0) ∧ Below w.heap.size w w' := by
  obtain ⟨X, eX⟩ : ∃ X, X = scC a A1 n1 c1 L1 m1 k1 := ⟨_, rfl⟩
  obtain ⟨Y, eY⟩ : ∃ Y, Y = scC b A n c L m cm := ⟨_, rfl⟩
  rw [← eX, ← eY]
  obtain ⟨Z, eZ⟩ : ∃ Z, layB a b f0 = Z := ⟨_, rfl⟩
  rw [eZ]
  have EZ := Lib.hid eZ
  obtain ⟨W0, eW0⟩ : ∃ W0, W0 = (w.alloc (.cells X 25)).alloc (.cells Y 25) := ⟨_, rfl⟩
  obtain ⟨p, ep⟩ : ∃ p, p = w.heap.size := ⟨_, rfl⟩
  obtain ⟨q, eq⟩ : ∃ q, q = w.heap.size + 1 := ⟨_, rfl⟩
  have hb0 : Below w.heap.size w W0 := by rw [eW0]; exact ((Below.refl _ _).alloc (Nat.le_refl _) _).alloc (by simp) _
  have HP0 : Hid (ScB W0 p a A1 n1 c1 L1 m1 k1) := Lib.hid (by rw [eW0, ep, eX]; exact (Below.heap_alloc _ _ _ (by simp)).trans (heap_alloc_new _ _))
  have HQ0 : Hid (ScB W0 q b A n c L m cm) := Lib.hid (by rw [eW0, eq, eY]; exact heap_alloc2_new _ _ _)
  have EW0 := Lib.hid eW0
  have EP := Lib.hid ep
  have EQ := Lib.hid eq
  have HB0 := Lib.hid hb0
  have HRA := Lib.hid (ha.below hb0)
  have HRB := Lib.hid (hb.below hb0)
  have HF := Lib.hid hf
  have HCE := Lib.hid hce
  have HAL := Lib.hid hal
  have HSZ : Hid (p < W0.heap.size ∧ q < W0.heap.size ∧ w.heap.size ≤ W0.heap.size) := Lib.hid ⟨heap_lt HP0.out, heap_lt HQ0.out, hb0.size⟩
  clear eX eY eZ eW0 ep eq hb0 ha hb hf hce hal
  go_enter Tryd.func49, Tryd.ntmps49
  go_upto_region 1 with (fail)
  rw [← EW0.out, ← EQ.out, ← EP.out]
  have x5 : W0.cell? ⟨q, 5, none⟩ = some (.bool b.hid) := HQ0.out.nine.2.2.2.2.2.1
  go_upto_if 14 with (fail)
  clear x5
  obtain ⟨F1, eF1⟩ : ∃ F, F = f0 + (if b.hid then 1 else 0) := ⟨_, rfl⟩
  have EF1 := Lib.hid eF1
  have HF1 : Hid (F1 ≤ 5) := Lib.hid (by rw [eF1]; split <;> omega)
  clear eF1
  go_cut [2] (fun s2 wx => s2 = .int .i64 (F1 : Int) ∧ Hid (wx = W0))
  case first =>
    cases hb : b.hid
    · have e1 : Hid ((f0 : Int) = (F1 : Int)) := Lib.hid (by rw [EF1.out, hb]; rfl)
      clear hb
      go_wp2_with (fail)
      go_meet
      exact ⟨by rw [e1.out], Lib.hid rfl⟩
    · have e1 : Hid ((f0 : Int) + 1 = (F1 : Int)) := Lib.hid (by rw [EF1.out, hb]; rfl)
      clear hb
      go_wp2_with (fail)
      go_meet
      exact ⟨by rw [← e1.out], Lib.hid rfl⟩
  case rest =>
  obtain ⟨rfl, hwc⟩ := hcut
  obtain rfl := hwc.out.symm
  clear hwc
  obtain ⟨TE, eTE⟩ : ∃ t, (b.title.toList == a.title.toList) = t := ⟨_, rfl⟩
  have HTE := Lib.hid eTE
  have x7 : W0.cell? ⟨q, 7, none⟩ = some (.string b.title) := HQ0.out.nine.2.2.2.2.2.2.2.1
  have y7 : W0.cell? ⟨p, 7, none⟩ = some (.string a.title) := HP0.out.nine.2.2.2.2.2.2.2.1
  go_upto_if 22 with (fail)
  clear x7 y7 eTE
  obtain ⟨F2, eF2⟩ : ∃ F, F = F1 + (if (!TE) then 2 else 0) := ⟨_, rfl⟩
  have EF2 := Lib.hid eF2
  have HF2 : Hid (F2 ≤ 7) := Lib.hid (by have := HF1.out; rw [eF2]; split <;> omega)
  have EFL : Hid (flagsN f0 b.hid (!TE) = F2) := Lib.hid (by rw [flags_hid, eF2, EF1.out])
  clear eF2
  clear EW0
  go_cut [2] (fun s2 wx => s2 = .int .i64 (F2 : Int) ∧ Hid (wx = W0))
  case first =>
    have hf1 : F1 ≤ 5 := HF1.out
    cases TE
    · have e1 : Hid ((F1 : Int) + 2 = (F2 : Int)) := Lib.hid (by rw [EF2.out]; rfl)
      go_wp2_with (fail)
      go_meet
      exact ⟨by rw [← e1.out], Lib.hid rfl⟩
    · have e1 : Hid ((F1 : Int) = (F2 : Int)) := Lib.hid (by rw [EF2.out]; rfl)
      go_wp2_with (fail)
      go_meet
      exact ⟨by rw [e1.out], Lib.hid rfl⟩
  case rest =>
  obtain ⟨rfl, hwc⟩ := hcut
  obtain rfl := hwc.out.symm
  clear hwc
  obtain ⟨X0, eX0⟩ : ∃ x : Nat, b.x = (x : Int) := ⟨b.x.toNat, by have := HF.out.x0; omega⟩
  obtain ⟨Y0, eY0⟩ : ∃ y : Nat, b.y = (y : Int) := ⟨b.y.toNat, by have := HF.out.y0; omega⟩
  have HXY : Hid (X0 < C ∧ Y0 < R) := Lib.hid (by have h1 := HF.out.x1; have h2 := HF.out.y1; rw [eX0] at h1; rw [eY0] at h2; omega)
  have EX0 := Lib.hid eX0
  have EY0 := Lib.hid eY0
  have x0 : W0.cell? ⟨q, 0, none⟩ = some (.int .i64 (C : Int)) := by rw [← HF.out.c]; exact HQ0.out.nine.1
  have x1 : W0.cell? ⟨q, 1, none⟩ = some (.int .i64 (R : Int)) := by rw [← HF.out.r]; exact HQ0.out.nine.2.1
  have x3 : W0.cell? ⟨q, 3, none⟩ = some (.int .i64 (X0 : Int)) := by rw [← eX0]; exact HQ0.out.nine.2.2.2.1
  have x4 : W0.cell? ⟨q, 4, none⟩ = some (.int .i64 (Y0 : Int)) := by rw [← eY0]; exact HQ0.out.nine.2.2.2.2.1
  have hw0 : IntKind.u8.wrap (C : Int) = (C : Int) := IntWalk.u8_in _ ⟨by omega, by have := HF.out.c2; omega⟩
  have hw1 : IntKind.u8.wrap (R : Int) = (R : Int) := IntWalk.u8_in _ ⟨by omega, by have := HF.out.r2; omega⟩
  have hw3 : IntKind.u8.wrap (X0 : Int) = (X0 : Int) := IntWalk.u8_in _ ⟨by omega, by have := HXY.out.1; have := HF.out.c2; omega⟩
  have hw4 : IntKind.u8.wrap (Y0 : Int) = (Y0 : Int) := IntWalk.u8_in _ ⟨by omega, by have := HXY.out.2; have := HF.out.r2; omega⟩
  have hw5 : IntKind.u8.wrap (F2 : Int) = (F2 : Int) := IntWalk.u8_in _ ⟨by omega, by have := HF2.out; omega⟩
  have HD5 : Hid (OwnB (W0.alloc (.cells #[.int .u8 (C : Int), .int .u8 (R : Int), .int .u8 (X0 : Int), .int .u8 (Y0 : Int), .int .u8 (F2 : Int)] 5)) W0.heap.size (.slice (some ⟨W0.heap.size, 0, none⟩) 5 5) [lo C, lo R, lo X0, lo Y0, lo F2]) := Lib.hid (by
    have c2 := HF.out.c2; have r2 := HF.out.r2; have hx := HXY.out; have h5 := HF2.out
    refine OwnB_lit W0 [lo C, lo R, lo X0, lo Y0, lo F2] _ ?_ 5 rfl (by simp)
    simp only [List.map_cons, List.map_nil]
    rw [← int_lo (x := (C : Int)) (n := C) (by omega), ← int_lo (x := (R : Int)) (n := R) (by omega), ← int_lo (x := (X0 : Int)) (n := X0) (by omega), ← int_lo (x := (Y0 : Int)) (n := Y0) (by omega), ← int_lo (x := (F2 : Int)) (n := F2) (by omega)])
  clear eX0 eY0
  go_upto_if 40 with (fail)
  clear x0 x1 x3 x4 hw0 hw1 hw3 hw4 hw5
  obtain ⟨W5, eW5⟩ : ∃ W, W = W0.alloc (.cells #[.int .u8 (C : Int), .int .u8 (R : Int), .int .u8 (X0 : Int), .int .u8 (Y0 : Int), .int .u8 (F2 : Int)] 5) := ⟨_, rfl⟩
  rw [← eW5] at HD5 ⊢
  have HK5 : Hid (Below W0.heap.size W0 W5) := Lib.hid (by rw [eW5]; exact (Below.refl _ _).alloc (Nat.le_refl _) _)
  clear eW5
  obtain ⟨HH, eHH⟩ : ∃ H, H = [lo C, lo R, lo X0, lo Y0, lo F2] ++ ttlB (!TE) b.title := ⟨_, rfl⟩
  have EHH := Lib.hid eHH
  have HHL : Hid (HH.length ≤ 70) := Lib.hid (by have := HF.out.tl; rw [eHH, List.length_append]; unfold ttlB; split <;> simp [strB_len] <;> omega)
  have EHD : Hid (headB a b f0 = HH) := Lib.hid (by
    rw [headB, HTE.out, EFL.out, eHH, HF.out.c, HF.out.r, EX0.out, EY0.out]; rfl)
  clear eHH
  obtain ⟨B0, eB0⟩ : ∃ B, B = W0.heap.size := ⟨_, rfl⟩
  rw [← eB0] at HK5
  obtain ⟨V5, eV5⟩ : ∃ V, V = Value.slice (some ⟨W0.heap.size, 0, none⟩) 5 5 := ⟨_, rfl⟩
  rw [← eV5, ← eB0] at HD5
  rw [← eV5]
  have HZ5 : Hid (B0 ≤ W5.heap.size) := Lib.hid (by rw [eB0]; exact HK5.out.size)
  have HB00 : Hid (w.heap.size ≤ B0 ∧ p < B0 ∧ q < B0) := Lib.hid (by rw [eB0]; exact ⟨HSZ.out.2.2, HSZ.out.1, HSZ.out.2.1⟩)
  have EB0 := Lib.hid eB0
  clear eV5 eB0
  go_cut [8] (fun s8 wx => Hid (OwnB wx B0 s8 HH) ∧ Hid (Below B0 W0 wx))
  case first =>
    cases TE
    rotate_left
    · have e1 : Hid ([lo C, lo R, lo X0, lo Y0, lo F2] = HH) := Lib.hid (by rw [EHH.out]; exact (List.append_nil _).symm)
      go_wp2_with (fail)
      go_meet
      exact ⟨Lib.hid (by rw [← e1.out]; exact HD5.out), HK5⟩
    · have e1 : Hid (([lo C, lo R, lo X0, lo Y0, lo F2] ++ [lo b.title.size]) ++ strB b.title = HH) := Lib.hid (by rw [EHH.out, List.append_assoc]; rfl)
      have hq5 : ScB W5 q b A n c L m cm := (HK5.out.block q HB00.out.2.2).trans HQ0.out
      have x7 : W5.cell? ⟨q, 7, none⟩ = some (.string b.title) := hq5.nine.2.2.2.2.2.2.2.1
      have hts : b.title.size ≤ 64 := HF.out.tl
      have hwt : IntKind.u8.wrap (b.title.size : Int) = (b.title.size : Int) := IntWalk.u8_in _ ⟨by omega, by omega⟩
      have HLT : Hid (Value.int .u8 (b.title.size : Int) = bv (lo b.title.size)) := Lib.hid (int_lo (by rw [Nat.mod_eq_of_lt (by omega)]))
      clear hq5
      go_wp2_with (first
        | (at_builtin; (refine wpList_appB1 _ rfl (.tmp 41) (.tmp 46) rfl B0 _ _ rfl HD5.out (.int .u8 (b.title.size : Int)) rfl (lo b.title.size) HLT.out (by simp) HZ5.out ?_); intro v6 w6 h6 hg6 _; have hk6 : Below B0 W5 w6 := ((Below.refl _ _).alloc HZ5.out _).grown hg6 (Nat.le_trans HZ5.out (by simp)) (fun k e => (Own.lt HD5.out k e).1); have HD6 := Lib.hid h6; have HK6 := Lib.hid (HK5.out.trans hk6); have HZ6 : Hid (B0 ≤ w6.heap.size) := Lib.hid (Nat.le_trans HZ5.out hk6.size); have x7' : w6.cell? ⟨q, 7, none⟩ = some (.string b.title) := (show ScB w6 q b A n c L m cm from (HK6.out.block q HB00.out.2.2).trans HQ0.out).nine.2.2.2.2.2.2.2.1; clear h6 hg6 hk6)
        | (at_builtin; (refine wpList_appStr _ rfl (.tmp 48) (.tmp 50) rfl B0 _ _ rfl HD6.out b.title rfl (by simp; omega) HZ6.out ?_); intro v8 w8 h8 hg8; have HD8 := Lib.hid h8; have HK8 := Lib.hid (HK6.out.grown hg8 HZ6.out (fun k e => (Own.lt HD6.out k e).1)); clear h8 hg8))
      go_meet
      exact ⟨Lib.hid (by rw [← e1.out]; exact HD8.out), HK8⟩
  case rest =>
  obtain ⟨W9, eW9⟩ : ∃ x, x = wc := ⟨_, rfl⟩
  rw [← eW9] at hcut ⊢
  obtain ⟨HO9, HK9⟩ := hcut
  clear eW9
  obtain ⟨V8, eV8⟩ : ∃ V, V = u8 := ⟨_, rfl⟩
  rw [← eV8] at HO9 ⊢
  clear eV8 HD5 HK5 HZ5 EF1 EF2 HF1 HF2 EFL
  have hW9 : B0 ≤ W9.heap.size := by rw [EB0.out]; exact HK9.out.size
  obtain ⟨base, eb⟩ : ∃ B, B = W9.heap.size := ⟨_, rfl⟩
  rw [← eb] at hW9
  have HBB : Hid (B0 ≤ base ∧ p < base ∧ q < base) := Lib.hid ⟨hW9, Nat.lt_of_lt_of_le HB00.out.2.1 hW9, Nat.lt_of_lt_of_le HB00.out.2.2 hW9⟩
  have HR9 : Hid (OwnB (W9.alloc (.cells #[] 5)) base (.slice (some ⟨base, 0, none⟩) 0 0) []) := Lib.hid (by rw [eb]; exact OwnB_lit W9 [] #[] rfl 0 rfl (by simp))
  have HL9 : Hid (Below base W9 (W9.alloc (.cells #[] 5))) := Lib.hid (by rw [eb]; exact (Below.refl _ _).alloc (Nat.le_refl _) _)
  have HP9 : Hid (ScB W9 p a A1 n1 c1 L1 m1 k1) := Lib.hid ((HK9.out.block p HB00.out.2.1).trans HP0.out)
  have HQ9 : Hid (ScB W9 q b A n c L m cm) := Lib.hid ((HK9.out.block q HB00.out.2.2).trans HQ0.out)
  have HB9 : Hid (Below W0.heap.size W0 W9) := Lib.hid (by rw [← EB0.out]; exact HK9.out)
  have HRA9 : Hid (ScR W9 a A1 n1 c1 L1 m1 k1) := Lib.hid (HRA.out.below HB9.out)
  have HRB9 : Hid (ScR W9 b A n c L m cm) := Lib.hid (HRB.out.below HB9.out)
  have EBW : Hid (base = W9.heap.size) := Lib.hid eb
  obtain ⟨T, eT⟩ : ∃ T, T = rowsT C a.cells b.cells := ⟨_, rfl⟩
  have ET := Lib.hid eT
  have HTL : Hid (∀ y, y ≤ R → (T y).1 ≤ 24 ∧ (T y).2.length ≤ 20000) := Lib.hid (fun y hy => by
    have h1 := rowsT_le C a.cells b.cells y
    have h2 := rowsT_length C a.cells b.cells y
    have h3 := Nat.mul_le_mul (show y ≤ 24 by have := HF.out.r2; omega) (show C * 9 + 1 ≤ 721 by have := HF.out.c2; omega)
    have := HF.out.r2
    rw [eT]; omega)
  have EZ9 : Hid (HH ++ [lo (T R).1] ++ (T R).2 = Z) := Lib.hid (by
    rw [← EZ.out, layB, EHD.out, HF.out.c, HF.out.r, eT, Int.toNat_natCast, Int.toNat_natCast, List.append_assoc]; rfl)
  clear hW9 eT HP0 HQ0 HRA HRB HB9 EZ EHH EHD
  go_upto_region 11 with (fail)
  rw [← eb]
  clear eb
  go_wp2_with (fail)
  go_loopw [9, 10, 11, 12] (fun v nn i z wr => ∃ y : Nat, y ≤ R ∧ i = .int .i64 y ∧ nn = .int .i64 ((T y).1 : Int) ∧ Hid (OwnB wr base v (T y).2) ∧ Hid (Below base W9 wr)) (fun _ _ i _ _ => R - (intOf i).toNat)
  case atStart => exact ⟨0, Nat.zero_le _, rfl, by rw [ET.out]; rfl, Lib.hid (by rw [ET.out]; exact HR9.out), HL9⟩
  case round =>
    obtain ⟨y, hy, rfl, rfl, HO, HK⟩ := hrel
    have hr2 : R ≤ 24 := HF.out.r2
    have hc2 : C ≤ 80 := HF.out.c2
    have HQ : Hid (ScB wr q b A n c L m cm) := Lib.hid ((HK.out.block q HBB.out.2.2).trans HQ9.out)
    have HP : Hid (ScB wr p a A1 n1 c1 L1 m1 k1) := Lib.hid ((HK.out.block p HBB.out.2.1).trans HP9.out)
    have HW : Hid (Below W9.heap.size W9 wr) := Lib.hid (by rw [← EBW.out]; exact HK.out)
    have HBW : Hid (base ≤ wr.heap.size) := Lib.hid (by rw [EBW.out]; exact HW.out.size)
    have x0 : wr.cell? ⟨q, 0, none⟩ = some (.int .i64 (C : Int)) := by rw [← HF.out.c]; exact HQ.out.nine.1
    have x1 : wr.cell? ⟨q, 1, none⟩ = some (.int .i64 (R : Int)) := by rw [← HF.out.r]; exact HQ.out.nine.2.1
    have x2 : wr.cell? ⟨q, 2, none⟩ = some (.slice A n c) := HQ.out.nine.2.2.1
    rcases Nat.lt_or_ge y R with hlt | hge
    · have hlt' : (y : Int) < (R : Int) := by omega
      have hle : (y + 1) * C ≤ C * R := by rw [Nat.mul_comm C R]; exact Nat.mul_le_mul_right C hlt
      have HLA : Hid ((y + 1) * C ≤ a.cells.length ∧ (y + 1) * C ≤ b.cells.length) := Lib.hid ⟨by rw [HAL.out]; exact hle, by rw [HF.out.len]; exact hle⟩
      have hmx : C * R ≤ 1920 := Nat.mul_le_mul hc2 hr2
      obtain ⟨l, el⟩ : ∃ l, l = y * C := ⟨_, rfl⟩
      have hl1 : (y + 1) * C = l + C := by rw [el, Nat.add_mul, Nat.one_mul]
      have hl2 : l + C ≤ 1920 := by omega
      have e1 : (y : Int) * (C : Int) = (l : Int) := by rw [el]; exact (Int.natCast_mul y C).symm
      have HLL : Hid (l + C ≤ n1 ∧ l + C ≤ n) := Lib.hid ⟨by rw [← HRA9.out.hn, ← hl1]; exact HLA.out.1, by rw [← HRB9.out.hn, ← hl1]; exact HLA.out.2⟩
      have ELL := Lib.hid el
      have HRL : Hid ((rowAt C y a.cells).length = C ∧ (rowAt C y b.cells).length = C) := Lib.hid ⟨rowAt_length HLA.out.1, rowAt_length HLA.out.2⟩
      obtain ⟨SB, eSB⟩ : ∃ t, sameC (rowAt C y a.cells) (rowAt C y b.cells) = t := ⟨_, rfl⟩
      have HSB := Lib.hid eSB
      have HRA2 := Lib.hid (HRA9.out.below HW.out)
      have HRB2 := Lib.hid (HRB9.out.below HW.out)
      have hls := e1
      clear hle hmx hl1 el eSB
      go_upto_region 15 with (fail)
      refine wp_region_rw 123 [Rl.eq (.pointer (some ⟨p, 2, none⟩)), Rl.eq (.slice A1 n1 c1), Rl.eq (.int .i64 (y : Int)), Rl.eq (.pointer (some ⟨q, 0, none⟩)), Rl.eq (.int .i64 (C : Int)), Rl.eq (.int .i64 (l : Int)), Rl.eq (.int .i64 (y : Int)), Rl.eq (.pointer (some ⟨q, 0, none⟩)), Rl.eq (.int .i64 (C : Int)), Rl.eq (.int .i64 (l : Int)), Rl.eq (.pointer (some ⟨q, 0, none⟩)), Rl.eq (.int .i64 (C : Int)), Rl.eq (.int .i64 ((l : Int) + (C : Int))), Rl.rdc C (rowAt C y a.cells), Rl.eq (.pointer (some ⟨q, 2, none⟩)), Rl.eq (.slice A n c), Rl.eq (.int .i64 (y : Int)), Rl.eq (.pointer (some ⟨q, 0, none⟩)), Rl.eq (.int .i64 (C : Int)), Rl.eq (.int .i64 (l : Int)), Rl.eq (.int .i64 (y : Int)), Rl.eq (.pointer (some ⟨q, 0, none⟩)), Rl.eq (.int .i64 (C : Int)), Rl.eq (.int .i64 (l : Int)), Rl.eq (.pointer (some ⟨q, 0, none⟩)), Rl.eq (.int .i64 (C : Int)), Rl.eq (.int .i64 ((l : Int) + (C : Int))), Rl.rdc C (rowAt C y b.cells), Rl.eq (.bool SB), Rl.eq (.bool (!SB))] [59, 60, 61, 62, 63, 64, 65, 66, 67, 68, 69, 70, 71, 72, 73, 74, 75, 76, 77, 78, 79, 80, 81, 82, 83, 84, 85, 86, 87, 88] (by kernel_rfl) rfl (by kernel_rfl) (by kernel_rfl) ?_ ?_
      · repeat (first | exact AllFrom.nil_ | (refine AllFrom.cons_ (by rfl) ?_ ?_; rotate_left))
        · intro f_ w' g_ hF hD
          have h3 : f_ 3 = .pointer (some ⟨p, 0, none⟩) := hF 3 (by kernel_rfl)
          rw [if_pos (wanted_none rfl)]
          clear hF hD
          exact gives_val (by simp only [execOp, evF, h3]; first | rfl | go_simp) ⟨Gr.refl _, rfl⟩
        · intro f_ w' g_ hF hD
          have h59 : f_ 59 = (.pointer (some ⟨p, 2, none⟩)) := hD 0 59 (by kernel_rfl) rfl
          rw [if_pos (wanted_none rfl)]
          clear hF hD
          have kg : Below wr.heap.size wr w' := (below_drewN (Below.refl _ _) 1).trans g_
          have cl : w'.cell? ⟨p, 2, none⟩ = some (.slice A1 n1 c1) := (HP.out.below kg).nine.2.2.1
          exact gives_val (by simp only [execOp, evF, h59]; go_simp) ⟨Gr.refl _, rfl⟩
        · intro f_ w' g_ hF hD
          have h11 : f_ 11 = .int .i64 (y : Int) := hF 11 (by kernel_rfl)
          rw [if_pos (wanted_none rfl)]
          clear hF hD
          exact gives_val (by simp only [execOp, evF, h11]; first | rfl | go_simp) ⟨Gr.refl _, rfl⟩
        · intro f_ w' g_ hF hD
          have h4 : f_ 4 = .pointer (some ⟨q, 0, none⟩) := hF 4 (by kernel_rfl)
          rw [if_pos (wanted_none rfl)]
          clear hF hD
          exact gives_val (by simp only [execOp, evF, h4]; first | rfl | go_simp) ⟨Gr.refl _, rfl⟩
        · intro f_ w' g_ hF hD
          have h62 : f_ 62 = (.pointer (some ⟨q, 0, none⟩)) := hD 3 62 (by kernel_rfl) rfl
          rw [if_pos (wanted_none rfl)]
          clear hF hD
          have kg : Below wr.heap.size wr w' := (below_drewN (Below.refl _ _) 1).trans g_
          have cl : w'.cell? ⟨q, 0, none⟩ = some (.int .i64 (C : Int)) := by rw [← HF.out.c]; exact (HQ.out.below kg).nine.1
          exact gives_val (by simp only [execOp, evF, h62]; go_simp) ⟨Gr.refl _, rfl⟩
        · intro f_ w' g_ hF hD
          have h61 : f_ 61 = (.int .i64 (y : Int)) := hD 2 61 (by kernel_rfl) rfl
          have h63 : f_ 63 = (.int .i64 (C : Int)) := hD 4 63 (by kernel_rfl) rfl
          rw [if_pos (wanted_none rfl)]
          clear hF hD
          exact gives_val (by simp only [execOp, evF, h61, h63]; go_simp; exact IntWalk.i64_in _ ⟨by omega, by omega⟩) ⟨Gr.refl _, rfl⟩
        · intro f_ w' g_ hF hD
          have h11 : f_ 11 = .int .i64 (y : Int) := hF 11 (by kernel_rfl)
          rw [if_pos (wanted_none rfl)]
          clear hF hD
          exact gives_val (by simp only [execOp, evF, h11]; first | rfl | go_simp) ⟨Gr.refl _, rfl⟩
        · intro f_ w' g_ hF hD
          have h4 : f_ 4 = .pointer (some ⟨q, 0, none⟩) := hF 4 (by kernel_rfl)
          rw [if_pos (wanted_none rfl)]
          clear hF hD
          exact gives_val (by simp only [execOp, evF, h4]; first | rfl | go_simp) ⟨Gr.refl _, rfl⟩
        · intro f_ w' g_ hF hD
          have h66 : f_ 66 = (.pointer (some ⟨q, 0, none⟩)) := hD 7 66 (by kernel_rfl) rfl
          rw [if_pos (wanted_none rfl)]
          clear hF hD
          have kg : Below wr.heap.size wr w' := (below_drewN (Below.refl _ _) 1).trans g_
          have cl : w'.cell? ⟨q, 0, none⟩ = some (.int .i64 (C : Int)) := by rw [← HF.out.c]; exact (HQ.out.below kg).nine.1
          exact gives_val (by simp only [execOp, evF, h66]; go_simp) ⟨Gr.refl _, rfl⟩
        · intro f_ w' g_ hF hD
          have h65 : f_ 65 = (.int .i64 (y : Int)) := hD 6 65 (by kernel_rfl) rfl
          have h67 : f_ 67 = (.int .i64 (C : Int)) := hD 8 67 (by kernel_rfl) rfl
          rw [if_pos (wanted_none rfl)]
          clear hF hD
          exact gives_val (by simp only [execOp, evF, h65, h67]; go_simp; exact IntWalk.i64_in _ ⟨by omega, by omega⟩) ⟨Gr.refl _, rfl⟩
        · intro f_ w' g_ hF hD
          have h4 : f_ 4 = .pointer (some ⟨q, 0, none⟩) := hF 4 (by kernel_rfl)
          rw [if_pos (wanted_none rfl)]
          clear hF hD
          exact gives_val (by simp only [execOp, evF, h4]; first | rfl | go_simp) ⟨Gr.refl _, rfl⟩
        · intro f_ w' g_ hF hD
          have h69 : f_ 69 = (.pointer (some ⟨q, 0, none⟩)) := hD 10 69 (by kernel_rfl) rfl
          rw [if_pos (wanted_none rfl)]
          clear hF hD
          have kg : Below wr.heap.size wr w' := (below_drewN (Below.refl _ _) 1).trans g_
          have cl : w'.cell? ⟨q, 0, none⟩ = some (.int .i64 (C : Int)) := by rw [← HF.out.c]; exact (HQ.out.below kg).nine.1
          exact gives_val (by simp only [execOp, evF, h69]; go_simp) ⟨Gr.refl _, rfl⟩
        · intro f_ w' g_ hF hD
          have h68 : f_ 68 = (.int .i64 (l : Int)) := hD 9 68 (by kernel_rfl) rfl
          have h70 : f_ 70 = (.int .i64 (C : Int)) := hD 11 70 (by kernel_rfl) rfl
          rw [if_pos (wanted_none rfl)]
          clear hF hD
          exact gives_val (by simp only [execOp, evF, h68, h70]; go_simp; exact IntWalk.i64_in _ ⟨by omega, by omega⟩) ⟨Gr.refl _, rfl⟩
        · intro f_ w' g_ hF hD
          have h60 : f_ 60 = (.slice A1 n1 c1) := hD 1 60 (by kernel_rfl) rfl
          have h64 : f_ 64 = (.int .i64 (l : Int)) := hD 5 64 (by kernel_rfl) rfl
          have h71 : f_ 71 = (.int .i64 ((l : Int) + (C : Int))) := hD 12 71 (by kernel_rfl) rfl
          rw [if_pos (wanted_none rfl)]
          clear hF hD
          have kg : Below wr.heap.size wr w' := (below_drewN (Below.refl _ _) 1).trans g_
          refine gives_cutC (.tmp 60) (.tmp 64) (.tmp 71) rfl A1 n1 c1 (by simp only [evF, h60, h64, h71]) (l : Int) ((l : Int) + (C : Int)) (by simp only [evF, h60, h64, h71]) (by simp only [evF, h60, h64, h71]) l (l + C) rfl (by push_cast; rfl) (Nat.le_add_right _ _) HLL.out.1 HRA2.out.nc a.cells HRA2.out.hn (RdC.below HRA2.out.rd kg) ?_
          intro A' hA'
          rw [Nat.add_sub_cancel_left] at hA' ⊢
          exact ⟨Gr.refl _, A', _, rfl, by rw [rowAt, ← ELL.out]; exact hA'⟩
        · intro f_ w' g_ hF hD
          have h4 : f_ 4 = .pointer (some ⟨q, 0, none⟩) := hF 4 (by kernel_rfl)
          rw [if_pos (wanted_none rfl)]
          clear hF hD
          exact gives_val (by simp only [execOp, evF, h4]; first | rfl | go_simp) ⟨Gr.refl _, rfl⟩
        · intro f_ w' g_ hF hD
          have h73 : f_ 73 = (.pointer (some ⟨q, 2, none⟩)) := hD 14 73 (by kernel_rfl) rfl
          rw [if_pos (wanted_none rfl)]
          clear hF hD
          have kg : Below wr.heap.size wr w' := (below_drewN (Below.refl _ _) 1).trans g_
          have cl : w'.cell? ⟨q, 2, none⟩ = some (.slice A n c) := (HQ.out.below kg).nine.2.2.1
          exact gives_val (by simp only [execOp, evF, h73]; go_simp) ⟨Gr.refl _, rfl⟩
        · intro f_ w' g_ hF hD
          have h11 : f_ 11 = .int .i64 (y : Int) := hF 11 (by kernel_rfl)
          rw [if_pos (wanted_none rfl)]
          clear hF hD
          exact gives_val (by simp only [execOp, evF, h11]; first | rfl | go_simp) ⟨Gr.refl _, rfl⟩
        · intro f_ w' g_ hF hD
          have h4 : f_ 4 = .pointer (some ⟨q, 0, none⟩) := hF 4 (by kernel_rfl)
          rw [if_pos (wanted_none rfl)]
          clear hF hD
          exact gives_val (by simp only [execOp, evF, h4]; first | rfl | go_simp) ⟨Gr.refl _, rfl⟩
        · intro f_ w' g_ hF hD
          have h76 : f_ 76 = (.pointer (some ⟨q, 0, none⟩)) := hD 17 76 (by kernel_rfl) rfl
          rw [if_pos (wanted_none rfl)]
          clear hF hD
          have kg : Below wr.heap.size wr w' := (below_drewN (Below.refl _ _) 1).trans g_
          have cl : w'.cell? ⟨q, 0, none⟩ = some (.int .i64 (C : Int)) := by rw [← HF.out.c]; exact (HQ.out.below kg).nine.1
          exact gives_val (by simp only [execOp, evF, h76]; go_simp) ⟨Gr.refl _, rfl⟩
        · intro f_ w' g_ hF hD
          have h75 : f_ 75 = (.int .i64 (y : Int)) := hD 16 75 (by kernel_rfl) rfl
          have h77 : f_ 77 = (.int .i64 (C : Int)) := hD 18 77 (by kernel_rfl) rfl
          rw [if_pos (wanted_none rfl)]
          clear hF hD
          exact gives_val (by simp only [execOp, evF, h75, h77]; go_simp; exact IntWalk.i64_in _ ⟨by omega, by omega⟩) ⟨Gr.refl _, rfl⟩
        · intro f_ w' g_ hF hD
          have h11 : f_ 11 = .int .i64 (y : Int) := hF 11 (by kernel_rfl)
          rw [if_pos (wanted_none rfl)]
          clear hF hD
          exact gives_val (by simp only [execOp, evF, h11]; first | rfl | go_simp) ⟨Gr.refl _, rfl⟩
        · intro f_ w' g_ hF hD
          have h4 : f_ 4 = .pointer (some ⟨q, 0, none⟩) := hF 4 (by kernel_rfl)
          rw [if_pos (wanted_none rfl)]
          clear hF hD
          exact gives_val (by simp only [execOp, evF, h4]; first | rfl | go_simp) ⟨Gr.refl _, rfl⟩
        · intro f_ w' g_ hF hD
          have h80 : f_ 80 = (.pointer (some ⟨q, 0, none⟩)) := hD 21 80 (by kernel_rfl) rfl
          rw [if_pos (wanted_none rfl)]
          clear hF hD
          have kg : Below wr.heap.size wr w' := (below_drewN (Below.refl _ _) 1).trans g_
          have cl : w'.cell? ⟨q, 0, none⟩ = some (.int .i64 (C : Int)) := by rw [← HF.out.c]; exact (HQ.out.below kg).nine.1
          exact gives_val (by simp only [execOp, evF, h80]; go_simp) ⟨Gr.refl _, rfl⟩
        · intro f_ w' g_ hF hD
          have h79 : f_ 79 = (.int .i64 (y : Int)) := hD 20 79 (by kernel_rfl) rfl
          have h81 : f_ 81 = (.int .i64 (C : Int)) := hD 22 81 (by kernel_rfl) rfl
          rw [if_pos (wanted_none rfl)]
          clear hF hD
          exact gives_val (by simp only [execOp, evF, h79, h81]; go_simp; exact IntWalk.i64_in _ ⟨by omega, by omega⟩) ⟨Gr.refl _, rfl⟩
        · intro f_ w' g_ hF hD
          have h4 : f_ 4 = .pointer (some ⟨q, 0, none⟩) := hF 4 (by kernel_rfl)
          rw [if_pos (wanted_none rfl)]
          clear hF hD
          exact gives_val (by simp only [execOp, evF, h4]; first | rfl | go_simp) ⟨Gr.refl _, rfl⟩
        · intro f_ w' g_ hF hD
          have h83 : f_ 83 = (.pointer (some ⟨q, 0, none⟩)) := hD 24 83 (by kernel_rfl) rfl
          rw [if_pos (wanted_none rfl)]
          clear hF hD
          have kg : Below wr.heap.size wr w' := (below_drewN (Below.refl _ _) 1).trans g_
          have cl : w'.cell? ⟨q, 0, none⟩ = some (.int .i64 (C : Int)) := by rw [← HF.out.c]; exact (HQ.out.below kg).nine.1
          exact gives_val (by simp only [execOp, evF, h83]; go_simp) ⟨Gr.refl _, rfl⟩
        · intro f_ w' g_ hF hD
          have h82 : f_ 82 = (.int .i64 (l : Int)) := hD 23 82 (by kernel_rfl) rfl
          have h84 : f_ 84 = (.int .i64 (C : Int)) := hD 25 84 (by kernel_rfl) rfl
          rw [if_pos (wanted_none rfl)]
          clear hF hD
          exact gives_val (by simp only [execOp, evF, h82, h84]; go_simp; exact IntWalk.i64_in _ ⟨by omega, by omega⟩) ⟨Gr.refl _, rfl⟩
        · intro f_ w' g_ hF hD
          have h74 : f_ 74 = (.slice A n c) := hD 15 74 (by kernel_rfl) rfl
          have h78 : f_ 78 = (.int .i64 (l : Int)) := hD 19 78 (by kernel_rfl) rfl
          have h85 : f_ 85 = (.int .i64 ((l : Int) + (C : Int))) := hD 26 85 (by kernel_rfl) rfl
          rw [if_pos (wanted_none rfl)]
          clear hF hD
          have kg : Below wr.heap.size wr w' := (below_drewN (Below.refl _ _) 1).trans g_
          refine gives_cutC (.tmp 74) (.tmp 78) (.tmp 85) rfl A n c (by simp only [evF, h74, h78, h85]) (l : Int) ((l : Int) + (C : Int)) (by simp only [evF, h74, h78, h85]) (by simp only [evF, h74, h78, h85]) l (l + C) rfl (by push_cast; rfl) (Nat.le_add_right _ _) HLL.out.2 HRB2.out.nc b.cells HRB2.out.hn (RdC.below HRB2.out.rd kg) ?_
          intro A' hA'
          rw [Nat.add_sub_cancel_left] at hA' ⊢
          exact ⟨Gr.refl _, A', _, rfl, by rw [rowAt, ← ELL.out]; exact hA'⟩
        · intro f_ w' g_ hF hD
          have q72 := hD 13 72 (by kernel_rfl) rfl
          have q86 := hD 27 86 (by kernel_rfl) rfl
          rw [if_pos (wanted_none rfl)]
          clear hF hD
          obtain ⟨A', c', e2, r2⟩ := q72
          obtain ⟨A'', c'', e3, r3⟩ := q86
          refine gives_func rfl Tryd.func89 (by kernel_rfl) rfl (by simp only [List.map_toArray, List.map_cons, List.map_nil, evF, e2, e3]) ((refSameC_c A' C c' (rowAt C y a.cells) A'' C c'' (rowAt C y b.cells) w' HRL.out.1 r2 HRL.out.2 r3 (by omega)).mono ?_)
          rintro e w'' ⟨rfl, hb⟩
          rw [HSB.out]
          exact ⟨_, rfl, hb, rfl⟩
        · intro f_ w' g_ hF hD
          have h87 : f_ 87 = (.bool SB) := hD 28 87 (by kernel_rfl) rfl
          rw [if_pos (wanted_none rfl)]
          clear hF hD
          exact gives_val (by simp only [execOp, evF, h87]; first | rfl | go_simp) ⟨Gr.refl _, rfl⟩
      intro f_ w2 gg hD
      have h88 : f_ 88 = .bool (!SB) := hD 29 88 rfl
      have kg : Below wr.heap.size wr w2 := (below_drewN (Below.refl _ _) 1).trans gg
      simp only [putAll, List.setIfInBounds_toArray, List.set_cons_zero, List.set_cons_succ, h88]
      generalize f_ 59 = d59
      generalize f_ 60 = d60
      generalize f_ 61 = d61
      generalize f_ 62 = d62
      generalize f_ 63 = d63
      generalize f_ 64 = d64
      generalize f_ 65 = d65
      generalize f_ 66 = d66
      generalize f_ 67 = d67
      generalize f_ 68 = d68
      generalize f_ 69 = d69
      generalize f_ 70 = d70
      generalize f_ 71 = d71
      generalize f_ 72 = d72
      generalize f_ 73 = d73
      generalize f_ 74 = d74
      generalize f_ 75 = d75
      generalize f_ 76 = d76
      generalize f_ 77 = d77
      generalize f_ 78 = d78
      generalize f_ 79 = d79
      generalize f_ 80 = d80
      generalize f_ 81 = d81
      generalize f_ 82 = d82
      generalize f_ 83 = d83
      generalize f_ 84 = d84
      generalize f_ 85 = d85
      generalize f_ 86 = d86
      generalize f_ 87 = d87
      have HO2 := Lib.hid (OwnB.below_ HO.out kg)
      have HK2 := Lib.hid (HK.out.trans (kg.mono HBW.out))
      have HQ2 := Lib.hid (HQ.out.below kg)
      have HW2 : Hid (Below W9.heap.size W9 w2) := Lib.hid (by rw [← EBW.out]; exact HK2.out)
      have HBW2 : Hid (base ≤ w2.heap.size) := Lib.hid (Nat.le_trans HBW.out kg.size)
      have HTY : Hid (T (y + 1) = if SB then T y else ((T y).1 + 1, (T y).2 ++ (lo y :: cellsB (rowAt C y b.cells)))) := Lib.hid (by rw [ET.out, rowsT, HSB.out])
      have hty : (T y).1 ≤ 24 := (HTL.out y hy).1
      clear hD gg kg h88 x0 x1 x2 HO HK HQ HP HW HBW
      cases SB
      rotate_left
      · go_wp2_with (fail)
        go_roundw
        case rel => exact ⟨y + 1, by omega, by go_num, by rw [HTY.out]; rfl, Lib.hid (by rw [HTY.out]; exact HO2.out), HK2⟩
        case measure => simp [intOf]; omega
      · have hwy : IntKind.u8.wrap (y : Int) = (y : Int) := IntWalk.u8_in _ ⟨by omega, by omega⟩
        have HLY : Hid (Value.int .u8 (y : Int) = bv (lo y)) := Lib.hid (int_lo (by rw [Nat.mod_eq_of_lt (by omega)]))
        go_upto_region 18 with (first
          | (at_builtin; (refine wpList_appB1 _ rfl (.tmp 91) (.tmp 94) rfl base _ _ rfl HO2.out (.int .u8 (y : Int)) rfl (lo y) HLY.out (by have := (HTL.out y hy).2; omega) HBW2.out ?_); intro v6 w6 h6 hg6 _; have hk6 : Below base w2 w6 := ((Below.refl _ _).alloc HBW2.out _).grown hg6 (Nat.le_trans HBW2.out (by simp)) (fun k e => (Own.lt HO2.out k e).1); have HO6 := Lib.hid h6; have HK6 := Lib.hid (HK2.out.trans hk6); have HBW6 : Hid (base ≤ w6.heap.size) := Lib.hid (Nat.le_trans HBW2.out hk6.size); clear h6 hg6 hk6))
        clear hwy
        have e1' := hls
        go_wp2_with (fail)
        go_loopw [9, 12] (fun v i wr => ∃ x : Nat, x ≤ C ∧ i = .int .i64 x ∧ Hid (OwnB wr base v ((T y).2 ++ (lo y :: cellsB ((rowAt C y b.cells).take x)))) ∧ Hid (Below base W9 wr)) (fun _ i _ => C - (intOf i).toNat)
        case atStart => exact ⟨0, Nat.zero_le _, rfl, Lib.hid HO6.out, HK6⟩
        case round =>
          obtain ⟨x, hx, rfl, HO, HK⟩ := hrel
          have HQ : Hid (ScB wr q b A n c L m cm) := Lib.hid ((HK.out.block q HBB.out.2.2).trans HQ9.out)
          have HW : Hid (Below W9.heap.size W9 wr) := Lib.hid (by rw [← EBW.out]; exact HK.out)
          have HBW : Hid (base ≤ wr.heap.size) := Lib.hid (by rw [EBW.out]; exact HW.out.size)
          have x0 : wr.cell? ⟨q, 0, none⟩ = some (.int .i64 (C : Int)) := by rw [← HF.out.c]; exact HQ.out.nine.1
          have x2 : wr.cell? ⟨q, 2, none⟩ = some (.slice A n c) := HQ.out.nine.2.2.1
          rcases Nat.lt_or_ge x C with hxl | hxg
          · have hxl' : (x : Int) < (C : Int) := by omega
            have hlx : l + x < b.cells.length := by have h1 := HLL.out.2; have h2 := HRB9.out.hn; omega
            obtain ⟨bb, off, hA, hbl, hcd⟩ := RdC.cellsAt (HRB9.out.below HW.out).rd (l + x) hlx
            subst hA
            obtain ⟨d, ed⟩ : ∃ d, d = b.cells[l + x] := ⟨_, rfl⟩
            rw [← ed] at hcd
            have HCD := Lib.hid hcd
            have HDN : Hid (CeN d) := Lib.hid (HCE.out d (by rw [ed]; exact List.getElem_mem _))
            have HTK : Hid (cellsB ((rowAt C y b.cells).take x) ++ cellB d = cellsB ((rowAt C y b.cells).take (x + 1))) := Lib.hid (by
              have hxr : x < (rowAt C y b.cells).length := by rw [HRL.out.2]; exact hxl
              have e5 : (rowAt C y b.cells)[x] = d := by rw [ed]; exact rowAt_get hxr ELL.out hlx
              rw [List.take_succ_eq_append_getElem hxr, cellsB_snoc, e5])
            have hidx : (l : Int) + (x : Int) < (n : Int) := by have h1 := HLL.out.2; omega
            have hidn : l + x < n := by have h1 := HLL.out.2; omega
            have HLN : Hid ((T y).2.length ≤ 20000 ∧ (cellsB ((rowAt C y b.cells).take x)).length ≤ 720) := Lib.hid ⟨(HTL.out y hy).2, by rw [cellsB_length, List.length_take]; omega⟩
            clear hlx hbl hcd ed
            go_wp2_with (first
              | (refine wpList_load_cells rfl 47 (.tmp 111) rfl ⟨bb, off + (l + x) * 6, none⟩ rfl d.cells d.val rfl _ (cells_load HCD.out) Tryd.underlying47 rfl (info_cell.trans rfl) ?_)
              | (go_at_call 90; (refine (cellBytes_c d wr HDN.out).mono ?_); rintro _ w7 ⟨v7, rfl, ho7, hb7⟩; obtain ⟨A7, c7, rfl, _, _, r7, _⟩ := OwnB.form ho7; rw [cellB_length]; have R7 := Lib.hid r7; have HO7 := Lib.hid (OwnB.below_ HO.out hb7); have HK7 := Lib.hid (HK.out.trans (hb7.mono HBW.out)); have HBW7 : Hid (base ≤ w7.heap.size) := Lib.hid (Nat.le_trans HBW.out hb7.size); clear ho7 hb7 r7)
              | (at_builtin; (refine wpList_appB _ rfl (.tmp 102) (.tmp 113) rfl base _ _ rfl HO7.out A7 9 c7 (cellB d) rfl (cellB_length d) R7.out (by have h1 := HLN.out.1; have h2 := HLN.out.2; simp only [List.length_append, List.length_cons]; omega) HBW7.out ?_); intro v8 w8 h8 hg8 _; have hk8 : Below base w7 w8 := (Below.refl _ _).grown hg8 HBW7.out (fun k e => (Own.lt HO7.out k e).1); have HO8 := Lib.hid h8; have HK8 := Lib.hid (HK7.out.trans hk8); clear h8 hg8 hk8))
            go_roundw
            case rel => exact ⟨x + 1, by omega, by go_num, Lib.hid (by have h := HO8.out; rw [List.append_assoc, List.cons_append, HTK.out] at h; exact h), HK8⟩
            case measure => simp [intOf]; omega
          · obtain rfl : C = x := by omega
            have hge' : ¬ ((C : Int) < (C : Int)) := by omega
            have HOE : Hid (OwnB wr base _ (T (y + 1)).2) := Lib.hid (by have h := HO.out; rw [List.take_of_length_le (by rw [HRL.out.2]; exact Nat.le_refl _)] at h; rw [HTY.out]; exact h)
            clear hxg hx HO
            go_wp2_with (fail)
            go_roundw
            case rel => exact ⟨y + 1, by omega, by go_num, by rw [HTY.out]; rfl, HOE, HK⟩
            case measure => simp [intOf]; omega
    · obtain rfl : R = y := by omega
      have hge' : ¬ ((R : Int) < (R : Int)) := by omega
      have htr : (T R).1 ≤ 24 := (HTL.out R (Nat.le_refl _)).1
      have hwn : IntKind.u8.wrap ((T R).1 : Int) = ((T R).1 : Int) := IntWalk.u8_in _ ⟨by omega, by omega⟩
      have HLN : Hid (Value.int .u8 ((T R).1 : Int) = bv (lo (T R).1)) := Lib.hid (int_lo (by rw [Nat.mod_eq_of_lt (by omega)]))
      have HO8 : Hid (OwnB wr B0 V8 HH) := Lib.hid (OwnB.below_ HO9.out HW.out)
      have HBZ : Hid (B0 ≤ wr.heap.size) := Lib.hid (Nat.le_trans HBB.out.1 HBW.out)
      have HBL : Hid (Below B0 W0 wr) := Lib.hid (HK9.out.trans (HW.out.mono (by have := HBB.out.1; have := EBW.out; omega)))
      have HVB : Hid (∀ j, V8.ownBlock = some j → j < base) := Lib.hid (fun j e => by have h := (Own.lt HO9.out j e).2; rw [EBW.out]; exact h)
      obtain ⟨A9, c9, e9, hn9, hm9, r9, hA9⟩ := OwnB.form HO.out
      have R9 := Lib.hid r9
      have HL9 : Hid ((T R).2.length ≤ 20000) := Lib.hid (HTL.out R (Nat.le_refl _)).2
      subst e9
      have HA9 := Lib.hid hA9
      clear hge hy r9 hA9 hn9 hm9
      go_wp2_with (first
        | (at_builtin; (refine wpList_appB1 _ rfl (.tmp 115) (.tmp 118) rfl B0 _ _ rfl HO8.out (.int .u8 ((T R).1 : Int)) rfl (lo (T R).1) HLN.out (by have := HHL.out; omega) HBZ.out ?_); intro v6 w6 h6 hg6 _; have hkr : Below wr.heap.size wr (wr.alloc (.cells #[.int .u8 ((T R).1 : Int)] 5)) := (Below.refl _ _).alloc (Nat.le_refl _) _; have HR6 : Hid (OwnB w6 base _ (T R).2) := Lib.hid (Own.frameK' (OwnB.below_ HO.out hkr) (fun j e => hg6.block j (Own.lt (OwnB.below_ HO.out hkr) j e).2 (fun e2 => by have h1 := HVB.out j e2.symm; have h2 := (Own.lt HO.out j e).1; omega))); have hk6 : Below B0 wr w6 := ((Below.refl _ _).alloc HBZ.out _).grown hg6 (Nat.le_trans HBZ.out (by simp)) (fun k e => (Own.lt HO8.out k e).1); have HO6 := Lib.hid h6; have HK6 := Lib.hid (HBL.out.trans hk6); have HZ6 : Hid (B0 ≤ w6.heap.size) := Lib.hid (Nat.le_trans HBZ.out hk6.size); clear h6 hg6 hk6 hkr)
        | (at_builtin; (refine wpList_appB _ rfl (.tmp 120) (.tmp 121) rfl B0 _ _ rfl HO6.out A9 (T R).2.length c9 (T R).2 rfl rfl (by obtain ⟨A', c', e', _, _, r', _⟩ := OwnB.form HR6.out; injection e' with e'; rw [e']; exact r') (by have h1 := HHL.out; have h2 := HL9.out; simp only [List.length_append, List.length_cons, List.length_nil]; omega) HZ6.out ?_); intro v7 w7 h7 hg7 _; have hk7 : Below B0 w6 w7 := (Below.refl _ _).grown hg7 HZ6.out (fun k e => (Own.lt HO6.out k e).1); have HO7 := Lib.hid h7; have HK7 := Lib.hid (HK6.out.trans hk7); clear h7 hg7 hk7))
      go_ret
      exact ⟨_, rfl, by rw [← EZ9.out]; exact Own.low HO7.out HB00.out.1, HB0.out.trans (HK7.out.mono HB00.out.1)⟩
end Go.Proofs.YtipofokinjkclaaDoor

namespace Go.Proofs.YtipofokinjkclaaDoor
open Go Go.RowKit Go.Lib

theorem ScO.sound {W : World} {s : ScD} {A : Option Addr} {n c : Nat} {L : Option Addr} {m cm : Nat} (h : ScO W s A n c L m cm) (h1 : n ≤ 60000) (h2 : m ≤ 60000) (h3 : s.title.size ≤ 1000000) : Sound s :=
  ⟨by rw [h.hn]; exact h1, by rw [h.hm]; exact h2, fun u hu => Nat.le_trans (h.us u hu) (by decide), fun d hd => by have := h.ce d hd; exact ⟨this.2.2.2.2.2.1, by have := this.2.2.2.2.2.2; omega⟩, h3, fun d hd => ⟨(h.ce d hd).2.2.1.1, (h.ce d hd).2.2.2.1.1⟩⟩
def Rl.scr (B : Nat) (s : ScD) : Rl := ⟨fun w v => ScrV w B s v, fun h g => h.below g⟩
end Go.Proofs.YtipofokinjkclaaDoor

namespace Go.Proofs.YtipofokinjkclaaDoor
open Go Go.RowKit Go.Lib

set_option maxRecDepth 100000 in
set_option maxHeartbeats 16000000 in
theorem refFull16_c (b : ScD) (A : Option Addr) (n c : Nat) (L : Option Addr) (m cm : Nat) (w : World) (hs : ScR w b A n c L m cm) (hc : ∀ d ∈ b.cells, CeOk d) (hm : 0 ≤ b.mouse) (hU : TabU w) :
    Calls Tryd.prog 23 #[.agg (scC b A n c L m cm)] w fun e w' => ∃ v, e = .returned (.tuple #[v, .int .i64 ((full16 b).2 : Int)]) ∧ OwnB w' w.heap.size v (full16 b).1 ∧ Below w.heap.size w w' := by
  obtain ⟨X, eX⟩ : ∃ X, X = scC b A n c L m cm := ⟨_, rfl⟩
  rw [← eX]
  obtain ⟨W0, eW0⟩ : ∃ W0, W0 = w.alloc (.cells X 25) := ⟨_, rfl⟩
  obtain ⟨p, ep⟩ : ∃ p, p = w.heap.size := ⟨_, rfl⟩
  have hb0 : Below w.heap.size w W0 := by rw [eW0]; exact (Below.refl _ _).alloc (Nat.le_refl _) _
  have HP0 : Hid (ScB W0 p b A n c L m cm) := Lib.hid (by rw [eW0, ep, eX]; exact heap_alloc_new _ _)
  have EW0 := Lib.hid eW0
  have EP := Lib.hid ep
  have HB0 := Lib.hid hb0
  have HR0 := Lib.hid (hs.below hb0)
  have HU0 := Lib.hid (hU.next hb0)
  have HCO := Lib.hid hc
  have HMO := Lib.hid hm
  clear hm
  obtain ⟨Z, eZ⟩ : ∃ Z, full16 b = Z := ⟨_, rfl⟩
  rw [eZ]
  unfold full16 at eZ
  clear eX eW0 ep hb0 hs hU hc
  obtain ⟨b1, e1⟩ : ∃ t, fit16 b = t := ⟨_, rfl⟩
  rw [e1] at eZ
  have E1 := Lib.hid e1
  have EZ := Lib.hid eZ
  clear eZ e1
  go_enter Tryd.func23, Tryd.ntmps23
  go_upto_region 1 with (fail)
  rw [← EW0.out, ← EP.out]
  cases b1
  · go_wp2_with (first
      | (refine wpList_load_row rfl 25 (.tmp 1) rfl p rfl 25 _ (0, 0) _ HP0.out Tryd.underlying25 rfl (info_sc.trans rfl) ?_)
      | (go_at_call 26; (refine (refFits16_c b A n c L m cm W0 HR0.out HMO.out HU0.out).mono ?_); rintro _ w1 ⟨rfl, hb1⟩; rw [E1.out]; have HB1 := Lib.hid (HB0.out.trans (hb1.mono HB0.out.size)); clear hb1))
    go_ret2
    exact ⟨_, by rw [← EZ.out] <;> rfl, by rw [← EZ.out]; exact Own.nil_ _ _ _, HB1.out⟩
  · obtain ⟨C, R, hf⟩ := fit16_of E1.out
    have HF := Lib.hid hf
    have HFI := Lib.hid hf.fits
    obtain ⟨N, eN⟩ : ∃ N, N = C * R := ⟨_, rfl⟩
    have HN := Lib.hid eN
    have HZ : Hid ((layB (blankS C R) b 4, 0) = Z) := Lib.hid (by rw [← EZ.out, hf.c, hf.r]; rfl)
    clear hf eN
    go_upto_region 4 with (first
      | (refine wpList_load_row rfl 25 (.tmp 1) rfl p rfl 25 _ (0, 0) _ HP0.out Tryd.underlying25 rfl (info_sc.trans rfl) ?_)
      | (go_at_call 26; (refine (refFits16_c b A n c L m cm W0 HR0.out HMO.out HU0.out).mono ?_); rintro _ w1 ⟨rfl, hb1⟩; rw [E1.out]; have HB1 := Lib.hid (HB0.out.trans (hb1.mono HB0.out.size)); have HR1 := Lib.hid (HR0.out.below hb1); have HP1 := Lib.hid (HP0.out.below hb1); have x0 : w1.cell? ⟨p, 0, none⟩ = some (.int .i64 (C : Int)) := by { rw [← HF.out.c]; exact HP1.out.nine.1 }; have x1 : w1.cell? ⟨p, 1, none⟩ = some (.int .i64 (R : Int)) := by { rw [← HF.out.r]; exact HP1.out.nine.2.1 }; clear hb1)
      | (go_at_call 35; (refine (refBlank15_c C R N w1 HFI.out HN.out).mono ?_); rintro _ w2 ⟨A2, c2, rfl, ho2, hb2⟩; have HS2 := Lib.hid (blank_read16 HFI.out HN.out ho2); have HB2 := Lib.hid (HB1.out.trans (hb2.mono HB1.out.size)); have HR2 := Lib.hid (HR1.out.below hb2); have HP2 := Lib.hid (HP1.out.below hb2); clear ho2 hb2)
      | (refine wpList_store_rowTo rfl 25 (.tmp 4) (.tmp 15) rfl rfl w2.heap.size (scC (blankS C R) A2 N c2 none 0 0) rfl rfl 25 _ (heap_alloc_new w2 _) (info_sc.trans rfl) rfl (sc_one _ _ _ _ _ _ _) ?_))
    generalize eX : World.alloc w2 _ = X3
    have hx : Below w2.heap.size w2 X3 := by rw [← eX]; exact (Below.refl _ _).alloc (Nat.le_refl _) _
    obtain ⟨old, hq2⟩ : ∃ old, X3.heap[w2.heap.size]? = some (.cells old 25 (0, 0)) := ⟨_, by rw [← eX]; exact heap_alloc_new _ _⟩
    obtain ⟨g, eg⟩ : ∃ g, g = w2.heap.size := ⟨_, rfl⟩
    obtain ⟨W3, eW3⟩ : ∃ W, W = X3.setRow w2.heap.size (scC (blankS C R) A2 N c2 none 0 0) := ⟨_, rfl⟩
    rw [← eW3, ← eg]
    have HG3 : Hid (ScB W3 g (blankS C R) A2 N c2 none 0 0) := Lib.hid (by rw [eW3, eg]; exact setRow_heap _ _ _ _ _ _ hq2)
    have hb3 : Below w2.heap.size w2 W3 := by rw [eW3]; exact below_setRow hx (Nat.le_refl _) _
    have HB3 := Lib.hid (HB2.out.trans (hb3.mono HB2.out.size))
    have HS3 := Lib.hid (HS2.out.below hb3)
    have HR3 := Lib.hid (HR2.out.below hb3)
    have HP3 := Lib.hid (HP2.out.below hb3)
    clear eX hx hq2 eg eW3 hb3 x0 x1
    go_wp2_with (first
      | (refine wpList_load_row rfl 25 (.tmp 4) rfl g rfl 25 _ (0, 0) _ HG3.out Tryd.underlying25 rfl (info_sc.trans rfl) ?_)
      | (refine wpList_load_row rfl 25 (.tmp 1) rfl p rfl 25 _ (0, 0) _ HP3.out Tryd.underlying25 rfl (info_sc.trans rfl) ?_)
      | (go_at_call 49; (refine (diff_c (blankS C R) b A2 N c2 none 0 0 A n c L m cm C R 4 W3 HS3.out HR3.out HF.out (HF.out.cen HCO.out) (by rw [HS3.out.hn, HN.out]) (by decide)).mono ?_); rintro _ w4 ⟨v4, rfl, ho4, hb4⟩; have HO4 := Lib.hid (Own.low ho4 HB3.out.size); have HB4 := Lib.hid (HB3.out.trans (hb4.mono HB3.out.size)); clear ho4 hb4))
    go_ret2
    exact ⟨_, by rw [← HZ.out] <;> rfl, by rw [← HZ.out]; exact HO4.out, HB4.out⟩
set_option maxRecDepth 100000 in
set_option maxHeartbeats 16000000 in
theorem refEnc16_c (a b : ScD) (A1 : Option Addr) (n1 c1 : Nat) (L1 : Option Addr) (m1 k1 : Nat) (A : Option Addr) (n c : Nat) (L : Option Addr) (m cm : Nat) (w : World) (ha : ScR w a A1 n1 c1 L1 m1 k1) (hs : ScR w b A n c L m cm) (hc : ∀ d ∈ b.cells, CeOk d) (hma : 0 ≤ a.mouse) (hm : 0 ≤ b.mouse) (hU : TabU w) :
    Calls Tryd.prog 21 #[.agg (scC a A1 n1 c1 L1 m1 k1), .agg (scC b A n c L m cm)] w fun e w' => ∃ v, e = .returned (.tuple #[v, .int .i64 ((enc16 a b).2 : Int)]) ∧ OwnB w' w.heap.size v (enc16 a b).1 ∧ Below w.heap.size w w' := by
  obtain ⟨X, eX⟩ : ∃ X, X = scC a A1 n1 c1 L1 m1 k1 := ⟨_, rfl⟩
  obtain ⟨Y, eY⟩ : ∃ Y, Y = scC b A n c L m cm := ⟨_, rfl⟩
  rw [← eX, ← eY]
  obtain ⟨W0, eW0⟩ : ∃ W0, W0 = (w.alloc (.cells X 25)).alloc (.cells Y 25) := ⟨_, rfl⟩
  obtain ⟨p, ep⟩ : ∃ p, p = w.heap.size := ⟨_, rfl⟩
  obtain ⟨q, eq⟩ : ∃ q, q = w.heap.size + 1 := ⟨_, rfl⟩
  have hb0 : Below w.heap.size w W0 := by rw [eW0]; exact ((Below.refl _ _).alloc (Nat.le_refl _) _).alloc (by simp) _
  have HP0 : Hid (ScB W0 p a A1 n1 c1 L1 m1 k1) := Lib.hid (by rw [eW0, ep, eX]; exact (Below.heap_alloc _ _ _ (by simp)).trans (heap_alloc_new _ _))
  have HQ0 : Hid (ScB W0 q b A n c L m cm) := Lib.hid (by rw [eW0, eq, eY]; exact heap_alloc2_new _ _ _)
  have EW0 := Lib.hid eW0
  have EP := Lib.hid ep
  have EQ := Lib.hid eq
  have HB0 := Lib.hid hb0
  have HA0 := Lib.hid (ha.below hb0)
  have HR0 := Lib.hid (hs.below hb0)
  have HU0 := Lib.hid (hU.next hb0)
  have HCO := Lib.hid hc
  have HMO := Lib.hid hm
  have HMA := Lib.hid hma
  clear hm hma
  obtain ⟨Z, eZ⟩ : ∃ Z, enc16 a b = Z := ⟨_, rfl⟩
  rw [eZ]
  unfold enc16 at eZ
  clear eX eY eW0 ep eq hb0 ha hs hU hc
  obtain ⟨b1, e1⟩ : ∃ t, fit16 a = t := ⟨_, rfl⟩
  obtain ⟨b2, e2⟩ : ∃ t, fit16 b = t := ⟨_, rfl⟩
  rw [e1, e2] at eZ
  have E1 := Lib.hid e1
  have E2 := Lib.hid e2
  have EZ := Lib.hid eZ
  clear eZ e1 e2
  go_enter Tryd.func21, Tryd.ntmps21
  go_upto_region 1 with (fail)
  rw [← EW0.out, ← EQ.out, ← EP.out]
  cases b1
  · go_wp2_with (first
      | (refine wpList_load_row rfl 25 (.tmp 2) rfl p rfl 25 _ (0, 0) _ HP0.out Tryd.underlying25 rfl (info_sc.trans rfl) ?_)
      | (go_at_call 26; (refine (refFits16_c a A1 n1 c1 L1 m1 k1 W0 HA0.out HMA.out HU0.out).mono ?_); rintro _ w1 ⟨rfl, hb1⟩; rw [E1.out]; have HB1 := Lib.hid (HB0.out.trans (hb1.mono HB0.out.size)); clear hb1))
    go_ret2
    exact ⟨_, by rw [← EZ.out] <;> rfl, by rw [← EZ.out]; exact Own.nil_ _ _ _, HB1.out⟩
  · cases b2
    · go_wp2_with (first
        | (refine wpList_load_row rfl 25 (.tmp 2) rfl p rfl 25 _ (0, 0) _ HP0.out Tryd.underlying25 rfl (info_sc.trans rfl) ?_)
        | ((with_reducible refine wpList_openG (o := ⟨some 10, _, _, _, _, _⟩) rfl ?_); (refine wpList_load_row rfl 25 (.tmp 3) rfl q rfl 25 _ (0, 0) _ HQ1.out Tryd.underlying25 rfl (info_sc.trans rfl) ?_))
        | (go_at_call 26; (refine (refFits16_c b A n c L m cm w1 HR1.out HMO.out HU1.out).mono ?_); rintro _ w2 ⟨rfl, hb2⟩; rw [E2.out]; have HB2 := Lib.hid (HB1.out.trans (hb2.mono HB1.out.size)); clear hb2)
        | (go_at_call 26; (refine (refFits16_c a A1 n1 c1 L1 m1 k1 W0 HA0.out HMA.out HU0.out).mono ?_); rintro _ w1 ⟨rfl, hb1⟩; rw [E1.out]; have HB1 := Lib.hid (HB0.out.trans (hb1.mono HB0.out.size)); have HR1 := Lib.hid (HR0.out.below hb1); have HQ1 := Lib.hid (HQ0.out.below hb1); have HU1 := Lib.hid (HU0.out.next hb1); clear hb1))
      go_ret2
      exact ⟨_, by rw [← EZ.out] <;> rfl, by rw [← EZ.out]; exact Own.nil_ _ _ _, HB2.out⟩
    · obtain ⟨C1, R1, hf1⟩ := fit16_of E1.out
      obtain ⟨C, R, hf⟩ := fit16_of E2.out
      have HF1 := Lib.hid hf1
      have HF := Lib.hid hf
      clear hf1 hf
      go_upto_if 13 with (first
        | (refine wpList_load_row rfl 25 (.tmp 2) rfl p rfl 25 _ (0, 0) _ HP0.out Tryd.underlying25 rfl (info_sc.trans rfl) ?_)
        | ((with_reducible refine wpList_openG (o := ⟨some 10, _, _, _, _, _⟩) rfl ?_); (refine wpList_load_row rfl 25 (.tmp 3) rfl q rfl 25 _ (0, 0) _ HQ1.out Tryd.underlying25 rfl (info_sc.trans rfl) ?_))
        | (go_at_call 26; (refine (refFits16_c b A n c L m cm w1 HR1.out HMO.out HU1.out).mono ?_); rintro _ w2 ⟨rfl, hb2⟩; rw [E2.out]; have HB2 := Lib.hid (HB1.out.trans (hb2.mono HB1.out.size)); have HR2 := Lib.hid (HR1.out.below hb2); have HA2 := Lib.hid (HA1.out.below hb2); have HQ2 := Lib.hid (HQ1.out.below hb2); have HP2 := Lib.hid (HP1.out.below hb2); have HU2 := Lib.hid (HU1.out.next hb2); clear hb2)
        | (go_at_call 26; (refine (refFits16_c a A1 n1 c1 L1 m1 k1 W0 HA0.out HMA.out HU0.out).mono ?_); rintro _ w1 ⟨rfl, hb1⟩; rw [E1.out]; have HB1 := Lib.hid (HB0.out.trans (hb1.mono HB0.out.size)); have HR1 := Lib.hid (HR0.out.below hb1); have HA1 := Lib.hid (HA0.out.below hb1); have HQ1 := Lib.hid (HQ0.out.below hb1); have HP1 := Lib.hid (HP0.out.below hb1); have HU1 := Lib.hid (HU0.out.next hb1); clear hb1))
      have x0 : w2.cell? ⟨p, 0, none⟩ = some (.int .i64 (C1 : Int)) := by rw [← HF1.out.c]; exact HP2.out.nine.1
      have x1 : w2.cell? ⟨p, 1, none⟩ = some (.int .i64 (R1 : Int)) := by rw [← HF1.out.r]; exact HP2.out.nine.2.1
      have y0 : w2.cell? ⟨q, 0, none⟩ = some (.int .i64 (C : Int)) := by rw [← HF.out.c]; exact HQ2.out.nine.1
      have y1 : w2.cell? ⟨q, 1, none⟩ = some (.int .i64 (R : Int)) := by rw [← HF.out.r]; exact HQ2.out.nine.2.1
      by_cases hC : C1 = C
      · have hC' : ((C1 : Int) == (C : Int)) = true := by rw [hC]; exact beq_self_eq_true _
        have hCn : ((C1 : Int) != (C : Int)) = false := by rw [bne, hC']; rfl
        by_cases hR : R1 = R
        · have hR' : ((R1 : Int) == (R : Int)) = true := by rw [hR]; exact beq_self_eq_true _
          have hRn : ((R1 : Int) != (R : Int)) = false := by rw [bne, hR']; rfl
          have HZ : Hid ((layB a b 0, 0) = Z) := Lib.hid (by rw [← EZ.out, HF1.out.c, HF1.out.r, HF.out.c, HF.out.r, hC', hR']; rfl)
          have HAL : Hid (a.cells.length = C * R) := Lib.hid (by rw [HF1.out.len, hC, hR])
          clear hC hR
          go_wp2_with (first
            | (refine wpList_load_row rfl 25 (.tmp 2) rfl p rfl 25 _ (0, 0) _ HP2.out Tryd.underlying25 rfl (info_sc.trans rfl) ?_)
            | (refine wpList_load_row rfl 25 (.tmp 3) rfl q rfl 25 _ (0, 0) _ HQ2.out Tryd.underlying25 rfl (info_sc.trans rfl) ?_)
            | (go_at_call 49; (refine (diff_c a b A1 n1 c1 L1 m1 k1 A n c L m cm C R 0 w2 HA2.out HR2.out HF.out (HF.out.cen HCO.out) HAL.out (by decide)).mono ?_); rintro _ w4 ⟨v4, rfl, ho4, hb4⟩; have HO4 := Lib.hid (Own.low ho4 HB2.out.size); have HB4 := Lib.hid (HB2.out.trans (hb4.mono HB2.out.size)); clear ho4 hb4))
          go_ret2
          exact ⟨_, by rw [← HZ.out] <;> rfl, by rw [← HZ.out]; exact HO4.out, HB4.out⟩
        · have hR' : ((R1 : Int) == (R : Int)) = false := by rw [beq_eq_false_iff_ne]; omega
          have hRn : ((R1 : Int) != (R : Int)) = true := by rw [bne, hR']; rfl
          have HZ : Hid (full16 b = Z) := Lib.hid (by rw [← EZ.out, HF1.out.c, HF1.out.r, HF.out.c, HF.out.r, hC', hR']; rfl)
          clear hC hR
          go_wp2_with (first
            | (refine wpList_load_row rfl 25 (.tmp 3) rfl q rfl 25 _ (0, 0) _ HQ2.out Tryd.underlying25 rfl (info_sc.trans rfl) ?_)
            | (go_at_call 23; (refine (refFull16_c b A n c L m cm w2 HR2.out HCO.out HMO.out HU2.out).mono ?_); rintro _ w4 ⟨v4, rfl, ho4, hb4⟩; have HO4 := Lib.hid (Own.low ho4 HB2.out.size); have HB4 := Lib.hid (HB2.out.trans (hb4.mono HB2.out.size)); clear ho4 hb4))
          go_ret2
          exact ⟨_, by rw [← HZ.out] <;> rfl, by rw [← HZ.out]; exact HO4.out, HB4.out⟩
      · have hC' : ((C1 : Int) == (C : Int)) = false := by rw [beq_eq_false_iff_ne]; omega
        have hCn : ((C1 : Int) != (C : Int)) = true := by rw [bne, hC']; rfl
        have HZ : Hid (full16 b = Z) := Lib.hid (by rw [← EZ.out, HF1.out.c, HF1.out.r, HF.out.c, HF.out.r, hC']; rfl)
        clear hC
        go_wp2_with (first
          | (refine wpList_load_row rfl 25 (.tmp 3) rfl q rfl 25 _ (0, 0) _ HQ2.out Tryd.underlying25 rfl (info_sc.trans rfl) ?_)
          | (go_at_call 23; (refine (refFull16_c b A n c L m cm w2 HR2.out HCO.out HMO.out HU2.out).mono ?_); rintro _ w4 ⟨v4, rfl, ho4, hb4⟩; have HO4 := Lib.hid (Own.low ho4 HB2.out.size); have HB4 := Lib.hid (HB2.out.trans (hb4.mono HB2.out.size)); clear ho4 hb4))
        go_ret2
        exact ⟨_, by rw [← HZ.out] <;> rfl, by rw [← HZ.out]; exact HO4.out, HB4.out⟩
end Go.Proofs.YtipofokinjkclaaDoor

