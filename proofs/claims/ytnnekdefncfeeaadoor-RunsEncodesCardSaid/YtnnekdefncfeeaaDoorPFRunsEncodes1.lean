/- Parts one behind the other: Further laws that RunsEncodes needs; What law 17's fixed answers; Plain: how long the diffs of layer 17 are; Plain: the places at which runs begin, and the runs by these; What the reference's vars (17) answers: numbers, one behind the other; numbers in a row of one's own. Conditions: as told at each. -/
import Derived.Test.YtnnekdefncfeeaaDoorPF1
import Derived.Test.YtnnekdefncfeeaaDoorPF2
import Derived.Test.YtnnekdefncfeeaaDoorPF3
import Derived.Test.YtnnekdefncfeeaaDoorPF4
import Derived.Test.YtnnekdefncfeeaaDoorPF5
import Derived.Test.YtnnekdefncfeeaaDoorPF6
import Derived.Test.YtnnekdefncfeeaaDoorPF7
import Derived.Test.YtnnekdefncfeeaaDoorPF8
import Derived.Test.YtnnekdefncfeeaaDoorPF9
import Derived.Test.YtnnekdefncfeeaaDoorPF10
import Derived.Test.YtnnekdefncfeeaaDoorPF11
import Derived.Test.YtnnekdefncfeeaaDoorPF12
import Derived.Test.YtnnekdefncfeeaaDoorPF13
import Derived.Test.YtnnekdefncfeeaaDoorPF14
import Derived.Test.YtnnekdefncfeeaaDoorPF15
import Derived.Test.YtnnekdefncfeeaaDoorPF16
import Derived.Test.YtnnekdefncfeeaaDoorPF17
import Derived.Test.YtnnekdefncfeeaaDoorPF18
import Derived.Test.YtnnekdefncfeeaaDoorPF19
import Derived.Laws.Rows
import Derived.Laws.Tables
import Derived.WalkKit
import Derived.Laws.BitsAllLaws
import Derived.BigRegion

set_option linter.unusedVariables false
set_option linter.unusedSimpArgs false
/- Further laws that RunsEncodes needs. Conditions: none. -/
namespace Go.Proofs.YtnnekdefncfeeaaDoor
open Go Go.RowKit Go.Lib

theorem sc_cells (s : ScD) (A : Option Addr) (n c : Nat) (L : Option Addr) (m cm : Nat) (A' : Option Addr) (c' : Nat) : (scC s A n c L m cm).setIfInBounds 2 (.slice A' n c') = scC s A' n c' L m cm := rfl
theorem sc_links (s : ScD) (A : Option Addr) (n c : Nat) (L : Option Addr) (m cm : Nat) (A' : Option Addr) (c' : Nat) : (scC s A n c L m cm).setIfInBounds 8 (.slice A' m c') = scC s A n c A' m c' := rfl
set_option maxRecDepth 100000 in
set_option maxHeartbeats 16000000 in
theorem refCopyS_c (s : ScD) (A : Option Addr) (n c : Nat) (L : Option Addr) (m cm : Nat) (w : World) (hs : ScR w s A n c L m cm) :
    Calls Tryd.prog 9 #[.agg (scC s A n c L m cm)] w fun e w' => ∃ A' c' L' cm', e = .returned (.agg (scC s A' n c' L' m cm')) ∧ OwnC w' w.heap.size (.slice A' n c') s.cells ∧ OwnT w' w.heap.size (.slice L' m cm') s.links ∧ (∀ a b, A' = some a → L' = some b → a.block ≠ b.block) ∧ Below w.heap.size w w' := by
  obtain ⟨X, eX⟩ : ∃ X, X = scC s A n c L m cm := ⟨_, rfl⟩
  rw [← eX]
  have EX := Lib.hid eX
  have HS := Lib.hid hs
  clear eX hs
  go_enter Tryd.func9, Tryd.ntmps9
  go_upto_region 1 with (fail)
  obtain ⟨W1, eW1⟩ : ∃ W1, W1 = (w.alloc (.cells X 25)).alloc (.cells (scC scZ none 0 0 none 0 0) 25) := ⟨_, rfl⟩
  obtain ⟨p, ep⟩ : ∃ p, p = w.heap.size := ⟨_, rfl⟩
  obtain ⟨q, eq⟩ : ∃ q, q = w.heap.size + 1 := ⟨_, rfl⟩
  have hb1 : Below w.heap.size w W1 := by rw [eW1]; exact ((Below.refl _ _).alloc (Nat.le_refl _) _).alloc (by simp) _
  have hp1 : ScB W1 p s A n c L m cm := by
    rw [eW1, ep, EX.out]
    exact (Below.heap_alloc _ _ _ (by simp)).trans (heap_alloc_new _ _)
  have hq1 : ScB W1 q scZ none 0 0 none 0 0 := by rw [eW1, eq]; exact heap_alloc2_new _ _ _
  have eW1' : (w.alloc (.cells X 25)).alloc (.cells #[.int .i64 0, .int .i64 0, .slice none 0 0, .int .i64 0, .int .i64 0, .bool false, .int .u8 0, .string { data := #[] }, .slice none 0 0] 25) = W1 := by rw [eW1]; rfl
  rw [eW1', ← eq, ← ep]
  have HB1 := Lib.hid hb1
  have HP1 := Lib.hid hp1
  have HQ1 := Lib.hid hq1
  have HR1 := Lib.hid (HS.out.below hb1)
  have HPQ : Hid (w.heap.size ≤ p ∧ w.heap.size ≤ q ∧ p ≠ q ∧ p < W1.heap.size ∧ q < W1.heap.size) := Lib.hid ⟨by omega, by omega, by omega, heap_lt hp1, heap_lt hq1⟩
  obtain ⟨x0, x1, x2, x3, x4, x5, x6, x7, x8⟩ := hp1.nine
  clear eW1 eW1' ep eq hb1 hp1 hq1 x0 x1 x3 x4 x5 x6 x7 x8
  have HO1 : Hid (OwnC (W1.alloc (.cells #[] 50)) W1.heap.size (.slice (some ⟨W1.heap.size, 0, none⟩) 0 0) []) := Lib.hid (OwnC.made W1)
  have HA1 : Hid (Below W1.heap.size W1 (W1.alloc (.cells #[] 50))) := Lib.hid ((Below.refl _ _).alloc (Nat.le_refl _) _)
  have z2 : (W1.alloc (.cells #[] 50)).cell? ⟨p, 2, none⟩ = some (.slice A n c) := (HA1.out.cell (p := ⟨p, 2, none⟩) HPQ.out.2.2.2.1).trans x2
  go_upto_region 2 with (at_builtin; go_must (refine wpList_appC _ rfl (.tmp 3) (.tmp 5) rfl W1.heap.size _ [] rfl HO1.out A n c s.cells rfl HR1.out.hn (HR1.out.below HA1.out).rd (by have := HR1.out.nl; simp only [List.length_nil]; omega) HA1.out.size ?_); intro v2 w2 q2 hg2 hv2; obtain ⟨A2, c2, rfl, _, _, _, ha2, _⟩ := q2.form; have HA2 := Lib.hid ha2; have HQ2 := Lib.hid q2; have HG2 := Lib.hid hg2; clear q2 hg2 hv2 ha2; have hb2 : Below W1.heap.size W1 w2 := HA1.out.grown HG2.out HA1.out.size (fun k e => by have e' : some W1.heap.size = some k := e; injection e' with e'; omega); have HB2 := Lib.hid hb2; have y2 : w2.cell? ⟨p, 2, none⟩ = some (.slice A n c) := (hb2.cell (p := ⟨p, 2, none⟩) HPQ.out.2.2.2.1).trans x2; have f2 : w2.frozen? ⟨p, 2, none⟩ = false := heap_free (HP1.out.below hb2) 2; clear hb2)
  rw [HR1.out.hn]
  obtain ⟨W3, eW3⟩ : ∃ W3, W3 = w2.setCell ⟨p, 2, none⟩ (.slice A2 n c2) := ⟨_, rfl⟩
  rw [← eW3]
  have hb3 : Below w.heap.size w W3 := by rw [eW3]; exact below_set (HB1.out.trans (HB2.out.mono HB1.out.size)) p _ _ HPQ.out.1
  have hp3 : ScB W3 p s A2 n c2 L m cm := by
    rw [eW3]
    have := heap_set (HP1.out.below HB2.out) 2 (.slice A2 n c2)
    rwa [sc_cells] at this
  have hq3 : ScB W3 q scZ none 0 0 none 0 0 := by
    rw [eW3]
    exact (heap_far _ (Ne.symm HPQ.out.2.2.1)).trans (HQ1.out.below HB2.out)
  have ho3 : OwnC W3 W1.heap.size (.slice A2 n c2) s.cells := by
    have h := HQ2.out
    rw [List.nil_append, HR1.out.hn] at h
    refine OwnC.keep h (fun g e => ?_)
    rw [eW3]
    exact heap_far _ (fun e2 => by have h1 := (OwnC.lt h g e).1; have h2 := HPQ.out.2.2.2.1; have e3 : g = p := e2; omega)
  have hsz3 : W3.heap.size = w2.heap.size := by rw [eW3]; simp [World.setCell]
  have HA3 : Hid (∀ a, A2 = some a → W1.heap.size ≤ a.block ∧ a.block < W3.heap.size) := Lib.hid (fun a e => ⟨(HA2.out a e).1, by rw [hsz3]; exact (HA2.out a e).2.1⟩)
  have HR3 := Lib.hid (HS.out.below hb3)
  obtain ⟨z0, z1, z2', z3, z4, z5, z6, z7, z8⟩ := hp3.nine
  have HB3 := Lib.hid hb3
  have HP3 := Lib.hid hp3
  have HQ3 := Lib.hid hq3
  have HO3 := Lib.hid ho3
  have HPQ3 : Hid (p < W3.heap.size ∧ q < W3.heap.size) := Lib.hid ⟨heap_lt hp3, heap_lt hq3⟩
  have HW1 : Hid (w.heap.size ≤ W1.heap.size) := Lib.hid HB1.out.size
  clear hb3 hp3 hq3 ho3 eW3 hsz3 z0 z1 z2' z3 z4 z5 z6 z7 x2 z2 y2 f2 HO1 HA1 HP1 HQ1 HB2 HG2 HQ2 HR1
  have HO3t : Hid (OwnT (W3.alloc (.cells #[] 9)) W3.heap.size (.slice (some ⟨W3.heap.size, 0, none⟩) 0 0) []) := Lib.hid (OwnT.made W3)
  have HA3t : Hid (Below W3.heap.size W3 (W3.alloc (.cells #[] 9))) := Lib.hid ((Below.refl _ _).alloc (Nat.le_refl _) _)
  have z9 : (W3.alloc (.cells #[] 9)).cell? ⟨p, 8, none⟩ = some (.slice L m cm) := (HA3t.out.cell (p := ⟨p, 8, none⟩) HPQ3.out.1).trans z8
  go_upto_region 3 with (at_builtin; go_must (refine wpList_appT _ rfl (.tmp 8) (.tmp 10) rfl W3.heap.size _ [] rfl HO3t.out L m cm s.links rfl HR3.out.hm (HR3.out.below HA3t.out).rt (by have := HR3.out.ml; simp only [List.length_nil]; omega) HA3t.out.size ?_); intro v4 w4 q4 hg4 hv4; obtain ⟨A4, c4, rfl, _, _, _, ha4⟩ := q4.form; have HA4 := Lib.hid ha4; have HQ4 := Lib.hid q4; have HG4 := Lib.hid hg4; clear q4 hg4 hv4 ha4; have hb4 : Below W3.heap.size W3 w4 := HA3t.out.grown HG4.out HA3t.out.size (fun k e => by have e' : some W3.heap.size = some k := e; injection e' with e'; omega); have HB4 := Lib.hid hb4; have y4 : w4.cell? ⟨p, 8, none⟩ = some (.slice L m cm) := (hb4.cell (p := ⟨p, 8, none⟩) HPQ3.out.1).trans z8; have f4 : w4.frozen? ⟨p, 8, none⟩ = false := heap_free (HP3.out.below hb4) 8; clear hb4)
  rw [HR3.out.hm]
  obtain ⟨W5, eW5⟩ : ∃ W5, W5 = w4.setCell ⟨p, 8, none⟩ (.slice A4 m c4) := ⟨_, rfl⟩
  rw [← eW5]
  have hb5 : Below w.heap.size w W5 := by rw [eW5]; exact below_set (HB3.out.trans (HB4.out.mono HB3.out.size)) p _ _ HPQ.out.1
  have hp5 : ScB W5 p s A2 n c2 A4 m c4 := by
    rw [eW5]
    have := heap_set (HP3.out.below HB4.out) 8 (.slice A4 m c4)
    rwa [sc_links] at this
  have hq5 : ScB W5 q scZ none 0 0 none 0 0 := by
    rw [eW5]
    exact (heap_far _ (Ne.symm HPQ.out.2.2.1)).trans (HQ3.out.below HB4.out)
  have ho5 : OwnC W5 W1.heap.size (.slice A2 n c2) s.cells := by
    refine OwnC.keep (OwnC.below HO3.out HB4.out) (fun g e => ?_)
    rw [eW5]
    exact heap_far _ (fun e2 => by have h1 := (OwnC.lt HO3.out g e).1; have h2 := HPQ.out.2.2.2.1; have e3 : g = p := e2; omega)
  have ht5 : OwnT W5 W3.heap.size (.slice A4 m c4) s.links := by
    have h := HQ4.out
    rw [List.nil_append, HR3.out.hm] at h
    refine Own.frameK' h (fun g e => ?_)
    rw [eW5]
    exact heap_far _ (fun e2 => by have h1 := (Own.lt h g e).1; have h2 := HPQ3.out.1; have e3 : g = p := e2; omega)
  have HD5 : Hid (∀ a b, A2 = some a → A4 = some b → a.block ≠ b.block) := Lib.hid (fun a b ea eb => by have h1 := (HA3.out a ea).2; have h2 := (HA4.out b eb).1; omega)
  have HB5 := Lib.hid hb5
  have HP5 := Lib.hid hp5
  have HQ5 := Lib.hid hq5
  have HO5 : Hid (OwnC W5 w.heap.size (.slice A2 n c2) s.cells) := Lib.hid (OwnC.low ho5 HW1.out)
  have HT5 : Hid (OwnT W5 w.heap.size (.slice A4 m c4) s.links) := Lib.hid (Own.low ht5 HB3.out.size)
  have HPQ5 : Hid (q < W1.heap.size ∧ q < W3.heap.size) := Lib.hid ⟨HPQ.out.2.2.2.2, HPQ3.out.2⟩
  have HOo := Lib.hid ho5
  have HTo := Lib.hid ht5
  clear hb5 hp5 hq5 ho5 ht5 eW5 z8 z9 y4 f4 HO3t HA3t HB3 HP3 HQ3 HO3 HB4 HQ4 HG4 HR3 HA4 HA3 HA2
  go_wp2_with (first
    | (refine wpList_load_row rfl 25 (.tmp 1) rfl p rfl 25 _ (0, 0) _ HP5.out Tryd.underlying25 rfl (info_sc.trans rfl) ?_)
    | (refine wpList_store_row rfl 25 (.tmp 2) (.tmp 13) rfl q (scC s A2 n c2 A4 m c4) rfl rfl 25 _ HQ5.out (info_sc.trans rfl) rfl (sc_one _ _ _ _ _ _ _) ?_))
  refine bodyPost_ret (v := .agg (scC s A2 n c2 A4 m c4)) (results_cell_row (p := 2) (ty := 25) rfl _ _ q 25 _ (0, 0) _ rfl (setRow_heap W5 q _ _ _ _ HQ5.out) Tryd.underlying25 rfl (info_sc.trans rfl)) rfl ?_
  have hk : ∀ g, g ≠ q → (W5.setRow q (scC s A2 n c2 A4 m c4)).heap[g]? = W5.heap[g]? := fun g e => setRow_other _ _ _ _ e
  exact ⟨A2, c2, A4, c4, rfl, OwnC.keep HO5.out (fun g e => hk g (by have h1 := (OwnC.lt HOo.out g e).1; have h2 := HPQ5.out.1; omega)), Own.frameK' HT5.out (fun g e => hk g (by have h1 := (Own.lt HTo.out g e).1; have h2 := HPQ5.out.2; omega)), HD5.out, below_setRow HB5.out HPQ.out.2.1 _⟩
end Go.Proofs.YtnnekdefncfeeaaDoor

namespace Go.Proofs.YtnnekdefncfeeaaDoor
open Go Go.RowKit

theorem u64_div {x : Nat} (h : U64 x) (d : Nat) : IntKind.u64.wrap ((x : Int) / (d : Int)) = (x : Int) / (d : Int) := by
  have h1 := h.out
  have h2 : x / d ≤ x := Nat.div_le_self _ _
  rw [← Int.natCast_ediv]
  generalize x / d = q at *
  simp only [IntKind.wrap_u64]; omega
end Go.Proofs.YtnnekdefncfeeaaDoor

namespace Go.Proofs.YtnnekdefncfeeaaDoor
open Go Go.RowKit

set_option maxRecDepth 100000 in
set_option maxHeartbeats 400000 in
theorem refVar_c (n : Nat) (w : World) (hn : U64 n) :
    Calls Tryd.prog 44 #[.int .u64 n] w fun e w' => ∃ v, e = .returned v ∧ OwnB w' w.heap.size v (varL n) ∧ Below w.heap.size w w' := by
  go_enter Tryd.func44, Tryd.ntmps44
  go_wp2
  go_loopw [0, 3] (fun m v wr => ∃ (x : Nat) (bs : List UInt8), m = .int .u64 x ∧ varL n = bs ++ varL x ∧ U64 x ∧ OwnB wr w.heap.size v bs ∧ Below w.heap.size w wr) (fun m v _ => (intOf m).toNat)
  case atStart => exact ⟨n, [], rfl, rfl, hn, World.ownsRow_made w #[] 0 (Nat.le_refl _) (Nat.zero_le _) rfl, (Below.refl _ _).alloc (Nat.le_refl _) _⟩
  case round =>
    obtain ⟨x, bs, rfl, hv, hx, hown, hb⟩ := hrel
    have hl := varStep_len hn hv
    have hz := hb.size
    have HV := Lib.hid hv; clear hv
    have hw : IntKind.u64.wrap ((x : Int) / 128) = (x : Int) / 128 := u64_div hx 128
    rcases Int.lt_or_le (x : Int) 128 with hlt | hle
    · have hq : (((x : Int) / 128) == 0) = true := by rw [beq_iff_eq]; omega
      go_wp2_with (first | (at_builtin; refine wpList_appB1 _ rfl (.tmp 8) (.tmp 11) rfl w.heap.size _ bs rfl hown _ rfl (lo x) ?_ (by omega) (by omega) ?_))
      · exact int_lo (by omega)
      · intro v' w' h1 h2 _
        go_wp2
        go_ret
        refine ⟨_, rfl, ?_, ?_⟩
        · rw [HV.out, varL_lo (by omega)]; exact h1
        · exact (hb.alloc (by omega) _).grown h2 (by simp; omega) (fun k hk => (hown.lt k hk).1)
    · have hq : (((x : Int) / 128) == 0) = false := by rw [beq_eq_false_iff_ne]; omega
      go_wp2_with (first | (at_builtin; refine wpList_appB1 _ rfl (.tmp 13) (.tmp 18) rfl w.heap.size _ bs rfl hown _ rfl (dig x) ?_ (by omega) (by omega) ?_))
      · unfold bv; rw [dig_nat]; congr 1
      · intro v' w' h1 h2 _
        go_wp2
        go_roundw
        case rel => exact ⟨x / 128, _, by go_num, varStep_hi HV.out (by omega), hx.le (by omega), h1, (hb.alloc (by omega) _).grown h2 (by simp; omega) (fun k hk => (hown.lt k hk).1)⟩
        case measure => simp [intOf]; omega
end Go.Proofs.YtnnekdefncfeeaaDoor

namespace Go.Proofs.YtnnekdefncfeeaaDoor
open Go Go.RowKit

set_option maxRecDepth 100000 in
set_option maxHeartbeats 400000 in
theorem refText_c (A : Option Addr) (n c : Nat) (bs : List UInt8) (w : World) (hn : bs.length = n) (hr : Rd w A (bs.map bv)) (hl : n ≤ 140737488355000) :
    Calls Tryd.prog 40 #[.slice A n c] w fun e w' => ∃ v, e = .returned (.tuple #[v, .int .i64 (if n ≤ 4096 then 0 else 4)]) ∧ OwnB w' w.heap.size v (if n ≤ 4096 then varL n ++ bs else []) ∧ Below w.heap.size w w' := by
  have HN := Lib.hid hn; clear hn
  rcases Nat.lt_or_ge 4096 n with h | h
  · have e1 : (if n ≤ 4096 then varL n ++ bs else []) = [] := if_neg (by omega)
    have e2 : (if n ≤ 4096 then (0 : Int) else 4) = 4 := if_neg (by omega)
    rw [e1, e2]
    clear e1 e2
    go_enter Tryd.func40, Tryd.ntmps40
    go_wp2
    go_ret2
    exact ⟨_, rfl, Own.nil_ _ _ _, Below.refl _ _⟩
  · have e1 : (if n ≤ 4096 then varL n ++ bs else []) = varL n ++ bs := if_pos (by omega)
    have e2 : (if n ≤ 4096 then (0 : Int) else 4) = 0 := if_pos (by omega)
    rw [e1, e2]
    clear e1 e2
    have hu : U64 n := Nat.lt_of_le_of_lt h (by decide)
    have hv := varL_len10 hu
    go_enter Tryd.func40, Tryd.ntmps40
    go_wp2_with (first | (go_at_call 44; refine (refVar_c _ _ hu).mono ?_; rintro e w1 ⟨v, rfl, ho, hb⟩; have hz := hb.size) | (at_builtin; refine wpList_appB _ rfl (.tmp 10) (.tmp 11) rfl w.heap.size _ (varL n) rfl ho A n c bs rfl HN.out (hr.below hb) (by omega) (by omega) ?_; intro v' w2 h1 h2 h3; have H1 := Lib.hid h1; clear h1))
    go_wp2
    go_ret2
    exact ⟨_, rfl, H1.out, hb.grown h2 (by omega) (fun k hk => (ho.lt k hk).1)⟩


end Go.Proofs.YtnnekdefncfeeaaDoor

namespace Go.Proofs.YtnnekdefncfeeaaDoor
open Go Go.RowKit Go.Lib

theorem ScO.sound {W : World} {s : ScD} {A : Option Addr} {n c : Nat} {L : Option Addr} {m cm : Nat} (h : ScO W s A n c L m cm) (h1 : n ≤ 60000) (h2 : m ≤ 60000) (h3 : s.title.size ≤ 1000000) : Sound s :=
  ⟨by rw [h.hn]; exact h1, by rw [h.hm]; exact h2, fun u hu => Nat.le_trans (h.us u hu) (by decide), fun d hd => by have := h.ce d hd; exact ⟨this.2.2.2.2.2.1, by have := this.2.2.2.2.2.2; omega⟩, h3, fun d hd => ⟨(h.ce d hd).2.2.1.1, (h.ce d hd).2.2.2.1.1⟩⟩
end Go.Proofs.YtnnekdefncfeeaaDoor


/- What law 17's fixed answers. Conditions: the tables lie where they were laid. -/
namespace Go.Proofs.YtnnekdefncfeeaaDoor
open Go Go.RowKit Go.Lib

structure Stays (S : Nat → Prop) (w w' : World) : Prop where
  os : w'.os = w.os
  tape : w'.tape = w.tape
  output : w'.output = w.output
  size : w.heap.size ≤ w'.heap.size
  block : ∀ k, k < w.heap.size → ¬ S k → w'.heap[k]? = w.heap[k]?
theorem Stays.refl (S : Nat → Prop) (w : World) : Stays S w w := ⟨rfl, rfl, rfl, Nat.le_refl _, fun _ _ _ => rfl⟩
theorem Stays.trans {S : Nat → Prop} {a b c : World} (h : Stays S a b) (k : Stays S b c) : Stays S a c :=
  ⟨k.os.trans h.os, k.tape.trans h.tape, k.output.trans h.output, Nat.le_trans h.size k.size, fun i hi hs => (k.block i (Nat.lt_of_lt_of_le hi h.size) hs).trans (h.block i hi hs)⟩
theorem Stays.of_below {w w' : World} (h : Below w.heap.size w w') (S : Nat → Prop) : Stays S w w' :=
  ⟨h.os, h.tape, h.output, h.size, fun k hk _ => h.block k hk⟩
theorem Stays.below {B : Nat} {S : Nat → Prop} {w w' : World} (h : Stays S w w') (hB : B ≤ w.heap.size) (hS : ∀ k, k < B → ¬ S k) : Below B w w' :=
  ⟨h.os, h.tape, h.output, h.size, fun k hk => h.block k (Nat.lt_of_lt_of_le hk hB) (hS k hk)⟩
theorem Stays.of_grown {r : Nat} {w w' : World} (h : w.grownBy w' (some r)) (S : Nat → Prop) (hS : S r) : Stays S w w' :=
  ⟨h.os, h.tape, h.output, h.size, fun k hk hs => h.block k hk (fun e => hs (by injection e with e; rw [e]; exact hS))⟩
theorem Stays.set (S : Nat → Prop) (w : World) (p : Addr) (u : Value) (h : S p.block) : Stays S w (w.setCell p u) :=
  ⟨rfl, rfl, rfl, by simp [World.setCell], fun k _ hs => heap_far u (fun e => hs (e ▸ h))⟩
theorem Stays.drewN {S : Nat → Prop} {w w' : World} (h : Stays S w w') (n : Nat) : Stays S w (w'.drewN n) := ⟨h.os, h.tape, h.output, h.size, h.block⟩
theorem Stays.alloc {S : Nat → Prop} {w w' : World} (h : Stays S w w') (o : Obj) : Stays S w (w'.alloc o) :=
  ⟨h.os, h.tape, h.output, Nat.le_trans h.size (by simp), fun k hk hs => (Below.heap_alloc w' o k (Nat.lt_of_lt_of_le hk h.size)).trans (h.block k hk hs)⟩
theorem six_stays (S : Nat → Prop) (w : World) (b a0 a1 a2 a3 a4 a5 : Nat) (u0 u1 u2 u3 u4 u5 : Value) (h : S b) :
    Stays S w ((((((w.setCell ⟨b, a0, none⟩ u0).setCell ⟨b, a1, none⟩ u1).setCell ⟨b, a2, none⟩ u2).setCell ⟨b, a3, none⟩ u3).setCell ⟨b, a4, none⟩ u4).setCell ⟨b, a5, none⟩ u5) :=
  (((((Stays.set S w ⟨b, a0, none⟩ u0 h).trans (Stays.set S _ ⟨b, a1, none⟩ u1 h)).trans (Stays.set S _ ⟨b, a2, none⟩ u2 h)).trans (Stays.set S _ ⟨b, a3, none⟩ u3 h)).trans (Stays.set S _ ⟨b, a4, none⟩ u4 h)).trans (Stays.set S _ ⟨b, a5, none⟩ u5 h)
theorem Stays.keepC {S : Nat → Prop} {w w' : World} {B : Nat} {v : Value} {ds : List CeD} (h : Stays S w w') (ho : OwnC w B v ds) (hS : ∀ g, v.ownBlock = some g → ¬ S g) : OwnC w' B v ds :=
  ho.keep (fun g e => h.block g (ho.lt g e).2 (hS g e))
theorem Stays.scB {S : Nat → Prop} {w w' : World} {g : Nat} {s : ScD} {A : Option Addr} {n c : Nat} {L : Option Addr} {m cm : Nat} (h : Stays S w w') (hs : ScB w g s A n c L m cm) (hg : ¬ S g) : ScB w' g s A n c L m cm :=
  (h.block g (heap_lt hs) hg).trans hs
theorem OwnC.grown {w w' : World} {B g n c r : Nat} {ds : List CeD} (ho : OwnC w B (.slice (some ⟨g, 0, none⟩) n c) ds) (hg : w.grownBy w' (some r)) (h : r ≠ g) : OwnC w' B (.slice (some ⟨g, 0, none⟩) n c) ds :=
  ho.keep (fun j ej => hg.block j (ho.lt j ej).2 (fun e => h (by injection e with e; injection ej with ej; exact (ej.trans e).symm)))
theorem ScB.grown {w w' : World} {p r : Nat} {s : ScD} {A : Option Addr} {n c : Nat} {L : Option Addr} {m cm : Nat} (hs : ScB w p s A n c L m cm) (hg : w.grownBy w' (some r)) (h : p ≠ r) : ScB w' p s A n c L m cm :=
  (hg.block p (heap_lt hs) (fun e => h (by injection e))).trans hs

def fxCs17 : List CeD := [blankD, ⟨97, 0, 0, 0, 0, 0⟩, ⟨98, 0, 0, 0, 0, 0⟩]
def fxS17 : ScD := ⟨3, 1, fxCs17, 0, 0, false, 0, ⟨#[]⟩, []⟩
set_option maxRecDepth 100000 in
theorem fx17_fit : fit17 (blankS 3 1) = true ∧ fit17 fxS17 = true := by constructor <;> kernel_rfl
theorem fx17_runs : runsD (blankS 3 1).cells fxCs17 = (1, [1, 2, 0, 0, 0, 97, 98]) := by
  rw [show (blankS 3 1).cells = [blankD, blankD, blankD] from rfl]
  simp [runsD, fxCs17, runsG, runEnd, cellEq, penEq, runB, runesB, varL_lo, blankD]
  decide
theorem fx17_enc : enc17 (blankS 3 1) fxS17 = ([5, 1, 1, 2, 0, 0, 0, 97, 98], 0) := by
  have e1 : celB (blankS 3 1) fxS17 = [5, 1, 1, 2, 0, 0, 0, 97, 98] := by
    unfold celB
    rw [show fxS17.cells = fxCs17 from rfl, fx17_runs]
    simp [varL_lo]
    decide
  unfold enc17 lay17
  have e2 : curB (blankS 3 1) fxS17 = [] := by kernel_rfl
  have e3 : titB17 (blankS 3 1) fxS17 = [] := by kernel_rfl
  have e4 : mouB (blankS 3 1) fxS17 = [] := by kernel_rfl
  have e5 : ((blankS 3 1).cols == fxS17.cols && (blankS 3 1).rows == fxS17.rows) = true := by kernel_rfl
  rw [fx17_fit.1, fx17_fit.2, e1, e2, e3, e4, e5]
  rfl
theorem refBlank31 (w : World) : Calls Tryd.prog 19 #[.int .i64 3, .int .i64 1] w fun e w' => ∃ b c', e = .returned (.tuple #[.agg (scC (blankS 3 1) (some ⟨b, 0, none⟩) 3 c' none 0 0), .int .i64 0]) ∧ OwnC w' w.heap.size (.slice (some ⟨b, 0, none⟩) 3 c') [blankD, blankD, blankD] ∧ Below w.heap.size w w' := by
  refine (refBlank15_c 3 1 3 w (by kernel_rfl) rfl).mono ?_
  rintro e w' ⟨A', c', he, ho, hb⟩
  obtain ⟨b, rfl⟩ := own_at ho (by simp)
  exact ⟨b, c', he, ho, hb⟩
theorem fx17_ok : (∀ d ∈ (blankS 3 1).cells, CeOk d) ∧ (∀ d ∈ fxS17.cells, CeOk d) := by
  have h1 : CeOk blankD := by unfold CeOk blankD; decide
  have h2 : CeOk ⟨97, 0, 0, 0, 0, 0⟩ := by unfold CeOk; decide
  have h3 : CeOk ⟨98, 0, 0, 0, 0, 0⟩ := by unfold CeOk; decide
  constructor
  · intro d hd
    rw [List.eq_of_mem_replicate hd]; exact h1
  · intro d hd
    rcases List.mem_cons.1 hd with rfl | hd
    · exact h1
    · rcases List.mem_cons.1 hd with rfl | hd
      · exact h2
      · rw [List.mem_singleton] at hd; subst hd; exact h3
theorem fx17_sound : Sound fxS17 := ⟨by decide, Nat.zero_le _, fun u hu => (by cases hu), fun d hd => by have := (fx17_ok.2 d hd).2.2.2.2.2; exact ⟨this.1, by omega⟩, Nat.zero_le _, fun d hd => ⟨(fx17_ok.2 d hd).2.2.1.1, (fx17_ok.2 d hd).2.2.2.1.1⟩⟩
set_option maxRecDepth 100000 in
set_option maxHeartbeats 16000000 in
theorem fixed17_c (w : World) (hU : TabU w) : Calls Tryd.prog 8 #[] w fun e w' => e = .returned (.bool true) ∧ Below w.heap.size w w' := by
  have HU := Lib.hid hU
  clear hU
  go_enter Tryd.func8, Tryd.ntmps8
  go_upto_region 2 with (first
    | (go_at_call 19; (refine (refBlank31 w).mono ?_); rintro _ w1 ⟨b, c1, rfl, ho1, hb1⟩; have HO1 := Lib.hid ho1; have HB1 := Lib.hid hb1; clear ho1 hb1)
    | (refine wpList_store_rowTo rfl 25 (.tmp 1) (.tmp 9) rfl rfl w1.heap.size (scC (blankS 3 1) (some ⟨b, 0, none⟩) 3 c1 none 0 0) rfl rfl 25 _ (heap_alloc_new w1 _) (info_sc.trans rfl) rfl (sc_one _ _ _ _ _ _ _) ?_))
  generalize eX : World.alloc w1 _ = X
  have hx : Below w1.heap.size w1 X := by rw [← eX]; exact (Below.refl _ _).alloc (Nat.le_refl _) _
  obtain ⟨old, hq2⟩ : ∃ old, X.heap[w1.heap.size]? = some (.cells old 25 (0, 0)) := ⟨_, by rw [← eX]; exact heap_alloc_new _ _⟩
  obtain ⟨g, eg⟩ : ∃ g, g = w1.heap.size := ⟨_, rfl⟩
  obtain ⟨W2, eW⟩ : ∃ W2, W2 = X.setRow w1.heap.size (scC (blankS 3 1) (some ⟨b, 0, none⟩) 3 c1 none 0 0) := ⟨_, rfl⟩
  rw [← eW, ← eg]
  have hg : ScB W2 g (blankS 3 1) (some ⟨b, 0, none⟩) 3 c1 none 0 0 := by rw [eW, eg]; exact setRow_heap _ _ _ _ _ _ hq2
  have hb : Below w1.heap.size w1 W2 := by rw [eW]; exact below_setRow hx (Nat.le_refl _) _
  have HGW2 := Lib.hid hg
  have HKW2 := Lib.hid hb
  have HLW2 : Hid (g = w1.heap.size) := Lib.hid eg
  clear eX hx hq2 eg eW hg hb
  have HO2 := Lib.hid (OwnC.below HO1.out HKW2.out)
  have HB2 := Lib.hid (HB1.out.trans (HKW2.out.mono HB1.out.size))
  go_upto_region 3 with (first
    | (go_at_call 19; (refine (refBlank31 W2).mono ?_); rintro _ w3 ⟨d, c3, rfl, ho3, hb3⟩; have HO3 := Lib.hid ho3; have HQ3 := Lib.hid hb3; clear ho3 hb3)
    | (refine wpList_store_rowTo rfl 25 (.tmp 3) (.tmp 13) rfl rfl w3.heap.size (scC (blankS 3 1) (some ⟨d, 0, none⟩) 3 c3 none 0 0) rfl rfl 25 _ (heap_alloc_new w3 _) (info_sc.trans rfl) rfl (sc_one _ _ _ _ _ _ _) ?_))
  generalize eX : World.alloc w3 _ = X
  have hx : Below w3.heap.size w3 X := by rw [← eX]; exact (Below.refl _ _).alloc (Nat.le_refl _) _
  obtain ⟨old, hq2⟩ : ∃ old, X.heap[w3.heap.size]? = some (.cells old 25 (0, 0)) := ⟨_, by rw [← eX]; exact heap_alloc_new _ _⟩
  obtain ⟨q, eg⟩ : ∃ g, g = w3.heap.size := ⟨_, rfl⟩
  obtain ⟨W4, eW⟩ : ∃ W2, W2 = X.setRow w3.heap.size (scC (blankS 3 1) (some ⟨d, 0, none⟩) 3 c3 none 0 0) := ⟨_, rfl⟩
  rw [← eW, ← eg]
  have hg : ScB W4 q (blankS 3 1) (some ⟨d, 0, none⟩) 3 c3 none 0 0 := by rw [eW, eg]; exact setRow_heap _ _ _ _ _ _ hq2
  have hb : Below w3.heap.size w3 W4 := by rw [eW]; exact below_setRow hx (Nat.le_refl _) _
  have HGW4 := Lib.hid hg
  have HKW4 := Lib.hid hb
  have HLW4 : Hid (q = w3.heap.size) := Lib.hid eg
  clear eX hx hq2 eg eW hg hb
  have HO4 := Lib.hid (OwnC.below HO3.out HKW4.out)
  have HK4 := Lib.hid (HQ3.out.trans (HKW4.out.mono HQ3.out.size))
  have HB4 := Lib.hid (HB2.out.trans (HK4.out.mono HB2.out.size))
  have HG4 := Lib.hid (HGW2.out.below HK4.out)
  have HOB4 := Lib.hid (OwnC.below HO2.out HK4.out)
  have HD : Hid (g < d ∧ d < q ∧ b < d ∧ w.heap.size ≤ d) := Lib.hid ⟨by have h1 := heap_lt HGW2.out; have h2 := (OwnC.lt HO3.out d rfl).1; omega, by rw [HLW4.out]; exact (OwnC.lt HO3.out d rfl).2, by have h1 := (OwnC.lt HO2.out b rfl).2; have h2 := (OwnC.lt HO3.out d rfl).1; omega, by have h1 := HB2.out.size; have h2 := (OwnC.lt HO3.out d rfl).1; omega⟩
  have x2 : W4.cell? ⟨q, 2, none⟩ = some (.slice (some ⟨d, 0, none⟩) 3 c3) := HGW4.out.nine.2.2.1
  obtain ⟨y6, -, -, -, -, -⟩ := HO4.out.six 1 (by decide)
  obtain ⟨y12, -, -, -, -, -⟩ := HO4.out.six 2 (by decide)
  have f6 := HO4.out.free 6
  have f12 := HO4.out.free 12
  simp only [Nat.one_mul, Nat.zero_add, Nat.reduceMul, Nat.reduceAdd] at y6 y12
  go_upto_region 3 with (fail)
  go_region
  clear f6 f12 y6 y12 x2
  obtain ⟨W5, eW5⟩ : ∃ W, W = ((W4.setCell ⟨d, 6, none⟩ (.int .i32 97)).setCell ⟨d, 12, none⟩ (.int .i32 98)).drew := ⟨_, rfl⟩
  rw [← eW5]
  have HK5 : Hid (Stays (fun k => k = d) W4 W5) := Lib.hid (by
    rw [eW5]
    exact ((Stays.set (fun k => k = d) W4 ⟨d, 6, none⟩ (.int .i32 97) rfl).trans (Stays.set (fun k => k = d) _ ⟨d, 12, none⟩ (.int .i32 98) rfl)).drewN 1)
  have HO5 : Hid (OwnC W5 W2.heap.size (.slice (some ⟨d, 0, none⟩) 3 c3) fxCs17) := Lib.hid (by
    rw [eW5]
    have h := (HO4.out.rune 1 (by decide) 97).rune 2 (by decide) 98
    exact OwnC.below h (below_drewN (Below.refl _ _) 1))
  have HG5 : Hid (ScB W5 g (blankS 3 1) (some ⟨b, 0, none⟩) 3 c1 none 0 0) := Lib.hid (HK5.out.scB HG4.out (by have := HD.out; omega))
  have HQ5 : Hid (ScB W5 q fxS17 (some ⟨d, 0, none⟩) 3 c3 none 0 0) := Lib.hid (HK5.out.scB HGW4.out (by have := HD.out; omega))
  have HOB5 : Hid (OwnC W5 w.heap.size (.slice (some ⟨b, 0, none⟩) 3 c1) [blankD, blankD, blankD]) := Lib.hid (HK5.out.keepC HOB4.out (fun j ej => by injection ej with ej; have := HD.out; have : b = j := ej; omega))
  have HB5 : Hid (Below w.heap.size w W5) := Lib.hid (HB4.out.trans (HK5.out.below HB4.out.size (fun k hk e => by have := HD.out; omega)))
  have HR5 : Hid (ScR W5 (blankS 3 1) (some ⟨b, 0, none⟩) 3 c1 none 0 0) := Lib.hid ((blank_sound16 (C := 3) (R := 1) (by kernel_rfl)).read HOB5.out (World.ownsRow_nil _ 0 _ _))
  have HS5 : Hid (ScR W5 fxS17 (some ⟨d, 0, none⟩) 3 c3 none 0 0) := Lib.hid (fx17_sound.read HO5.out (World.ownsRow_nil _ 0 _ _))
  have HU5 := Lib.hid (HU.out.next HB5.out)
  clear eW5
  go_upto_region 5 with (first
    | (refine wpList_load_row rfl 25 (.tmp 1) rfl g rfl 25 _ (0, 0) _ HG5.out Tryd.underlying25 rfl (info_sc.trans rfl) ?_)
    | (refine wpList_load_row rfl 25 (.tmp 3) rfl q rfl 25 _ (0, 0) _ HQ5.out Tryd.underlying25 rfl (info_sc.trans rfl) ?_)
    | (go_at_call 10; (refine (enc17_c (blankS 3 1) fxS17 (some ⟨b, 0, none⟩) 3 c1 none 0 0 (some ⟨d, 0, none⟩) 3 c3 none 0 0 W5 HR5.out HS5.out fx17_ok.2 (by decide) HU5.out).mono ?_); rintro _ w6 ⟨v6, rfl, ho6, hb6⟩; rw [fx17_enc] at ho6 ⊢; obtain ⟨A6, k6, rfl, _, _, hr6, _⟩ := OwnB.form ho6; have HR6 := Lib.hid hr6; have HB6 := Lib.hid (HB5.out.trans (hb6.mono HB5.out.size)); clear ho6 hb6 hr6))
  go_wp2_with (first
    | (go_at_call 14; (refine (Same_t A6 (some ⟨w6.heap.size, 0, none⟩) 9 9 k6 9 [5, 1, 1, 2, 0, 0, 0, 97, 98] _ rfl rfl (HR6.out.below ((Below.refl _ _).alloc (Nat.le_refl _) _)) (rd_lit _ _ _ (by kernel_rfl) (by decide)) (by decide)).mono ?_); rintro _ w7 ⟨rfl, q7, rfl⟩))
  go_ret
  exact ⟨rfl, below_drewN (HB6.out.alloc HB6.out.size _) _⟩
end Go.Proofs.YtnnekdefncfeeaaDoor


/- Plain: how long the diffs of layer 17 are. Conditions: none. -/
namespace Go.Proofs.YtnnekdefncfeeaaDoor
open Go Go.RowKit Go.Lib

theorem varLlenL {n : Nat} (h : n ≤ 4294967295) : (varL n).length ≤ 10 := varL_len10 (u64_small h)
theorem runB_lenL {g : Nat} {y : CeD} {l : List CeD} (hg : g ≤ 1000000) (hl : l.length ≤ 1000000) (hy : CeOk y) (hc : ∀ d ∈ l, d.r ≤ 2147483647) : (runB g y l).length ≤ 50 + l.length * 10 := by
  obtain ⟨_, _, h1, h2, h3, _⟩ := hy
  have e1 := varLlenL (n := g) (by omega)
  have e2 := varLlenL (n := l.length) (by omega)
  have e3 := varLlenL (n := y.fg.toNat) (by omega)
  have e4 := varLlenL (n := y.bg.toNat) (by omega)
  have e5 := varLlenL (n := y.at_.toNat) (by omega)
  have e6 : (runesB l).length ≤ l.length * 10 := by
    clear hl e2
    induction l with
    | nil => exact Nat.le_refl _
    | cons a l ih =>
      have k1 := varLlenL (n := a.r.toNat) (by have := hc a List.mem_cons_self; omega)
      have k2 := ih (fun x hx => hc x (List.mem_cons_of_mem _ hx))
      simp only [runesB, List.flatMap_cons, List.length_append, List.length_cons] at k2 ⊢
      omega
  unfold runB
  simp only [List.length_append]
  omega
theorem runsG_lenL : ∀ (f g : Nat) (a b : List CeD), (∀ d ∈ b, CeOk d) → g + b.length ≤ 1000000 → (runsG f g a b).2.length ≤ b.length * 60
  | 0, _, _, _, _, _ => Nat.zero_le _
  | f + 1, g, [], [], _, _ => Nat.zero_le _
  | f + 1, g, [], _ :: _, _, _ => Nat.zero_le _
  | f + 1, g, _ :: _, [], _, _ => Nat.zero_le _
  | f + 1, g, x :: a, y :: b, hc, hg => by
    rw [List.length_cons] at hg
    rw [runsG, List.length_cons]
    split
    · have ih := runsG_lenL f (g + 1) a b (fun d hd => hc d (List.mem_cons_of_mem _ hd)) (by omega)
      omega
    · obtain ⟨k, ek⟩ : ∃ k, runEnd y a b = k := ⟨_, rfl⟩
      have hk := (runEnd_le y a b).1
      rw [ek] at hk
      rw [ek]
      have ih := runsG_lenL f 0 (a.drop k) (b.drop k) (fun d hd => hc d (List.mem_cons_of_mem _ (List.mem_of_mem_drop hd))) (by rw [List.length_drop]; omega)
      have h2 := runB_lenL (g := g) (y := y) (l := y :: b.take k) (by omega) (by rw [List.length_cons, List.length_take]; omega) (hc y List.mem_cons_self) (fun d hd => by
        rcases List.mem_cons.1 hd with rfl | hd
        · exact (hc _ List.mem_cons_self).1.2
        · exact (hc d (List.mem_cons_of_mem _ (List.mem_of_mem_take hd))).1.2)
      rw [List.length_cons, List.length_take] at h2
      rw [List.length_drop] at ih
      simp only [List.length_append]
      omega
theorem lay17_lenL {a b : ScD} {C R : Nat} (hf : Fit17 b C R) (hc : ∀ d ∈ b.cells, CeOk d) : (lay17 a b).length ≤ 150000 := by
  have hn : b.cells.length ≤ 1920 := by rw [hf.len]; exact Nat.mul_le_mul hf.c2 hf.r2
  have h1 := hf.x1; have h2 := hf.y1; have h3 := hf.mo; have h4 := hf.c2; have h5 := hf.r2; have h6 := hf.tl
  have e1 := varLlenL (n := b.x.toNat) (by omega)
  have e2 := varLlenL (n := b.y.toNat) (by omega)
  have e3 := varLlenL (n := b.title.size) (by omega)
  have hr := runsG_lenL b.cells.length 0 a.cells b.cells hc (by omega)
  have hk := runsG_count b.cells.length 0 a.cells b.cells
  have e4 := varLlenL (n := (runsD a.cells b.cells).1) (by unfold runsD; omega)
  have k1 : (curB a b).length ≤ 30 := by
    unfold curB
    split
    · simp only [List.length_cons, List.length_append, List.length_nil]; omega
    · simp
  have k2 : (titB17 a b).length ≤ 100 := by
    unfold titB17
    split
    · simp
    · simp only [List.length_cons, List.length_append, strB_len]; omega
  have k3 : (mouB a b).length ≤ 2 := by unfold mouB; split <;> simp
  have k4 : (celB a b).length ≤ 140000 := by
    unfold celB
    split
    · simp
    · simp only [List.length_cons, List.length_append]; unfold runsD at e4 ⊢; omega
  unfold lay17
  simp only [List.length_append]
  omega
theorem full17_lenL {b : ScD} (hc : ∀ d ∈ b.cells, CeOk d) : (full17 b).1.length ≤ 200000 := by
  unfold full17
  split
  · rename_i h
    obtain ⟨C, R, hf⟩ := fit17_of h
    have h1 := hf.c; have h2 := hf.r; have h4 := hf.c2; have h5 := hf.r2
    have e1 := varLlenL (n := b.cols.toNat) (by omega)
    have e2 := varLlenL (n := b.rows.toNat) (by omega)
    have k := lay17_lenL (a := blankS b.cols b.rows) hf hc
    simp only [List.length_cons, List.length_append]
    omega
  · simp
theorem enc17_lenL {a b : ScD} (hc : ∀ d ∈ b.cells, CeOk d) : (enc17 a b).1.length ≤ 200000 := by
  unfold enc17
  split
  · rename_i h
    rw [Bool.and_eq_true] at h
    obtain ⟨C, R, hf⟩ := fit17_of h.2
    split
    · have k := lay17_lenL (a := a) hf hc
      simp only
      omega
    · exact full17_lenL hc
  · simp
end Go.Proofs.YtnnekdefncfeeaaDoor


/- Plain: the places at which runs begin, and the runs by these. Conditions: as many cells in both. -/
namespace Go.Proofs.YtnnekdefncfeeaaDoor
open Go Go.RowKit Go.Lib

def atC (l : List CeD) (i : Nat) : CeD := l.getD i blankD
theorem atC_eq {l : List CeD} {i : Nat} (h : i < l.length) : atC l i = l[i] := by unfold atC; rw [List.getD_eq_getElem?_getD, List.getElem?_eq_getElem h]; rfl
theorem penEq_symm {x y : CeD} (h : penEq x y = true) : penEq y x = true := by
  simp only [penEq, Bool.and_eq_true, decide_eq_true_eq] at h ⊢
  omega
theorem penEq_tr {x y z : CeD} (h : penEq x y = true) (k : penEq y z = true) : penEq x z = true := by
  simp only [penEq, Bool.and_eq_true, decide_eq_true_eq] at h k ⊢
  omega
theorem runEnd_in (p : CeD) : ∀ (a b : List CeD) (k : Nat), k < runEnd p a b → cellEq (atC a k) (atC b k) = false ∧ penEq (atC b k) p = true
  | [], [], k, h => by simp [runEnd] at h
  | [], _ :: _, k, h => by simp [runEnd] at h
  | _ :: _, [], k, h => by simp [runEnd] at h
  | x :: a, y :: b, k, h => by
    rw [runEnd] at h
    split at h
    · exact absurd h (Nat.not_lt_zero _)
    · rename_i hc
      split at h
      · rename_i hp
        cases k with
        | zero => exact ⟨by simpa [atC] using hc, by simpa [atC] using hp⟩
        | succ k =>
          have ih := runEnd_in p a b k (by omega)
          exact ⟨by simpa [atC] using ih.1, by simpa [atC] using ih.2⟩
      · exact absurd h (Nat.not_lt_zero _)
theorem runEnd_stop (p : CeD) : ∀ (a b : List CeD), a.length = b.length → runEnd p a b < b.length → cellEq (atC a (runEnd p a b)) (atC b (runEnd p a b)) = true ∨ penEq (atC b (runEnd p a b)) p = false
  | [], [], _, h => by simp at h
  | [], _ :: _, e, h => by simp at e
  | _ :: _, [], e, h => by simp at e
  | x :: a, y :: b, e, h => by
    by_cases hc : cellEq x y = true
    · left
      rw [runEnd, if_pos hc]
      simpa [atC] using hc
    · by_cases hp : penEq y p = true
      · have er : runEnd p (x :: a) (y :: b) = runEnd p a b + 1 := by rw [runEnd, if_neg hc, if_pos hp]
        rw [er] at h ⊢
        have ih := runEnd_stop p a b (by simpa using e) (by simpa using h)
        simpa [atC] using ih
      · right
        rw [runEnd, if_neg hc, if_neg hp]
        simpa [atC] using hp
theorem atC_drop (l : List CeD) (s k : Nat) : atC (l.drop s) k = atC l (s + k) := by
  unfold atC
  rw [List.getD_eq_getElem?_getD, List.getD_eq_getElem?_getD, List.getElem?_drop]
theorem endG_in {p : CeD} {a b : List CeD} {s j : Nat} (h1 : s ≤ j) (h2 : j < endG p a b s) : cellEq (atC a j) (atC b j) = false ∧ penEq (atC b j) p = true := by
  unfold endG at h2
  have h := runEnd_in p (a.drop s) (b.drop s) (j - s) (by omega)
  rw [atC_drop, atC_drop, show s + (j - s) = j by omega] at h
  exact h
theorem endG_stop {p : CeD} {a b : List CeD} {s : Nat} (e : a.length = b.length) (h : endG p a b s < b.length) : cellEq (atC a (endG p a b s)) (atC b (endG p a b s)) = true ∨ penEq (atC b (endG p a b s)) p = false := by
  unfold endG at h ⊢
  have k := runEnd_stop p (a.drop s) (b.drop s) (by simp [e]) (by rw [List.length_drop]; omega)
  rw [atC_drop, atC_drop] at k
  exact k

/-- Does a run begin at place i? -/
def begF (a b : List CeD) (i : Nat) : Bool := !cellEq (atC a i) (atC b i) && !(decide (0 < i) && (!cellEq (atC a (i - 1)) (atC b (i - 1)) && penEq (atC b (i - 1)) (atC b i)))
/-- The places from i on. -/
def begL (a b : List CeD) (i : Nat) : List Nat := (List.range' i (b.length - i)).filter (begF a b)
theorem begL_end {a b : List CeD} {i : Nat} (h : b.length ≤ i) : begL a b i = [] := by
  unfold begL
  rw [Nat.sub_eq_zero_of_le h]; rfl
theorem begL_cons {a b : List CeD} {i : Nat} (h : i < b.length) : begL a b i = if begF a b i then i :: begL a b (i + 1) else begL a b (i + 1) := by
  unfold begL
  rw [show b.length - i = (b.length - (i + 1)) + 1 by omega, List.range'_succ, List.filter_cons]
theorem begL_skip {a b : List CeD} : ∀ (k i : Nat), i + k ≤ b.length → (∀ j, i ≤ j → j < i + k → begF a b j = false) → begL a b i = begL a b (i + k)
  | 0, _, _, _ => rfl
  | k + 1, i, h, hj => by
    rw [begL_cons (by omega), hj i (Nat.le_refl _) (by omega)]
    have ih := begL_skip k (i + 1) (by omega) (fun j h1 h2 => hj j (by omega) (by omega))
    rw [show i + (k + 1) = i + 1 + k by omega, ← ih]
    rfl
/-- The runs' bytes, by the places at which they begin. -/
def runsL (a b : List CeD) : Nat → List Nat → List UInt8
  | _, [] => []
  | h, f :: l => runB (f - h) (atC b f) ((b.drop f).take (endG (atC b f) a b (f + 1) - f)) ++ runsL a b (endG (atC b f) a b (f + 1)) l
/-- Each run begins behind the last one's end, at a cell that differs. -/
def okL (a b : List CeD) : Nat → List Nat → Prop
  | _, [] => True
  | h, f :: l => h ≤ f ∧ f < b.length ∧ cellEq (atC a f) (atC b f) = false ∧ okL a b (endG (atC b f) a b (f + 1)) l
theorem rest_begL {a b : List CeD} (e : a.length = b.length) : ∀ (m i h : Nat), b.length - i ≤ m → h ≤ i → (i < b.length → cellEq (atC a i) (atC b i) = false → begF a b i = true) →
    restG a b i h = ((begL a b i).length, runsL a b h (begL a b i)) ∧ okL a b h (begL a b i)
  | 0, i, h, hm, hh, hp => by
    rw [begL_end (by omega), restG_end _ _ _ _ (by omega)]
    exact ⟨rfl, trivial⟩
  | m + 1, i, h, hm, hh, hp => by
    by_cases hi : i < b.length
    · have ha : i < a.length := by omega
      cases hc : cellEq (atC a i) (atC b i)
      · have hb := hp hi hc
        have hle := endG_le (atC b i) a b (i + 1) hi
        obtain ⟨t, et⟩ : ∃ t, endG (atC b i) a b (i + 1) = t := ⟨_, rfl⟩
        have hin := fun j h1 h2 => endG_in (p := atC b i) (a := a) (b := b) (s := i + 1) (j := j) h1 h2
        have hst := endG_stop (p := atC b i) (a := a) (b := b) (s := i + 1) e
        rw [et] at hle hin hst
        have hrun := restG_run (a := a) (b := b) (i := i) (h := h) (t := t) hi ha (by rw [← atC_eq hi, ← atC_eq ha]; exact hc) (by rw [← atC_eq hi]; exact et)
        have hrunj : ∀ j, i ≤ j → j < t → cellEq (atC a j) (atC b j) = false ∧ penEq (atC b j) (atC b i) = true := fun j h1 h2 => by
          rcases Nat.eq_or_lt_of_le h1 with rfl | h3
          · exact ⟨hc, by simp [penEq]⟩
          · exact hin j (by omega) h2
        have hno : ∀ j, i + 1 ≤ j → j < i + 1 + (t - (i + 1)) → begF a b j = false := fun j h1 h2 => by
          have k1 := hrunj j (by omega) (by omega)
          have k2 := hrunj (j - 1) (by omega) (by omega)
          have k3 := penEq_tr k2.2 (penEq_symm k1.2)
          unfold begF
          rw [k1.1, k2.1, k3, decide_eq_true (by omega)]
          rfl
        have hskip := begL_skip (a := a) (b := b) (t - (i + 1)) (i + 1) (by omega) hno
        rw [show i + 1 + (t - (i + 1)) = t by omega] at hskip
        have hbeg : begL a b i = i :: begL a b t := by rw [begL_cons hi, hb, hskip]; rfl
        have ih := rest_begL e m t t (by omega) (Nat.le_refl _) (fun ht hct => by
          unfold begF
          rw [hct]
          have k1 := hrunj (t - 1) (by omega) (by omega)
          rcases hst ht with h1 | h1
          · rw [h1] at hct; cases hct
          · have h2 : penEq (atC b (t - 1)) (atC b t) = false := by
              cases h3 : penEq (atC b (t - 1)) (atC b t)
              · rfl
              · rw [penEq_tr (penEq_symm h3) k1.2] at h1; cases h1
            rw [h2]
            simp)
        rw [hbeg, hrun, ih.1]
        refine ⟨?_, hh, hi, hc, ?_⟩
        · rw [runsL, et, List.length_cons, atC_eq hi]
        · rw [et]; exact ih.2
      · have hb : begF a b i = false := by unfold begF; rw [hc]; rfl
        have ih := rest_begL e m (i + 1) h (by omega) (by omega) (fun hi2 hc2 => by
          unfold begF
          rw [hc2, Nat.add_sub_cancel, hc]
          simp)
        have hs := restG_same (a := a) (b := b) (i := i) (h := h) hi ha hh (by rw [← atC_eq hi, ← atC_eq ha]; exact hc)
        rw [begL_cons hi, hb, hs]
        exact ih
    · rw [begL_end (by omega), restG_end _ _ _ _ (by omega)]
      exact ⟨rfl, trivial⟩
/-- All the places. -/
def begA (a b : List CeD) (i : Nat) : List Nat := (List.range i).filter (begF a b)
theorem begA_succ (a b : List CeD) (i : Nat) : begA a b (i + 1) = begA a b i ++ (if begF a b i then [i] else []) := by
  unfold begA
  rw [List.range_succ, List.filter_append, List.filter_cons]
  rfl
theorem begA_le (a b : List CeD) (i : Nat) : (begA a b i).length ≤ i := by
  unfold begA
  have h := List.length_filter_le (begF a b) (List.range i)
  rwa [List.length_range] at h
theorem begA_all (a b : List CeD) : begA a b b.length = begL a b 0 := by
  unfold begA begL
  rw [List.range_eq_range', Nat.sub_zero]
theorem runs_begA {a b : List CeD} (e : a.length = b.length) : runsD a b = ((begA a b b.length).length, runsL a b 0 (begA a b b.length)) ∧ okL a b 0 (begA a b b.length) := by
  rw [begA_all, ← restG_zero]
  exact rest_begL e b.length 0 0 (Nat.le_refl _) (Nat.le_refl _) (fun hi hc => by unfold begF; rw [hc]; rfl)
end Go.Proofs.YtnnekdefncfeeaaDoor


/- What the reference's vars (17) answers: numbers, one behind the other; numbers in a row of one's own. Conditions: none. -/
namespace Go.Proofs.YtnnekdefncfeeaaDoor
open Go Go.RowKit Go.Lib

theorem info_int : (Tryd.prog.info? 3).map (fun i => (i.zero, i.size, i.bytes)) = some (some (.int .i64 0), 1, 8) := by kernel_rfl
/-- Numbers in a row of the call's own. -/
def OwnN (w : World) (B : Nat) (v : Value) (l : List Nat) : Prop := Own w B 3 v (l.map nv)
theorem nv_one (l : List Nat) : ∀ u ∈ l.map nv, u.oneCell' = true := by
  intro u hu
  obtain ⟨_, _, rfl⟩ := List.mem_map.1 hu
  rfl
theorem OwnN.form {w : World} {B : Nat} {v : Value} {l : List Nat} (h : OwnN w B v l) :
    ∃ A c, v = .slice A l.length c ∧ Rd w A (l.map nv) ∧ (∀ a, A = some a → B ≤ a.block ∧ a.block < w.heap.size ∧ a.off = 0 ∧ a.spot = none) := by
  obtain ⟨A, c, h1, h2, h3, h4, h5, _⟩ := Own.form h
  simp only [List.length_map] at h1
  exact ⟨A, c, h1, h4, h5⟩
theorem OwnN.below {w w' : World} {B : Nat} {v : Value} {l : List Nat} (h : OwnN w B v l) (hb : Below w.heap.size w w') : OwnN w' B v l := Own.below h hb
theorem OwnN.lt {w : World} {B : Nat} {v : Value} {l : List Nat} (h : OwnN w B v l) : ∀ k, v.ownBlock = some k → B ≤ k ∧ k < w.heap.size := Own.lt h
theorem OwnN_nil (w : World) : OwnN (w.alloc (.cells #[] 3)) w.heap.size (.slice (some ⟨w.heap.size, 0, none⟩) 0 0) [] :=
  ⟨rfl, .inr ⟨w.heap.size, 0, _, rfl, Nat.le_refl _, heap_alloc_new w _, Nat.le_refl _, Nat.zero_le _, rfl, rfl⟩⟩
/-- 'append(v, x)' of one number, laid in a new block. -/
theorem wpList_appN1 (w : World) {ops : Array Oper} {rest : List Oper} {o : Oper} {a : Act} {Q : Exit → Act → World → Prop} (hgd : o.guard = none) (s x : Operand)
    (ho : o.op = .call { callee := .builtin .append, args := #[s, x], argTypes := #[55, 55] })
    (B : Nat) (v : Value) (l : List Nat) (hs : a.eval s = v) (hown : OwnN w B v l) (b : Nat) (hx : a.eval x = .slice (some ⟨w.heap.size, 0, none⟩) 1 1)
    (hlen : l.length + 1 ≤ 1000000) (hB : B ≤ w.heap.size)
    (h : ∀ v' w', OwnN w' B v' (l ++ [b]) → (w.alloc (.cells #[.int .i64 (b : Int)] 3)).grownBy w' v.ownBlock → (v'.ownBlock = v.ownBlock ∨ v'.ownBlock = some (w.heap.size + 1)) → wpList Tryd.prog ops Q rest (a.put o.dst v') w') :
    wpList Tryd.prog ops Q (o :: rest) a (w.alloc (.cells #[.int .i64 (b : Int)] 3)) := by
  obtain ⟨i0, hi, hz0, hz1, hz2⟩ := info_parts info_int
  refine wpList_app _ hgd s x 55 ho B 3 i0 (.int .i64 0) 8 Tryd.underlying55 hi hz0 hz1 hz2 rfl v (l.map nv) hs (Own.alloc hown _) _ 1 1 ([b].map nv) hx (by simp) (Rd.lit w ([b].map nv) 3) (nv_one _) (by simp only [List.length_map, maxLen]; omega) (by simp only [List.length_map]; omega) (by simp; omega) ?_
  intro v' w' h1 h2 h3
  refine h v' w' ?_ h2 (by simpa using h3)
  rw [← List.map_append] at h1
  exact h1
set_option maxRecDepth 100000 in
set_option maxHeartbeats 2000000 in
theorem vars17_c (A : Option Addr) (n c : Nat) (l : List Nat) (w : World) (hl : l.length = n) (hr : Rd w A (l.map nv)) (hn : n ≤ 10) (hx : ∀ x ∈ l, x < 2 ^ 63) :
    Calls Tryd.prog 24 #[.slice A n c] w fun e w' => ∃ v, e = .returned v ∧ OwnB w' w.heap.size v (varsL l) ∧ Below w.heap.size w w' := by
  have HL := Lib.hid hl
  have HR := Lib.hid hr
  have HX := Lib.hid hx
  obtain ⟨B, eB⟩ : ∃ B, B = w.heap.size := ⟨_, rfl⟩
  rw [← eB]
  obtain ⟨W0, eW0⟩ : ∃ W, W = w.alloc (.cells #[] 5) := ⟨_, rfl⟩
  have HO0 : Hid (OwnB W0 B (.slice (some ⟨w.heap.size, 0, none⟩) 0 0) (varsL (l.take 0))) := Lib.hid (by
    rw [eW0, eB]
    exact OwnB_lit w [] _ rfl 0 rfl (by simp))
  have HK0 : Hid (Below B w W0) := Lib.hid (by rw [eW0, eB]; exact (Below.refl _ _).alloc (Nat.le_refl _) _)
  have EB := Lib.hid eB
  have EW0 := Lib.hid eW0
  clear hl hr hx eB eW0
  go_enter Tryd.func24, Tryd.ntmps24
  go_upto_region 2 with (fail)
  rw [← EW0.out]
  go_wp2_with (fail)
  go_loopw [3, 8] (fun v i wr => ∃ k : Nat, k ≤ n ∧ i = .int .i64 k ∧ Hid (OwnB wr B v (varsL (l.take k))) ∧ Hid (Below B w wr)) (fun _ i _ => n - (intOf i).toNat)
  case atStart => exact ⟨0, Nat.zero_le _, rfl, HO0, HK0⟩
  case round =>
    obtain ⟨k, hk, rfl, HO, HK⟩ := hrel
    rcases Nat.lt_or_ge k n with hlt | hge
    · have hlt' : (k : Int) < (n : Int) := by omega
      have hkl : k < l.length := by rw [HL.out]; exact hlt
      have hrw : Rd wr A (l.map nv) := HR.out.below (by rw [← EB.out]; exact HK.out)
      obtain ⟨b, off, rfl, hbl, hcs⟩ := hrw.addr (by rw [List.length_map]; omega)
      obtain ⟨x, ex⟩ : ∃ x, x = l[k] := ⟨_, rfl⟩
      have hx63 : x < 2 ^ 63 := by rw [ex]; exact HX.out _ (List.getElem_mem hkl)
      have hc : wr.cell? ⟨b, off + k, none⟩ = some (.int .i64 (x : Int)) := by
        have h := hcs k (by rw [List.length_map]; exact hkl)
        rw [List.getElem_map, ← ex] at h
        exact h
      have hwx : IntKind.u64.wrap (x : Int) = (x : Int) := IntWalk.u64_in _ ⟨by omega, by omega⟩
      have hxu : U64 x := by unfold U64; omega
      have HXT : Hid (varsL (l.take k) ++ varL x = varsL (l.take (k + 1))) := Lib.hid (by
        rw [List.take_succ_eq_append_getElem hkl, varsL, varsL, List.flatMap_append, ← ex]; simp)
      have HLN : Hid ((varsL (l.take k)).length + 10 ≤ 1000) := Lib.hid (by
        have h := varsL_le (l.take k) (fun y hy => by have := HX.out y (List.mem_of_mem_take hy); unfold U64; omega)
        simp only [List.length_take] at h ⊢
        omega)
      have HSZ : Hid (B ≤ wr.heap.size) := Lib.hid (by have := HK.out.size; rw [EB.out]; exact this)
      have HXU := Lib.hid hxu
      clear hrw hcs ex hx63 hkl hxu
      go_wp2_with (first
        | (go_at_call 44; (refine (refVar_c x wr HXU.out).mono ?_); rintro _ w2 ⟨v2, rfl, ho2, hb2⟩; obtain ⟨A2, c2, rfl, _, _, r2, _⟩ := OwnB.form ho2; have R2 := Lib.hid r2; have HB2 := Lib.hid hb2; have s2 : B ≤ w2.heap.size := Nat.le_trans HSZ.out hb2.size; have HO2 := Lib.hid (HO.out.below hb2); have HK2 := Lib.hid (HK.out.trans (hb2.mono HSZ.out)); clear ho2 hb2 r2)
        | (at_builtin; refine wpList_appB _ rfl (.tmp 11) (.tmp 17) rfl B _ _ rfl HO2.out A2 (varL x).length c2 (varL x) rfl rfl R2.out (by have := HLN.out; have := varL_len10 HXU.out; omega) s2 ?_; intro v4 w4 h4 hg4 _; have HO4 := Lib.hid h4; have HK4 := Lib.hid (HK2.out.grown hg4 s2 (fun q e => (Own.lt HO2.out q e).1)); clear h4 hg4))
      go_roundw
      case rel => exact ⟨k + 1, by omega, by go_num, Lib.hid (by rw [← HXT.out]; exact HO4.out), HK4⟩
      case measure => simp [intOf]; omega
    · obtain rfl : n = k := by omega
      have hge' : ¬ ((n : Int) < (n : Int)) := by omega
      have HE : Hid (varsL (l.take n) = varsL l) := Lib.hid (by rw [List.take_of_length_le (by rw [HL.out]; exact Nat.le_refl _)])
      go_wp2_with (fail)
      go_ret
      exact ⟨_, rfl, by rw [← HE.out]; exact HO.out, HK.out⟩
end Go.Proofs.YtnnekdefncfeeaaDoor

