/- Parts one behind the other: What the program's Right answers of any screen; What the reference's Right answers of any screen; What the reference's Copy of a screen answers: other memory; What the reference's Same of two screens answers; What slices.Clone answers of cells and of texts: the same in memory of one's own; Plain: the parts of colours, how far they are, the nearest one, a colour by such as there are; What color.Parts answers of any colour; What a row's list of tables says of the world: an array of arrays of integers, an array of integers, wherever they stand on the list; The four tables, out of what a row lists; a world that holds them, for the witness; What color.Parts and color.Far answer of any colours; What color.To256, To16 and Fit answer of any colours. Conditions: as told at each. -/
import Derived.Test.YtnnekdefncfeeaaDoorPF11
import Derived.Laws.Rows
import Derived.Laws.Tables
import Derived.Test.YtnnekdefncfeeaaDoorPF3
import Derived.Laws.BitsLemmas
import Derived.Lib.LaidTab
import Derived.Test.YtnnekdefncfeeaaDoorRows
import Derived.Deep.DeepHandedRow

set_option linter.unusedVariables false
set_option linter.unusedSimpArgs false
/- What the program's Right answers of any screen. Conditions: its parts can be read. -/
namespace Go.Proofs.YtnnekdefncfeeaaDoor
open Go Go.RowKit Go.Lib

set_option maxRecDepth 100000 in
set_option maxHeartbeats 16000000 in
theorem emulRight_c (s : ScD) (A : Option Addr) (n c : Nat) (L : Option Addr) (m cm : Nat) (w : World) (hs : ScR w s A n c L m cm) (hT : TabU w) :
    Calls Tryd.prog 25 #[.agg (scC s A n c L m cm)] w fun e w' => e = .returned (.bool (rightS s)) ∧ Below w.heap.size w w' := by
  show Calls _ _ #[.agg #[.int .i64 s.cols, .int .i64 s.rows, .slice A n c, .int .i64 s.x, .int .i64 s.y, .bool s.hid, .int .u8 s.mouse, .string s.title, .slice L m cm]] w _
  obtain ⟨W0, eW0⟩ : ∃ W0, W0 = w.alloc (.cells #[.int .i64 s.cols, .int .i64 s.rows, .slice A n c, .int .i64 s.x, .int .i64 s.y, .bool s.hid, .int .u8 s.mouse, .string s.title, .slice L m cm] 25) := ⟨_, rfl⟩
  have hb0 : Below w.heap.size w W0 := by rw [eW0]; exact (Below.refl _ _).alloc (Nat.le_refl _) _
  have h0 : ScB W0 w.heap.size s A n c L m cm := by rw [eW0]; exact heap_alloc_new _ _
  have HB0 := Lib.hid hb0
  have HS0 := Lib.hid h0
  have HR0 := Lib.hid (hs.below hb0)
  have HT0 := Lib.hid (hT.next hb0)
  have EW0 := Lib.hid eW0
  obtain ⟨R, eR⟩ : ∃ R, rightS s = R := ⟨_, rfl⟩
  have hcs := rightS_cases s
  rw [eR] at hcs ⊢
  have htl := hs.tl
  clear eR hs hT hb0 h0 eW0
  go_enter Tryd.func25, Tryd.ntmps25
  go_upto_region 1 with (fail)
  rw [← EW0.out]
  clear EW0
  obtain ⟨c0, c1, c2, c3, c4, c5, c6, c7, c8⟩ := HS0.out.nine
  rcases hcs with ⟨hg, hr⟩ | ⟨hg, hl, hr⟩ | ⟨hg, hl, hq, hr⟩ | ⟨hg, hl, d3, d4, d5, d6, d7, d8, hr⟩
  · have HR := Lib.hid hr
    have HG := Lib.hid hg
    clear hr hg
    go_wp2_with (first
      | (go_at_call 45; (with_reducible refine (gridMay_c s.cols s.rows A n c s.cells W0 HR0.out.hn HR0.out.rd HR0.out.nc (by have := HR0.out.nl; omega) HT0.out).mono ?_); rintro _ w1 ⟨rfl, hb1⟩; rw [HG.out]; have HB1 := Lib.hid (HB0.out.trans (hb1.mono HB0.out.size)); have HS1 := Lib.hid (HS0.out.below hb1); have HR1 := Lib.hid (HR0.out.below hb1); have HT1 := Lib.hid (HT0.out.next hb1); clear hb1; obtain ⟨x10, x11, x12, x13, x14, x15, x16, x17, x18⟩ := HS1.out.nine))
    go_ret
    exact ⟨by rw [HR.out] <;> rfl, HB1.out⟩
  · have HR := Lib.hid hr
    have HG := Lib.hid hg
    have HL := Lib.hid hl
    clear hr hg hl
    go_wp2_with (first
      | (go_at_call 45; (with_reducible refine (gridMay_c s.cols s.rows A n c s.cells W0 HR0.out.hn HR0.out.rd HR0.out.nc (by have := HR0.out.nl; omega) HT0.out).mono ?_); rintro _ w1 ⟨rfl, hb1⟩; rw [HG.out]; have HB1 := Lib.hid (HB0.out.trans (hb1.mono HB0.out.size)); have HS1 := Lib.hid (HS0.out.below hb1); have HR1 := Lib.hid (HR0.out.below hb1); have HT1 := Lib.hid (HT0.out.next hb1); clear hb1; obtain ⟨x10, x11, x12, x13, x14, x15, x16, x17, x18⟩ := HS1.out.nine)
      | (go_at_call 46; (with_reducible refine (lnkRight_c A n c s.cells L m cm s.links w1 HR1.out.hn HR1.out.rd (by have := HR1.out.nl; omega) HR1.out.hm HR1.out.rt HR1.out.mc HR1.out.us HR1.out.ok).mono ?_); rintro _ w2 ⟨rfl, hb2⟩; rw [HL.out]; have HB2 := Lib.hid (HB1.out.trans (hb2.mono HB1.out.size)); have HS2 := Lib.hid (HS1.out.below hb2); have HR2 := Lib.hid (HR1.out.below hb2); have HT2 := Lib.hid (HT1.out.next hb2); clear hb2; obtain ⟨x20, x21, x22, x23, x24, x25, x26, x27, x28⟩ := HS2.out.nine))
    go_ret
    exact ⟨by rw [HR.out] <;> rfl, HB2.out⟩
  · have HR := Lib.hid hr
    have HG := Lib.hid hg
    have HL := Lib.hid hl
    clear hr hg hl
    have key : ∀ {a b : Bool}, (!a && b) = false → a = true ∨ (a = false ∧ b = false) := by intro a b; cases a <;> cases b <;> simp
    rcases key hq with d3 | ⟨d3, hq⟩
    · clear hq
      clear key
      go_wp2_with (first
        | (go_at_call 45; (with_reducible refine (gridMay_c s.cols s.rows A n c s.cells W0 HR0.out.hn HR0.out.rd HR0.out.nc (by have := HR0.out.nl; omega) HT0.out).mono ?_); rintro _ w1 ⟨rfl, hb1⟩; rw [HG.out]; have HB1 := Lib.hid (HB0.out.trans (hb1.mono HB0.out.size)); have HS1 := Lib.hid (HS0.out.below hb1); have HR1 := Lib.hid (HR0.out.below hb1); have HT1 := Lib.hid (HT0.out.next hb1); clear hb1; obtain ⟨x10, x11, x12, x13, x14, x15, x16, x17, x18⟩ := HS1.out.nine)
        | (go_at_call 46; (with_reducible refine (lnkRight_c A n c s.cells L m cm s.links w1 HR1.out.hn HR1.out.rd (by have := HR1.out.nl; omega) HR1.out.hm HR1.out.rt HR1.out.mc HR1.out.us HR1.out.ok).mono ?_); rintro _ w2 ⟨rfl, hb2⟩; rw [HL.out]; have HB2 := Lib.hid (HB1.out.trans (hb2.mono HB1.out.size)); have HS2 := Lib.hid (HS1.out.below hb2); have HR2 := Lib.hid (HR1.out.below hb2); have HT2 := Lib.hid (HT1.out.next hb2); clear hb2; obtain ⟨x20, x21, x22, x23, x24, x25, x26, x27, x28⟩ := HS2.out.nine))
      go_ret
      exact ⟨by rw [HR.out] <;> rfl, HB2.out⟩
    rcases key hq with d4 | ⟨d4, hq⟩
    · clear hq
      clear key
      go_wp2_with (first
        | (go_at_call 45; (with_reducible refine (gridMay_c s.cols s.rows A n c s.cells W0 HR0.out.hn HR0.out.rd HR0.out.nc (by have := HR0.out.nl; omega) HT0.out).mono ?_); rintro _ w1 ⟨rfl, hb1⟩; rw [HG.out]; have HB1 := Lib.hid (HB0.out.trans (hb1.mono HB0.out.size)); have HS1 := Lib.hid (HS0.out.below hb1); have HR1 := Lib.hid (HR0.out.below hb1); have HT1 := Lib.hid (HT0.out.next hb1); clear hb1; obtain ⟨x10, x11, x12, x13, x14, x15, x16, x17, x18⟩ := HS1.out.nine)
        | (go_at_call 46; (with_reducible refine (lnkRight_c A n c s.cells L m cm s.links w1 HR1.out.hn HR1.out.rd (by have := HR1.out.nl; omega) HR1.out.hm HR1.out.rt HR1.out.mc HR1.out.us HR1.out.ok).mono ?_); rintro _ w2 ⟨rfl, hb2⟩; rw [HL.out]; have HB2 := Lib.hid (HB1.out.trans (hb2.mono HB1.out.size)); have HS2 := Lib.hid (HS1.out.below hb2); have HR2 := Lib.hid (HR1.out.below hb2); have HT2 := Lib.hid (HT1.out.next hb2); clear hb2; obtain ⟨x20, x21, x22, x23, x24, x25, x26, x27, x28⟩ := HS2.out.nine))
      go_ret
      exact ⟨by rw [HR.out] <;> rfl, HB2.out⟩
    rcases key hq with d5 | ⟨d5, hq⟩
    · clear hq
      clear key
      go_wp2_with (first
        | (go_at_call 45; (with_reducible refine (gridMay_c s.cols s.rows A n c s.cells W0 HR0.out.hn HR0.out.rd HR0.out.nc (by have := HR0.out.nl; omega) HT0.out).mono ?_); rintro _ w1 ⟨rfl, hb1⟩; rw [HG.out]; have HB1 := Lib.hid (HB0.out.trans (hb1.mono HB0.out.size)); have HS1 := Lib.hid (HS0.out.below hb1); have HR1 := Lib.hid (HR0.out.below hb1); have HT1 := Lib.hid (HT0.out.next hb1); clear hb1; obtain ⟨x10, x11, x12, x13, x14, x15, x16, x17, x18⟩ := HS1.out.nine)
        | (go_at_call 46; (with_reducible refine (lnkRight_c A n c s.cells L m cm s.links w1 HR1.out.hn HR1.out.rd (by have := HR1.out.nl; omega) HR1.out.hm HR1.out.rt HR1.out.mc HR1.out.us HR1.out.ok).mono ?_); rintro _ w2 ⟨rfl, hb2⟩; rw [HL.out]; have HB2 := Lib.hid (HB1.out.trans (hb2.mono HB1.out.size)); have HS2 := Lib.hid (HS1.out.below hb2); have HR2 := Lib.hid (HR1.out.below hb2); have HT2 := Lib.hid (HT1.out.next hb2); clear hb2; obtain ⟨x20, x21, x22, x23, x24, x25, x26, x27, x28⟩ := HS2.out.nine))
      go_ret
      exact ⟨by rw [HR.out] <;> rfl, HB2.out⟩
    rcases key hq with d6 | ⟨d6, hq⟩
    · clear hq
      clear key
      go_wp2_with (first
        | (go_at_call 45; (with_reducible refine (gridMay_c s.cols s.rows A n c s.cells W0 HR0.out.hn HR0.out.rd HR0.out.nc (by have := HR0.out.nl; omega) HT0.out).mono ?_); rintro _ w1 ⟨rfl, hb1⟩; rw [HG.out]; have HB1 := Lib.hid (HB0.out.trans (hb1.mono HB0.out.size)); have HS1 := Lib.hid (HS0.out.below hb1); have HR1 := Lib.hid (HR0.out.below hb1); have HT1 := Lib.hid (HT0.out.next hb1); clear hb1; obtain ⟨x10, x11, x12, x13, x14, x15, x16, x17, x18⟩ := HS1.out.nine)
        | (go_at_call 46; (with_reducible refine (lnkRight_c A n c s.cells L m cm s.links w1 HR1.out.hn HR1.out.rd (by have := HR1.out.nl; omega) HR1.out.hm HR1.out.rt HR1.out.mc HR1.out.us HR1.out.ok).mono ?_); rintro _ w2 ⟨rfl, hb2⟩; rw [HL.out]; have HB2 := Lib.hid (HB1.out.trans (hb2.mono HB1.out.size)); have HS2 := Lib.hid (HS1.out.below hb2); have HR2 := Lib.hid (HR1.out.below hb2); have HT2 := Lib.hid (HT1.out.next hb2); clear hb2; obtain ⟨x20, x21, x22, x23, x24, x25, x26, x27, x28⟩ := HS2.out.nine))
      go_ret
      exact ⟨by rw [HR.out] <;> rfl, HB2.out⟩
    rcases key hq with d7 | ⟨d7, hq⟩
    · clear hq
      clear key
      go_wp2_with (first
        | (go_at_call 45; (with_reducible refine (gridMay_c s.cols s.rows A n c s.cells W0 HR0.out.hn HR0.out.rd HR0.out.nc (by have := HR0.out.nl; omega) HT0.out).mono ?_); rintro _ w1 ⟨rfl, hb1⟩; rw [HG.out]; have HB1 := Lib.hid (HB0.out.trans (hb1.mono HB0.out.size)); have HS1 := Lib.hid (HS0.out.below hb1); have HR1 := Lib.hid (HR0.out.below hb1); have HT1 := Lib.hid (HT0.out.next hb1); clear hb1; obtain ⟨x10, x11, x12, x13, x14, x15, x16, x17, x18⟩ := HS1.out.nine)
        | (go_at_call 46; (with_reducible refine (lnkRight_c A n c s.cells L m cm s.links w1 HR1.out.hn HR1.out.rd (by have := HR1.out.nl; omega) HR1.out.hm HR1.out.rt HR1.out.mc HR1.out.us HR1.out.ok).mono ?_); rintro _ w2 ⟨rfl, hb2⟩; rw [HL.out]; have HB2 := Lib.hid (HB1.out.trans (hb2.mono HB1.out.size)); have HS2 := Lib.hid (HS1.out.below hb2); have HR2 := Lib.hid (HR1.out.below hb2); have HT2 := Lib.hid (HT1.out.next hb2); clear hb2; obtain ⟨x20, x21, x22, x23, x24, x25, x26, x27, x28⟩ := HS2.out.nine))
      go_ret
      exact ⟨by rw [HR.out] <;> rfl, HB2.out⟩
    have d8 : decide (64 < (s.title.size : Int)) = true := by simpa using hq
    clear hq
    clear key
    go_wp2_with (first
      | (go_at_call 45; (with_reducible refine (gridMay_c s.cols s.rows A n c s.cells W0 HR0.out.hn HR0.out.rd HR0.out.nc (by have := HR0.out.nl; omega) HT0.out).mono ?_); rintro _ w1 ⟨rfl, hb1⟩; rw [HG.out]; have HB1 := Lib.hid (HB0.out.trans (hb1.mono HB0.out.size)); have HS1 := Lib.hid (HS0.out.below hb1); have HR1 := Lib.hid (HR0.out.below hb1); have HT1 := Lib.hid (HT0.out.next hb1); clear hb1; obtain ⟨x10, x11, x12, x13, x14, x15, x16, x17, x18⟩ := HS1.out.nine)
      | (go_at_call 46; (with_reducible refine (lnkRight_c A n c s.cells L m cm s.links w1 HR1.out.hn HR1.out.rd (by have := HR1.out.nl; omega) HR1.out.hm HR1.out.rt HR1.out.mc HR1.out.us HR1.out.ok).mono ?_); rintro _ w2 ⟨rfl, hb2⟩; rw [HL.out]; have HB2 := Lib.hid (HB1.out.trans (hb2.mono HB1.out.size)); have HS2 := Lib.hid (HS1.out.below hb2); have HR2 := Lib.hid (HR1.out.below hb2); have HT2 := Lib.hid (HT1.out.next hb2); clear hb2; obtain ⟨x20, x21, x22, x23, x24, x25, x26, x27, x28⟩ := HS2.out.nine))
    go_ret
    exact ⟨by rw [HR.out] <;> rfl, HB2.out⟩
  · have HG := Lib.hid hg
    have HL := Lib.hid hl
    have HRR := Lib.hid hr
    clear hg hl hr
    obtain ⟨U, eU⟩ : ∃ U, utfV (strB s.title) = U := ⟨_, rfl⟩
    have HU := Lib.hid eU
    clear eU
    cases U
    · have HR : Hid (R = false) := Lib.hid (by rw [HRR.out, HU.out]; rfl)
      go_wp2_with (first
        | (go_at_call 45; (with_reducible refine (gridMay_c s.cols s.rows A n c s.cells W0 HR0.out.hn HR0.out.rd HR0.out.nc (by have := HR0.out.nl; omega) HT0.out).mono ?_); rintro _ w1 ⟨rfl, hb1⟩; rw [HG.out]; have HB1 := Lib.hid (HB0.out.trans (hb1.mono HB0.out.size)); have HS1 := Lib.hid (HS0.out.below hb1); have HR1 := Lib.hid (HR0.out.below hb1); have HT1 := Lib.hid (HT0.out.next hb1); clear hb1; obtain ⟨x10, x11, x12, x13, x14, x15, x16, x17, x18⟩ := HS1.out.nine)
        | (go_at_call 46; (with_reducible refine (lnkRight_c A n c s.cells L m cm s.links w1 HR1.out.hn HR1.out.rd (by have := HR1.out.nl; omega) HR1.out.hm HR1.out.rt HR1.out.mc HR1.out.us HR1.out.ok).mono ?_); rintro _ w2 ⟨rfl, hb2⟩; rw [HL.out]; have HB2 := Lib.hid (HB1.out.trans (hb2.mono HB1.out.size)); have HS2 := Lib.hid (HS1.out.below hb2); have HR2 := Lib.hid (HR1.out.below hb2); have HT2 := Lib.hid (HT1.out.next hb2); clear hb2; obtain ⟨x20, x21, x22, x23, x24, x25, x26, x27, x28⟩ := HS2.out.nine; obtain ⟨A5, c5, w3, hcv, q3, q1, q2, hb3⟩ := conv_run w2 s.title (by omega); have Q3 := Lib.hid q3; clear q3; have HB3 := Lib.hid (HB2.out.trans (hb3.mono HB2.out.size)); have HS3 := Lib.hid (HS2.out.below hb3); have HR3 := Lib.hid (HR2.out.below hb3); have HT3 := Lib.hid (HT2.out.next hb3); clear hb3; obtain ⟨x30, x31, x32, x33, x34, x35, x36, x37, x38⟩ := HS3.out.nine)
        | (go_at_call 47; (with_reducible refine (utfValid_c A5 s.title.size c5 (strB s.title) w3 (strB_len _) Q3.out htl).mono ?_); rintro _ w4 ⟨rfl, hb4⟩; rw [HU.out]; have HB4 := Lib.hid (HB3.out.trans (hb4.mono HB3.out.size)); have HS4 := Lib.hid (HS3.out.below hb4); have HR4 := Lib.hid (HR3.out.below hb4); have HT4 := Lib.hid (HT3.out.next hb4); clear hb4; obtain ⟨x40, x41, x42, x43, x44, x45, x46, x47, x48⟩ := HS4.out.nine))
      go_ret
      exact ⟨by rw [HR.out] <;> rfl, HB4.out⟩
    · have HR : Hid (R = wdV (strB s.title)) := Lib.hid (by rw [HRR.out, HU.out]; rfl)
      go_wp2_with (first
        | (go_at_call 45; (with_reducible refine (gridMay_c s.cols s.rows A n c s.cells W0 HR0.out.hn HR0.out.rd HR0.out.nc (by have := HR0.out.nl; omega) HT0.out).mono ?_); rintro _ w1 ⟨rfl, hb1⟩; rw [HG.out]; have HB1 := Lib.hid (HB0.out.trans (hb1.mono HB0.out.size)); have HS1 := Lib.hid (HS0.out.below hb1); have HR1 := Lib.hid (HR0.out.below hb1); have HT1 := Lib.hid (HT0.out.next hb1); clear hb1; obtain ⟨x10, x11, x12, x13, x14, x15, x16, x17, x18⟩ := HS1.out.nine)
        | (go_at_call 46; (with_reducible refine (lnkRight_c A n c s.cells L m cm s.links w1 HR1.out.hn HR1.out.rd (by have := HR1.out.nl; omega) HR1.out.hm HR1.out.rt HR1.out.mc HR1.out.us HR1.out.ok).mono ?_); rintro _ w2 ⟨rfl, hb2⟩; rw [HL.out]; have HB2 := Lib.hid (HB1.out.trans (hb2.mono HB1.out.size)); have HS2 := Lib.hid (HS1.out.below hb2); have HR2 := Lib.hid (HR1.out.below hb2); have HT2 := Lib.hid (HT1.out.next hb2); clear hb2; obtain ⟨x20, x21, x22, x23, x24, x25, x26, x27, x28⟩ := HS2.out.nine; obtain ⟨A5, c5, w3, hcv, q3, q1, q2, hb3⟩ := conv_run w2 s.title (by omega); have Q3 := Lib.hid q3; clear q3; have HB3 := Lib.hid (HB2.out.trans (hb3.mono HB2.out.size)); have HS3 := Lib.hid (HS2.out.below hb3); have HR3 := Lib.hid (HR2.out.below hb3); have HT3 := Lib.hid (HT2.out.next hb3); clear hb3; obtain ⟨x30, x31, x32, x33, x34, x35, x36, x37, x38⟩ := HS3.out.nine)
        | (go_at_call 47; (with_reducible refine (utfValid_c A5 s.title.size c5 (strB s.title) w3 (strB_len _) Q3.out htl).mono ?_); rintro _ w4 ⟨rfl, hb4⟩; rw [HU.out]; have HB4 := Lib.hid (HB3.out.trans (hb4.mono HB3.out.size)); have HS4 := Lib.hid (HS3.out.below hb4); have HR4 := Lib.hid (HR3.out.below hb4); have HT4 := Lib.hid (HT3.out.next hb4); clear hb4; obtain ⟨x40, x41, x42, x43, x44, x45, x46, x47, x48⟩ := HS4.out.nine))
      obtain ⟨g, eg⟩ : ∃ g, g = w4.heap.size := ⟨_, rfl⟩
      have EG := Lib.hid eg
      rw [← eg]
      clear eg
      obtain ⟨bs, ebs⟩ : ∃ bs, bs = strB s.title := ⟨_, rfl⟩
      obtain ⟨sz, esz⟩ : ∃ sz, sz = s.title.size := ⟨_, rfl⟩
      have HBS := Lib.hid ebs
      have HSZ := Lib.hid esz
      have HLEN : Hid (bs.length = sz) := Lib.hid (by rw [ebs, esz, strB_len])
      clear ebs esz
      go_loopw [4] (fun _ wr => ∃ pos : Nat, pos ≤ sz ∧ Hid (R = wdV (bs.drop pos)) ∧ Hid (wr.heap[g]? = some (.stringIter s.title pos)) ∧ Hid (Below w4.heap.size w4 wr)) (fun _ wr => sz - wr.iterPos g)
      case atStart =>
        refine ⟨0, Nat.zero_le _, Lib.hid (by rw [HBS.out, HR.out]; rfl), Lib.hid ?_, Lib.hid ?_⟩
        · rw [EG.out]
          have := World.iter_heap w4 s.title 0
          simpa using this
        · exact (Below.refl _ _).alloc (Nat.le_refl _) _
      case round =>
        obtain ⟨pos, hp, HG2, HIT, HB⟩ := hrel
        clear x40 x41 x42 x43 x44 x45 x46 x47 x48 x30 x31 x32 x33 x34 x35 x36 x37 x38 x20 x21 x22 x23 x24 x25 x26 x27 x28 x10 x11 x12 x13 x14 x15 x16 x17 x18 c0 c1 c2 c3 c4 c6 c7 c8 d3 d4 d5 d6 d7 d8 hcv
        rcases Nat.lt_or_ge pos sz with hlt | hge
        · have hps : pos < s.title.size := by rw [← HSZ.out]; exact hlt
          obtain ⟨l, el⟩ : ∃ l, l = bs.drop pos := ⟨_, rfl⟩
          have hll : l.length = sz - pos := by rw [el, List.length_drop, HLEN.out]
          have hne : l ≠ [] := by intro e; rw [e] at hll; simp at hll; omega
          obtain ⟨r, wd, hdec⟩ : ∃ r wd, decodeL l = (r, wd) := ⟨_, _, rfl⟩
          have hdc : Utf8.decode s.title pos = (r, wd) := by rw [← hdec, el, HBS.out]; unfold strB; rw [decodeL_drop]
          have hw1 : 1 ≤ wd := by have := decodeL_width l; rw [hdec] at this; exact this
          have hw2 : wd ≤ sz - pos := by have := decodeL_le l hne; rw [hdec, hll] at this; exact this
          obtain ⟨W1, eW1⟩ : ∃ W1, W1 = wr.iterAt g s.title (pos + wd) := ⟨_, rfl⟩
          have hnx : ∀ ty, (Instr.next (.pointer (some ⟨g, 0, none⟩)) true ty).run Tryd.prog wr = .ok (.tuple #[.bool true, .int .i64 pos, .int .i32 (r : Int)]) W1 := fun ty => by
            have := Lib.run_next_any_at (P := Tryd.prog) wr g s.title pos ty HIT.out hps
            rw [hdc] at this
            rw [eW1]; exact this
          have HIT1 : Hid (W1.heap[g]? = some (.stringIter s.title (pos + wd))) := Lib.hid (by rw [eW1]; exact Lib.iterAt_heap wr g s.title pos (pos + wd) HIT.out)
          have HB1' : Hid (Below w4.heap.size w4 W1) := Lib.hid (by rw [eW1]; exact Lib.below_iterAt HB.out (Nat.le_of_eq EG.out.symm) s.title (pos + wd))
          obtain ⟨V, eV⟩ : ∃ V, widI (r : Int) = V := ⟨_, rfl⟩
          have hst : Hid (R = (decide (V ≠ 0) && wdV (bs.drop (pos + wd)))) := Lib.hid (by
            rw [HG2.out, ← el, wdV_step l hne, hdec, el, List.drop_drop, ← eV])
          have HV := Lib.hid eV
          have hmeas : Hid (wr.iterPos g = pos) := Lib.hid (by simp [World.iterPos, HIT.out])
          clear hdc hps hdec hll hne el eW1 eV
          by_cases h0 : V = 0
          · have e0 : (V == 0) = true := beq_iff_eq.2 h0
            have HR5 : Hid (R = false) := Lib.hid (by rw [hst.out, h0]; rfl)
            clear h0 hst
            go_wp2_with (go_at_call 48; (with_reducible refine (Width_c (r : Int) W1 (HT4.out.next HB1'.out)).mono ?_); rintro _ w6 ⟨rfl, hb6⟩; rw [HV.out]; have HB6 := Lib.hid hb6; clear hb6)
            go_ret
            have h1 := HB1'.out.trans (HB6.out.mono HB1'.out.size)
            exact ⟨by rw [HR5.out] <;> rfl, HB4.out.trans (h1.mono HB4.out.size)⟩
          · have e0 : (V == 0) = false := by rw [beq_eq_false_iff_ne]; exact h0
            have HR5 : Hid (R = wdV (bs.drop (pos + wd))) := Lib.hid (by rw [hst.out, decide_eq_true (show V ≠ 0 from h0), Bool.true_and])
            clear h0 hst
            go_wp2_with (go_at_call 48; (with_reducible refine (Width_c (r : Int) W1 (HT4.out.next HB1'.out)).mono ?_); rintro _ w6 ⟨rfl, hb6⟩; rw [HV.out]; have HB6 := Lib.hid hb6; clear hb6)
            have HIT6 : Hid (w6.heap[g]? = some (.stringIter s.title (pos + wd))) := Lib.hid ((HB6.out.block g (heap_lt HIT1.out)).trans HIT1.out)
            have hmeas1 : Hid (w6.iterPos g = pos + wd) := Lib.hid (by simp [World.iterPos, HIT6.out])
            go_roundw
            case rel => exact ⟨pos + wd, by omega, HR5, HIT6, Lib.hid (HB1'.out.trans (HB6.out.mono HB1'.out.size))⟩
            case measure => rw [hmeas.out, hmeas1.out]; omega
        · obtain rfl : sz = pos := by omega
          have hnx : ∀ ty, (Instr.next (.pointer (some ⟨g, 0, none⟩)) true ty).run Tryd.prog wr = .ok (.tuple #[.bool false]) wr := fun ty => Lib.run_next_end_at (P := Tryd.prog) wr g s.title sz ty HIT.out (by rw [HSZ.out]; exact Nat.lt_irrefl _)
          have hRt : Hid (R = true) := Lib.hid (by rw [HG2.out, List.drop_of_length_le (by rw [HLEN.out]; omega)]; rfl)
          clear hge
          go_wp2_with (fail)
          go_ret
          exact ⟨by rw [hRt.out] <;> rfl, HB4.out.trans (HB.out.mono HB4.out.size)⟩
end Go.Proofs.YtnnekdefncfeeaaDoor


/- What the reference's Right answers of any screen. Conditions: its parts can be read. -/
namespace Go.Proofs.YtnnekdefncfeeaaDoor
open Go Go.RowKit Go.Lib

set_option maxRecDepth 100000 in
set_option maxHeartbeats 16000000 in
theorem refRight_c (s : ScD) (A : Option Addr) (n c : Nat) (L : Option Addr) (m cm : Nat) (w : World) (hs : ScR w s A n c L m cm) (hT : TabU w) :
    Calls Tryd.prog 28 #[.agg (scC s A n c L m cm)] w fun e w' => e = .returned (.bool (rightS s)) ∧ Below w.heap.size w w' := by
  show Calls _ _ #[.agg #[.int .i64 s.cols, .int .i64 s.rows, .slice A n c, .int .i64 s.x, .int .i64 s.y, .bool s.hid, .int .u8 s.mouse, .string s.title, .slice L m cm]] w _
  obtain ⟨W0, eW0⟩ : ∃ W0, W0 = w.alloc (.cells #[.int .i64 s.cols, .int .i64 s.rows, .slice A n c, .int .i64 s.x, .int .i64 s.y, .bool s.hid, .int .u8 s.mouse, .string s.title, .slice L m cm] 25) := ⟨_, rfl⟩
  have hb0 : Below w.heap.size w W0 := by rw [eW0]; exact (Below.refl _ _).alloc (Nat.le_refl _) _
  have h0 : ScB W0 w.heap.size s A n c L m cm := by rw [eW0]; exact heap_alloc_new _ _
  have HB0 := Lib.hid hb0
  have HS0 := Lib.hid h0
  have HR0 := Lib.hid (hs.below hb0)
  have HT0 := Lib.hid (hT.next hb0)
  have EW0 := Lib.hid eW0
  obtain ⟨R, eR⟩ : ∃ R, rightS s = R := ⟨_, rfl⟩
  have hcs := rightS_cases s
  rw [eR] at hcs ⊢
  have htl := hs.tl
  clear eR hs hT hb0 h0 eW0
  go_enter Tryd.func28, Tryd.ntmps28
  go_upto_region 1 with (fail)
  rw [← EW0.out]
  clear EW0
  obtain ⟨c0, c1, c2, c3, c4, c5, c6, c7, c8⟩ := HS0.out.nine
  rcases hcs with ⟨hg, hr⟩ | ⟨hg, hl, hr⟩ | ⟨hg, hl, hq, hr⟩ | ⟨hg, hl, d3, d4, d5, d6, d7, d8, hr⟩
  · have HR := Lib.hid hr
    have HG := Lib.hid hg
    clear hr hg
    go_wp2_with (first
      | (go_at_call 50; (with_reducible refine (refRows_c s.cols s.rows A n c s.cells W0 HR0.out.hn HR0.out.rd HR0.out.nc (by have := HR0.out.nl; omega)).mono ?_); rintro _ w1 ⟨v1, rfl, hb1⟩; rw [HG.out]; have HB1 := Lib.hid (HB0.out.trans (hb1.mono HB0.out.size)); have HS1 := Lib.hid (HS0.out.below hb1); have HR1 := Lib.hid (HR0.out.below hb1); have HT1 := Lib.hid (HT0.out.next hb1); clear hb1; obtain ⟨x10, x11, x12, x13, x14, x15, x16, x17, x18⟩ := HS1.out.nine))
    go_ret
    exact ⟨by rw [HR.out] <;> rfl, HB1.out⟩
  · have HR := Lib.hid hr
    have HG := Lib.hid hg
    have HL := Lib.hid hl
    clear hr hg hl
    go_wp2_with (first
      | (go_at_call 50; (with_reducible refine (refRows_c s.cols s.rows A n c s.cells W0 HR0.out.hn HR0.out.rd HR0.out.nc (by have := HR0.out.nl; omega)).mono ?_); rintro _ w1 ⟨v1, rfl, hb1⟩; rw [HG.out]; have HB1 := Lib.hid (HB0.out.trans (hb1.mono HB0.out.size)); have HS1 := Lib.hid (HS0.out.below hb1); have HR1 := Lib.hid (HR0.out.below hb1); have HT1 := Lib.hid (HT0.out.next hb1); clear hb1; obtain ⟨x10, x11, x12, x13, x14, x15, x16, x17, x18⟩ := HS1.out.nine)
      | (go_at_call 51; (with_reducible refine (refLnk_c A n c s.cells L m cm s.links w1 HR1.out.hn HR1.out.rd HR1.out.nl HR1.out.hm HR1.out.rt (by have := HR1.out.ml; omega) HR1.out.us HR1.out.ok).mono ?_); rintro _ w2 ⟨rfl, hb2⟩; rw [HL.out]; have HB2 := Lib.hid (HB1.out.trans (hb2.mono HB1.out.size)); have HS2 := Lib.hid (HS1.out.below hb2); have HR2 := Lib.hid (HR1.out.below hb2); have HT2 := Lib.hid (HT1.out.next hb2); clear hb2; obtain ⟨x20, x21, x22, x23, x24, x25, x26, x27, x28⟩ := HS2.out.nine))
    go_ret
    exact ⟨by rw [HR.out] <;> rfl, HB2.out⟩
  · have HR := Lib.hid hr
    have HG := Lib.hid hg
    have HL := Lib.hid hl
    clear hr hg hl
    have key : ∀ {a b : Bool}, (!a && b) = false → a = true ∨ (a = false ∧ b = false) := by intro a b; cases a <;> cases b <;> simp
    rcases key hq with d3 | ⟨d3, hq⟩
    · clear hq
      clear key
      go_wp2_with (first
        | (go_at_call 50; (with_reducible refine (refRows_c s.cols s.rows A n c s.cells W0 HR0.out.hn HR0.out.rd HR0.out.nc (by have := HR0.out.nl; omega)).mono ?_); rintro _ w1 ⟨v1, rfl, hb1⟩; rw [HG.out]; have HB1 := Lib.hid (HB0.out.trans (hb1.mono HB0.out.size)); have HS1 := Lib.hid (HS0.out.below hb1); have HR1 := Lib.hid (HR0.out.below hb1); have HT1 := Lib.hid (HT0.out.next hb1); clear hb1; obtain ⟨x10, x11, x12, x13, x14, x15, x16, x17, x18⟩ := HS1.out.nine)
        | (go_at_call 51; (with_reducible refine (refLnk_c A n c s.cells L m cm s.links w1 HR1.out.hn HR1.out.rd HR1.out.nl HR1.out.hm HR1.out.rt (by have := HR1.out.ml; omega) HR1.out.us HR1.out.ok).mono ?_); rintro _ w2 ⟨rfl, hb2⟩; rw [HL.out]; have HB2 := Lib.hid (HB1.out.trans (hb2.mono HB1.out.size)); have HS2 := Lib.hid (HS1.out.below hb2); have HR2 := Lib.hid (HR1.out.below hb2); have HT2 := Lib.hid (HT1.out.next hb2); clear hb2; obtain ⟨x20, x21, x22, x23, x24, x25, x26, x27, x28⟩ := HS2.out.nine))
      go_ret
      exact ⟨by rw [HR.out] <;> rfl, HB2.out⟩
    rcases key hq with d4 | ⟨d4, hq⟩
    · clear hq
      clear key
      go_wp2_with (first
        | (go_at_call 50; (with_reducible refine (refRows_c s.cols s.rows A n c s.cells W0 HR0.out.hn HR0.out.rd HR0.out.nc (by have := HR0.out.nl; omega)).mono ?_); rintro _ w1 ⟨v1, rfl, hb1⟩; rw [HG.out]; have HB1 := Lib.hid (HB0.out.trans (hb1.mono HB0.out.size)); have HS1 := Lib.hid (HS0.out.below hb1); have HR1 := Lib.hid (HR0.out.below hb1); have HT1 := Lib.hid (HT0.out.next hb1); clear hb1; obtain ⟨x10, x11, x12, x13, x14, x15, x16, x17, x18⟩ := HS1.out.nine)
        | (go_at_call 51; (with_reducible refine (refLnk_c A n c s.cells L m cm s.links w1 HR1.out.hn HR1.out.rd HR1.out.nl HR1.out.hm HR1.out.rt (by have := HR1.out.ml; omega) HR1.out.us HR1.out.ok).mono ?_); rintro _ w2 ⟨rfl, hb2⟩; rw [HL.out]; have HB2 := Lib.hid (HB1.out.trans (hb2.mono HB1.out.size)); have HS2 := Lib.hid (HS1.out.below hb2); have HR2 := Lib.hid (HR1.out.below hb2); have HT2 := Lib.hid (HT1.out.next hb2); clear hb2; obtain ⟨x20, x21, x22, x23, x24, x25, x26, x27, x28⟩ := HS2.out.nine))
      go_ret
      exact ⟨by rw [HR.out] <;> rfl, HB2.out⟩
    rcases key hq with d5 | ⟨d5, hq⟩
    · clear hq
      clear key
      go_wp2_with (first
        | (go_at_call 50; (with_reducible refine (refRows_c s.cols s.rows A n c s.cells W0 HR0.out.hn HR0.out.rd HR0.out.nc (by have := HR0.out.nl; omega)).mono ?_); rintro _ w1 ⟨v1, rfl, hb1⟩; rw [HG.out]; have HB1 := Lib.hid (HB0.out.trans (hb1.mono HB0.out.size)); have HS1 := Lib.hid (HS0.out.below hb1); have HR1 := Lib.hid (HR0.out.below hb1); have HT1 := Lib.hid (HT0.out.next hb1); clear hb1; obtain ⟨x10, x11, x12, x13, x14, x15, x16, x17, x18⟩ := HS1.out.nine)
        | (go_at_call 51; (with_reducible refine (refLnk_c A n c s.cells L m cm s.links w1 HR1.out.hn HR1.out.rd HR1.out.nl HR1.out.hm HR1.out.rt (by have := HR1.out.ml; omega) HR1.out.us HR1.out.ok).mono ?_); rintro _ w2 ⟨rfl, hb2⟩; rw [HL.out]; have HB2 := Lib.hid (HB1.out.trans (hb2.mono HB1.out.size)); have HS2 := Lib.hid (HS1.out.below hb2); have HR2 := Lib.hid (HR1.out.below hb2); have HT2 := Lib.hid (HT1.out.next hb2); clear hb2; obtain ⟨x20, x21, x22, x23, x24, x25, x26, x27, x28⟩ := HS2.out.nine))
      go_ret
      exact ⟨by rw [HR.out] <;> rfl, HB2.out⟩
    rcases key hq with d6 | ⟨d6, hq⟩
    · clear hq
      clear key
      go_wp2_with (first
        | (go_at_call 50; (with_reducible refine (refRows_c s.cols s.rows A n c s.cells W0 HR0.out.hn HR0.out.rd HR0.out.nc (by have := HR0.out.nl; omega)).mono ?_); rintro _ w1 ⟨v1, rfl, hb1⟩; rw [HG.out]; have HB1 := Lib.hid (HB0.out.trans (hb1.mono HB0.out.size)); have HS1 := Lib.hid (HS0.out.below hb1); have HR1 := Lib.hid (HR0.out.below hb1); have HT1 := Lib.hid (HT0.out.next hb1); clear hb1; obtain ⟨x10, x11, x12, x13, x14, x15, x16, x17, x18⟩ := HS1.out.nine)
        | (go_at_call 51; (with_reducible refine (refLnk_c A n c s.cells L m cm s.links w1 HR1.out.hn HR1.out.rd HR1.out.nl HR1.out.hm HR1.out.rt (by have := HR1.out.ml; omega) HR1.out.us HR1.out.ok).mono ?_); rintro _ w2 ⟨rfl, hb2⟩; rw [HL.out]; have HB2 := Lib.hid (HB1.out.trans (hb2.mono HB1.out.size)); have HS2 := Lib.hid (HS1.out.below hb2); have HR2 := Lib.hid (HR1.out.below hb2); have HT2 := Lib.hid (HT1.out.next hb2); clear hb2; obtain ⟨x20, x21, x22, x23, x24, x25, x26, x27, x28⟩ := HS2.out.nine))
      go_ret
      exact ⟨by rw [HR.out] <;> rfl, HB2.out⟩
    rcases key hq with d7 | ⟨d7, hq⟩
    · clear hq
      clear key
      go_wp2_with (first
        | (go_at_call 50; (with_reducible refine (refRows_c s.cols s.rows A n c s.cells W0 HR0.out.hn HR0.out.rd HR0.out.nc (by have := HR0.out.nl; omega)).mono ?_); rintro _ w1 ⟨v1, rfl, hb1⟩; rw [HG.out]; have HB1 := Lib.hid (HB0.out.trans (hb1.mono HB0.out.size)); have HS1 := Lib.hid (HS0.out.below hb1); have HR1 := Lib.hid (HR0.out.below hb1); have HT1 := Lib.hid (HT0.out.next hb1); clear hb1; obtain ⟨x10, x11, x12, x13, x14, x15, x16, x17, x18⟩ := HS1.out.nine)
        | (go_at_call 51; (with_reducible refine (refLnk_c A n c s.cells L m cm s.links w1 HR1.out.hn HR1.out.rd HR1.out.nl HR1.out.hm HR1.out.rt (by have := HR1.out.ml; omega) HR1.out.us HR1.out.ok).mono ?_); rintro _ w2 ⟨rfl, hb2⟩; rw [HL.out]; have HB2 := Lib.hid (HB1.out.trans (hb2.mono HB1.out.size)); have HS2 := Lib.hid (HS1.out.below hb2); have HR2 := Lib.hid (HR1.out.below hb2); have HT2 := Lib.hid (HT1.out.next hb2); clear hb2; obtain ⟨x20, x21, x22, x23, x24, x25, x26, x27, x28⟩ := HS2.out.nine))
      go_ret
      exact ⟨by rw [HR.out] <;> rfl, HB2.out⟩
    have d8 : decide (64 < (s.title.size : Int)) = true := by simpa using hq
    clear hq
    clear key
    go_wp2_with (first
      | (go_at_call 50; (with_reducible refine (refRows_c s.cols s.rows A n c s.cells W0 HR0.out.hn HR0.out.rd HR0.out.nc (by have := HR0.out.nl; omega)).mono ?_); rintro _ w1 ⟨v1, rfl, hb1⟩; rw [HG.out]; have HB1 := Lib.hid (HB0.out.trans (hb1.mono HB0.out.size)); have HS1 := Lib.hid (HS0.out.below hb1); have HR1 := Lib.hid (HR0.out.below hb1); have HT1 := Lib.hid (HT0.out.next hb1); clear hb1; obtain ⟨x10, x11, x12, x13, x14, x15, x16, x17, x18⟩ := HS1.out.nine)
      | (go_at_call 51; (with_reducible refine (refLnk_c A n c s.cells L m cm s.links w1 HR1.out.hn HR1.out.rd HR1.out.nl HR1.out.hm HR1.out.rt (by have := HR1.out.ml; omega) HR1.out.us HR1.out.ok).mono ?_); rintro _ w2 ⟨rfl, hb2⟩; rw [HL.out]; have HB2 := Lib.hid (HB1.out.trans (hb2.mono HB1.out.size)); have HS2 := Lib.hid (HS1.out.below hb2); have HR2 := Lib.hid (HR1.out.below hb2); have HT2 := Lib.hid (HT1.out.next hb2); clear hb2; obtain ⟨x20, x21, x22, x23, x24, x25, x26, x27, x28⟩ := HS2.out.nine))
    go_ret
    exact ⟨by rw [HR.out] <;> rfl, HB2.out⟩
  · have HG := Lib.hid hg
    have HL := Lib.hid hl
    have HRR := Lib.hid hr
    clear hg hl hr
    obtain ⟨U, eU⟩ : ∃ U, utfV (strB s.title) = U := ⟨_, rfl⟩
    have HU := Lib.hid eU
    clear eU
    cases U
    · have HR : Hid (R = false) := Lib.hid (by rw [HRR.out, HU.out]; rfl)
      go_wp2_with (first
        | (go_at_call 50; (with_reducible refine (refRows_c s.cols s.rows A n c s.cells W0 HR0.out.hn HR0.out.rd HR0.out.nc (by have := HR0.out.nl; omega)).mono ?_); rintro _ w1 ⟨v1, rfl, hb1⟩; rw [HG.out]; have HB1 := Lib.hid (HB0.out.trans (hb1.mono HB0.out.size)); have HS1 := Lib.hid (HS0.out.below hb1); have HR1 := Lib.hid (HR0.out.below hb1); have HT1 := Lib.hid (HT0.out.next hb1); clear hb1; obtain ⟨x10, x11, x12, x13, x14, x15, x16, x17, x18⟩ := HS1.out.nine)
        | (go_at_call 51; (with_reducible refine (refLnk_c A n c s.cells L m cm s.links w1 HR1.out.hn HR1.out.rd HR1.out.nl HR1.out.hm HR1.out.rt (by have := HR1.out.ml; omega) HR1.out.us HR1.out.ok).mono ?_); rintro _ w2 ⟨rfl, hb2⟩; rw [HL.out]; have HB2 := Lib.hid (HB1.out.trans (hb2.mono HB1.out.size)); have HS2 := Lib.hid (HS1.out.below hb2); have HR2 := Lib.hid (HR1.out.below hb2); have HT2 := Lib.hid (HT1.out.next hb2); clear hb2; obtain ⟨x20, x21, x22, x23, x24, x25, x26, x27, x28⟩ := HS2.out.nine; obtain ⟨A5, k5, w3, hcv, q3, q1, q2, hb3⟩ := conv_run w2 s.title (by omega); have Q3 := Lib.hid q3; have Q1 := Lib.hid q1; clear q3 q1 q2; have HB3 := Lib.hid (HB2.out.trans (hb3.mono HB2.out.size)); have HS3 := Lib.hid (HS2.out.below hb3); have HR3 := Lib.hid (HR2.out.below hb3); have HT3 := Lib.hid (HT2.out.next hb3); clear hb3; obtain ⟨x30, x31, x32, x33, x34, x35, x36, x37, x38⟩ := HS3.out.nine)
        | (go_at_call 52; (with_reducible refine (refValid_c A5 s.title.size k5 (strB s.title) w3 (strB_len _) Q3.out Q1.out htl).mono ?_); rintro _ w4 ⟨rfl, hb4⟩; rw [HU.out]; have HB4 := Lib.hid (HB3.out.trans (hb4.mono HB3.out.size)); have HS4 := Lib.hid (HS3.out.below hb4); have HR4 := Lib.hid (HR3.out.below hb4); have HT4 := Lib.hid (HT3.out.next hb4); clear hb4; obtain ⟨x40, x41, x42, x43, x44, x45, x46, x47, x48⟩ := HS4.out.nine))
      go_ret
      exact ⟨by rw [HR.out] <;> rfl, HB4.out⟩
    · have HR : Hid (R = wdV (strB s.title)) := Lib.hid (by rw [HRR.out, HU.out]; rfl)
      go_wp2_with (first
        | (go_at_call 50; (with_reducible refine (refRows_c s.cols s.rows A n c s.cells W0 HR0.out.hn HR0.out.rd HR0.out.nc (by have := HR0.out.nl; omega)).mono ?_); rintro _ w1 ⟨v1, rfl, hb1⟩; rw [HG.out]; have HB1 := Lib.hid (HB0.out.trans (hb1.mono HB0.out.size)); have HS1 := Lib.hid (HS0.out.below hb1); have HR1 := Lib.hid (HR0.out.below hb1); have HT1 := Lib.hid (HT0.out.next hb1); clear hb1; obtain ⟨x10, x11, x12, x13, x14, x15, x16, x17, x18⟩ := HS1.out.nine)
        | (go_at_call 51; (with_reducible refine (refLnk_c A n c s.cells L m cm s.links w1 HR1.out.hn HR1.out.rd HR1.out.nl HR1.out.hm HR1.out.rt (by have := HR1.out.ml; omega) HR1.out.us HR1.out.ok).mono ?_); rintro _ w2 ⟨rfl, hb2⟩; rw [HL.out]; have HB2 := Lib.hid (HB1.out.trans (hb2.mono HB1.out.size)); have HS2 := Lib.hid (HS1.out.below hb2); have HR2 := Lib.hid (HR1.out.below hb2); have HT2 := Lib.hid (HT1.out.next hb2); clear hb2; obtain ⟨x20, x21, x22, x23, x24, x25, x26, x27, x28⟩ := HS2.out.nine; obtain ⟨A5, k5, w3, hcv, q3, q1, q2, hb3⟩ := conv_run w2 s.title (by omega); have Q3 := Lib.hid q3; have Q1 := Lib.hid q1; clear q3 q1 q2; have HB3 := Lib.hid (HB2.out.trans (hb3.mono HB2.out.size)); have HS3 := Lib.hid (HS2.out.below hb3); have HR3 := Lib.hid (HR2.out.below hb3); have HT3 := Lib.hid (HT2.out.next hb3); clear hb3; obtain ⟨x30, x31, x32, x33, x34, x35, x36, x37, x38⟩ := HS3.out.nine)
        | (go_at_call 52; (with_reducible refine (refValid_c A5 s.title.size k5 (strB s.title) w3 (strB_len _) Q3.out Q1.out htl).mono ?_); rintro _ w4 ⟨rfl, hb4⟩; rw [HU.out]; have HB4 := Lib.hid (HB3.out.trans (hb4.mono HB3.out.size)); have HS4 := Lib.hid (HS3.out.below hb4); have HR4 := Lib.hid (HR3.out.below hb4); have HT4 := Lib.hid (HT3.out.next hb4); clear hb4; obtain ⟨x40, x41, x42, x43, x44, x45, x46, x47, x48⟩ := HS4.out.nine; obtain ⟨A6, k6, w5, hcv2, q3, q1, q2, hb5⟩ := conv_run w4 s.title (by omega); have Q5 := Lib.hid q3; clear q3 q1 q2; have HB5 := Lib.hid (HB4.out.trans (hb5.mono HB4.out.size)); have HS5 := Lib.hid (HS4.out.below hb5); have HR5 := Lib.hid (HR4.out.below hb5); have HT5 := Lib.hid (HT4.out.next hb5); clear hb5)
        | (go_at_call 53; (with_reducible refine (refRunes_c A6 s.title.size k6 (strB s.title) w5 (strB_len _) Q5.out HU.out htl).mono ?_); rintro _ w6 ⟨v6, rs, rfl, ho6, hwd6, hrl6, hb6⟩; have HWD := Lib.hid hwd6; have HO6 := Lib.hid ho6; obtain ⟨A7, k7, rfl, _, _, hr7⟩ := ho6.form; have HR7 := Lib.hid hr7; clear hr7 ho6 hwd6; have HB6 := Lib.hid (HB5.out.trans (hb6.mono HB5.out.size)); have HS6 := Lib.hid (HS5.out.below hb6); have HR6 := Lib.hid (HR5.out.below hb6); have HT6 := Lib.hid (HT5.out.next hb6); clear hb6))
      obtain ⟨nr, enr⟩ : ∃ nr, rs.length = nr := ⟨_, rfl⟩
      rw [enr] at hrl6 ⊢
      have HNR := Lib.hid enr
      clear enr x40 x41 x42 x43 x44 x45 x46 x47 x48 x30 x31 x32 x33 x34 x35 x36 x37 x38 x20 x21 x22 x23 x24 x25 x26 x27 x28 x10 x11 x12 x13 x14 x15 x16 x17 x18 c0 c1 c2 c3 c4 c5 c6 c7 c8 d3 d4 d5 d6 d7 d8 hcv hcv2
      go_loopw [74] (fun i wr => ∃ k : Nat, k ≤ nr ∧ i = .int .i64 k ∧ Hid (R = wdAll (rs.drop k)) ∧ wr = w6) (fun i _ => nr - (intOf i).toNat)
      case atStart => exact ⟨0, Nat.zero_le _, rfl, Lib.hid (by rw [HR.out, HWD.out]; rfl), rfl⟩
      case round =>
        obtain ⟨k, hk, rfl, HG2, rfl⟩ := hrel
        rcases Nat.lt_or_ge k nr with hlt | hge
        · have hlt' : (k : Int) < (nr : Int) := by omega
          obtain ⟨b, off, rfl, hbk, hc⟩ := HR7.out.addr (by rw [List.length_map, HNR.out]; omega)
          have hck := hc k (by rw [List.length_map, HNR.out]; exact hlt)
          obtain ⟨r, er⟩ : ∃ r, r = rs[k]'(by rw [HNR.out]; exact hlt) := ⟨_, rfl⟩
          rw [List.getElem_map, ← er] at hck
          obtain ⟨V, eV⟩ : ∃ V, widI r = V := ⟨_, rfl⟩
          have hst : Hid (R = (decide (V ≠ 0) && wdAll (rs.drop (k + 1)))) := Lib.hid (by
            rw [HG2.out, List.drop_eq_getElem_cons (by rw [HNR.out]; exact hlt), wdAll, List.all_cons, ← er, eV]; rfl)
          have HV := Lib.hid eV
          clear hc er eV
          by_cases h0 : V = 0
          · have e0 : (V == 0) = true := beq_iff_eq.2 h0
            have HR5 : Hid (R = false) := Lib.hid (by rw [hst.out, h0]; rfl)
            clear h0 hst
            go_wp2_with (go_at_call 54; (with_reducible refine (refWidth_c r _).mono ?_); rintro _ _ ⟨rfl, rfl⟩; rw [HV.out])
            go_ret
            exact ⟨by rw [HR5.out] <;> rfl, HB6.out⟩
          · have e0 : (V == 0) = false := by rw [beq_eq_false_iff_ne]; exact h0
            have HR5 : Hid (R = wdAll (rs.drop (k + 1))) := Lib.hid (by rw [hst.out, decide_eq_true (show V ≠ 0 from h0), Bool.true_and])
            clear h0 hst
            go_wp2_with (go_at_call 54; (with_reducible refine (refWidth_c r _).mono ?_); rintro _ _ ⟨rfl, rfl⟩; rw [HV.out])
            go_roundw
            case rel => exact ⟨k + 1, by omega, by go_num, HR5, trivial⟩
            case measure => simp [intOf]; omega
        · obtain rfl : nr = k := by omega
          have hge' : ¬ ((nr : Int) < (nr : Int)) := by omega
          have hRt : Hid (R = true) := Lib.hid (by rw [HG2.out, List.drop_of_length_le (by rw [HNR.out]; omega)]; rfl)
          clear hge
          go_wp2_with (fail)
          go_ret
          exact ⟨by rw [hRt.out] <;> rfl, HB6.out⟩
end Go.Proofs.YtnnekdefncfeeaaDoor


/- What the reference's Copy of a screen answers: other memory. Conditions: its parts can be read. -/
namespace Go.Proofs.YtnnekdefncfeeaaDoor
open Go Go.RowKit Go.Lib

theorem info_sc : (Tryd.prog.info? 25).map (·.size) = some 9 := by kernel_rfl
theorem sc_one (s : ScD) (A : Option Addr) (n c : Nat) (L : Option Addr) (m cm : Nat) : (scC s A n c L m cm).all (·.oneCell') = true := by
  unfold scC
  simp [Value.oneCell']
theorem OwnC.made (w : World) : OwnC (w.alloc (.cells #[] 50)) w.heap.size (.slice (some ⟨w.heap.size, 0, none⟩) 0 0) [] :=
  World.ownsRow_made w (e := 50) (base := w.heap.size) (size := 6) #[] 0 (Nat.le_refl _) (Nat.zero_le _) rfl
theorem OwnT.made (w : World) : OwnT (w.alloc (.cells #[] 9)) w.heap.size (.slice (some ⟨w.heap.size, 0, none⟩) 0 0) [] :=
  World.ownsRow_made w (e := 9) (base := w.heap.size) (size := 1) #[] 0 (Nat.le_refl _) (Nat.zero_le _) rfl
/-- The empty screen. -/
def scZ : ScD := ⟨0, 0, [], 0, 0, false, 0, ⟨#[]⟩, []⟩
end Go.Proofs.YtnnekdefncfeeaaDoor


/- What the reference's Same of two screens answers. Conditions: their parts can be read. -/
namespace Go.Proofs.YtnnekdefncfeeaaDoor
open Go Go.RowKit Go.Lib

set_option maxRecDepth 100000 in
set_option maxHeartbeats 16000000 in
theorem refSameG_c (A : Option Addr) (n c : Nat) (a : List CeD) (B : Option Addr) (m d : Nat) (b : List CeD) (w : World) (hn : a.length = n) (hra : RdC w A a) (hm : b.length = m) (hrb : RdC w B b) (hl : n ≤ 140737488355328) :
    Calls Tryd.prog 30 #[.agg #[.int .i64 0, .int .i64 0, .slice A n c], .agg #[.int .i64 0, .int .i64 0, .slice B m d]] w fun e w' => e = .returned (.bool (sameC a b)) ∧ Below w.heap.size w w' := by
  obtain ⟨W0, eW0⟩ : ∃ W0, W0 = (w.alloc (.cells #[.int .i64 0, .int .i64 0, .slice A n c] 61)).alloc (.cells #[.int .i64 0, .int .i64 0, .slice B m d] 61) := ⟨_, rfl⟩
  have hb0 : Below w.heap.size w W0 := by rw [eW0]; exact ((Below.refl _ _).alloc (Nat.le_refl _) _).alloc (by simp) _
  have HB0 := Lib.hid hb0
  have HRA := Lib.hid (hra.below hb0)
  have HRB := Lib.hid (hrb.below hb0)
  have HN := Lib.hid hn
  have HM := Lib.hid hm
  have EW0 := Lib.hid eW0
  clear hra hrb hb0 eW0 hn hm
  go_enter Tryd.func30, Tryd.ntmps30
  go_wp2_with (go_at_call 55; rw [← EW0.out]; (with_reducible refine (refSameC_c A n c a B m d b W0 HN.out HRA.out HM.out HRB.out hl).mono ?_); rintro _ w1 ⟨rfl, hb1⟩; have HB1 := Lib.hid (HB0.out.trans (hb1.mono HB0.out.size)); clear hb1)
  go_ret
  exact ⟨rfl, HB1.out⟩
def sameS (s t : ScD) : Bool := (s.cols == t.cols) && ((s.rows == t.rows) && ((s.x == t.x) && ((s.y == t.y) && ((s.hid == t.hid) && ((s.mouse == t.mouse) && ((s.title.toList == t.title.toList) && (sameT s.links t.links && sameC s.cells t.cells)))))))
set_option maxRecDepth 100000 in
set_option maxHeartbeats 16000000 in
theorem refSameS_c (s : ScD) (A : Option Addr) (n c : Nat) (L : Option Addr) (m cm : Nat) (t : ScD) (B : Option Addr) (k d : Nat) (M : Option Addr) (l dm : Nat) (w : World)
    (hn : s.cells.length = n) (hra : RdC w A s.cells) (hm : s.links.length = m) (hrl : RdT w L s.links) (hk : t.cells.length = k) (hrb : RdC w B t.cells) (hl : t.links.length = l) (hrm : RdT w M t.links) (hln : n ≤ 140737488355328) (hlm : m ≤ 140737488355328) :
    Calls Tryd.prog 17 #[.agg (scC s A n c L m cm), .agg (scC t B k d M l dm)] w fun e w' => e = .returned (.bool (sameS s t)) ∧ Below w.heap.size w w' := by
  show Calls _ _ #[.agg #[.int .i64 s.cols, .int .i64 s.rows, .slice A n c, .int .i64 s.x, .int .i64 s.y, .bool s.hid, .int .u8 s.mouse, .string s.title, .slice L m cm], .agg #[.int .i64 t.cols, .int .i64 t.rows, .slice B k d, .int .i64 t.x, .int .i64 t.y, .bool t.hid, .int .u8 t.mouse, .string t.title, .slice M l dm]] w _
  obtain ⟨W0, eW0⟩ : ∃ W0, W0 = (w.alloc (.cells #[.int .i64 s.cols, .int .i64 s.rows, .slice A n c, .int .i64 s.x, .int .i64 s.y, .bool s.hid, .int .u8 s.mouse, .string s.title, .slice L m cm] 25)).alloc (.cells #[.int .i64 t.cols, .int .i64 t.rows, .slice B k d, .int .i64 t.x, .int .i64 t.y, .bool t.hid, .int .u8 t.mouse, .string t.title, .slice M l dm] 25) := ⟨_, rfl⟩
  have hb0 : Below w.heap.size w W0 := by rw [eW0]; exact ((Below.refl _ _).alloc (Nat.le_refl _) _).alloc (by simp) _
  have h0 : ScB W0 w.heap.size s A n c L m cm := by rw [eW0]; exact (Below.heap_alloc _ _ _ (by simp)).trans (heap_alloc_new _ _)
  have h1 : ScB W0 (w.heap.size + 1) t B k d M l dm := by rw [eW0]; exact heap_alloc2_new _ _ _
  have HB0 := Lib.hid hb0
  have HP0 := Lib.hid h0
  have HQ0 := Lib.hid h1
  have HRA := Lib.hid (hra.below hb0)
  have HRB := Lib.hid (hrb.below hb0)
  have HRL := Lib.hid (RdT.below hrl hb0)
  have HRM := Lib.hid (RdT.below hrm hb0)
  have HN := Lib.hid hn
  have HM := Lib.hid hm
  have HK := Lib.hid hk
  have HL := Lib.hid hl
  have EW0 := Lib.hid eW0
  obtain ⟨R, eR⟩ : ∃ R, sameS s t = R := ⟨_, rfl⟩
  rw [eR]
  unfold sameS at eR
  obtain ⟨b0, e0⟩ : ∃ b, (s.cols == t.cols) = b := ⟨_, rfl⟩
  obtain ⟨b1, e1⟩ : ∃ b, (s.rows == t.rows) = b := ⟨_, rfl⟩
  obtain ⟨b2, e2⟩ : ∃ b, (s.x == t.x) = b := ⟨_, rfl⟩
  obtain ⟨b3, e3⟩ : ∃ b, (s.y == t.y) = b := ⟨_, rfl⟩
  obtain ⟨b4, e4⟩ : ∃ b, (s.hid == t.hid) = b := ⟨_, rfl⟩
  obtain ⟨b5, e5⟩ : ∃ b, (s.mouse == t.mouse) = b := ⟨_, rfl⟩
  obtain ⟨b6, e6⟩ : ∃ b, (s.title.toList == t.title.toList) = b := ⟨_, rfl⟩
  obtain ⟨bT, eT⟩ : ∃ b, sameT s.links t.links = b := ⟨_, rfl⟩
  rw [e0, e1, e2, e3, e4, e5, e6, eT] at eR
  have ET := Lib.hid eT
  clear hra hrb hrl hrm hb0 h0 h1 eW0 hn hm hk hl eT
  go_enter Tryd.func17, Tryd.ntmps17
  go_upto_region 1 with (fail)
  rw [← EW0.out]
  clear EW0
  obtain ⟨c0, c1, c2, c3, c4, c5, c6, c7, c8⟩ := HP0.out.nine
  obtain ⟨d0, d1, d2, d3, d4, d5, d6, d7, d8⟩ := HQ0.out.nine
  rcases Bool.eq_false_or_eq_true b0 with hb | hb
  rotate_left
  · rw [hb] at e0 eR
    have HR : Hid (R = false) := Lib.hid (by rw [← eR]; simp)
    clear eR
    go_wp2_with (fail)
    go_ret
    exact ⟨by rw [HR.out] <;> rfl, HB0.out⟩
  rw [hb] at e0 eR
  clear hb
  rcases Bool.eq_false_or_eq_true b1 with hb | hb
  rotate_left
  · rw [hb] at e1 eR
    have HR : Hid (R = false) := Lib.hid (by rw [← eR]; simp)
    clear eR
    go_wp2_with (fail)
    go_ret
    exact ⟨by rw [HR.out] <;> rfl, HB0.out⟩
  rw [hb] at e1 eR
  clear hb
  rcases Bool.eq_false_or_eq_true b2 with hb | hb
  rotate_left
  · rw [hb] at e2 eR
    have HR : Hid (R = false) := Lib.hid (by rw [← eR]; simp)
    clear eR
    go_wp2_with (fail)
    go_ret
    exact ⟨by rw [HR.out] <;> rfl, HB0.out⟩
  rw [hb] at e2 eR
  clear hb
  rcases Bool.eq_false_or_eq_true b3 with hb | hb
  rotate_left
  · rw [hb] at e3 eR
    have HR : Hid (R = false) := Lib.hid (by rw [← eR]; simp)
    clear eR
    go_wp2_with (fail)
    go_ret
    exact ⟨by rw [HR.out] <;> rfl, HB0.out⟩
  rw [hb] at e3 eR
  clear hb
  rcases Bool.eq_false_or_eq_true b4 with hb | hb
  rotate_left
  · rw [hb] at e4 eR
    have HR : Hid (R = false) := Lib.hid (by rw [← eR]; simp)
    clear eR
    go_wp2_with (fail)
    go_ret
    exact ⟨by rw [HR.out] <;> rfl, HB0.out⟩
  rw [hb] at e4 eR
  clear hb
  rcases Bool.eq_false_or_eq_true b5 with hb | hb
  rotate_left
  · rw [hb] at e5 eR
    have HR : Hid (R = false) := Lib.hid (by rw [← eR]; simp)
    clear eR
    go_wp2_with (fail)
    go_ret
    exact ⟨by rw [HR.out] <;> rfl, HB0.out⟩
  rw [hb] at e5 eR
  clear hb
  rcases Bool.eq_false_or_eq_true b6 with hb | hb
  rotate_left
  · rw [hb] at e6 eR
    have HR : Hid (R = false) := Lib.hid (by rw [← eR]; simp)
    clear eR
    go_wp2_with (fail)
    go_ret
    exact ⟨by rw [HR.out] <;> rfl, HB0.out⟩
  rw [hb] at e6 eR
  clear hb
  cases bT
  · have HR : Hid (R = false) := Lib.hid (by rw [← eR]; simp)
    clear eR
    go_wp2_with ((go_at_call 29; (with_reducible refine (refSameT_c L m cm s.links M l dm t.links W0 HM.out HRL.out HL.out HRM.out hlm).mono ?_); rintro _ w1 ⟨rfl, hb1⟩; rw [ET.out]; have HB1 := Lib.hid (HB0.out.trans (hb1.mono HB0.out.size)); have HP1 := Lib.hid (HP0.out.below hb1); have HQ1 := Lib.hid (HQ0.out.below hb1); have HRA1 := Lib.hid (HRA.out.below hb1); have HRB1 := Lib.hid (HRB.out.below hb1); clear hb1; obtain ⟨f0, f1, f2, f3, f4, f5, f6, f7, f8⟩ := HP1.out.nine; obtain ⟨g0, g1, g2, g3, g4, g5, g6, g7, g8⟩ := HQ1.out.nine))
    go_ret
    exact ⟨by rw [HR.out] <;> rfl, HB1.out⟩
  · have HR : Hid (R = sameC s.cells t.cells) := Lib.hid (by rw [← eR]; simp)
    clear eR
    go_wp2_with (first
      | (go_at_call 29; (with_reducible refine (refSameT_c L m cm s.links M l dm t.links W0 HM.out HRL.out HL.out HRM.out hlm).mono ?_); rintro _ w1 ⟨rfl, hb1⟩; rw [ET.out]; have HB1 := Lib.hid (HB0.out.trans (hb1.mono HB0.out.size)); have HP1 := Lib.hid (HP0.out.below hb1); have HQ1 := Lib.hid (HQ0.out.below hb1); have HRA1 := Lib.hid (HRA.out.below hb1); have HRB1 := Lib.hid (HRB.out.below hb1); clear hb1; obtain ⟨f0, f1, f2, f3, f4, f5, f6, f7, f8⟩ := HP1.out.nine; obtain ⟨g0, g1, g2, g3, g4, g5, g6, g7, g8⟩ := HQ1.out.nine)
      | (go_at_call 30; (with_reducible refine (refSameG_c A n c s.cells B k d t.cells w1 HN.out HRA1.out HK.out HRB1.out hln).mono ?_); rintro _ w2 ⟨rfl, hb2⟩; have HB2 := Lib.hid (HB1.out.trans (hb2.mono HB1.out.size)); clear hb2))
    go_ret
    exact ⟨by rw [HR.out] <;> rfl, HB2.out⟩
end Go.Proofs.YtnnekdefncfeeaaDoor


/- What slices.Clone answers of cells and of texts: the same in memory of one's own. Conditions: what can be read; lengths that fit. -/
namespace Go.Proofs.YtnnekdefncfeeaaDoor
open Go Go.RowKit Go.Lib

set_option maxRecDepth 100000 in
set_option maxHeartbeats 1000000 in
theorem CloneC_c (A : Option Addr) (n c : Nat) (ds : List CeD) (w : World) (hn : ds.length = n) (hr : RdC w A ds) (hl : n ≤ 7000000000000) :
    Calls Tryd.prog 32 #[.slice A n c] w fun r w' => ∃ v, r = .returned v ∧ OwnC w' w.heap.size v ds ∧ Below w.heap.size w w' := by
  have HD := Lib.hid hn
  have HR := Lib.hid hr; clear hr hn
  cases A with
  | none =>
    have h0 : ds = [] := by
      rcases HR.out with h | ⟨_, _, h, _⟩
      · have := congrArg List.length h
        rw [cellsC_length] at this
        simp only [List.length_nil] at this
        exact List.eq_nil_of_length_eq_zero (by omega)
      · cases h
    subst h0
    have he : ∀ w : World, (binOp .eql 22 (.slice none n c) (.slice none 0 0)).run Tryd.prog w = .ok (.bool true) w := fun _ => rfl
    go_enter Tryd.func32, Tryd.ntmps32
    go_wp2_with (fail)
    go_ret
    exact ⟨_, rfl, OwnC.nil_ _ _, Below.refl _ _⟩
  | some a =>
    have O1 := Lib.hid (OwnC.made w)
    have k1 : Below w.heap.size w (w.alloc (.cells #[] 50)) := (Below.refl _ _).alloc (Nat.le_refl _) _
    have he : ∀ w : World, (binOp .eql 22 (.slice (some a) n c) (.slice none 0 0)).run Tryd.prog w = .ok (.bool false) w := fun _ => rfl
    go_enter Tryd.func32, Tryd.ntmps32
    go_wp2_with (first | (at_builtin; refine wpList_appC _ rfl (.tmp 5) (.tmp 6) rfl w.heap.size _ [] rfl O1.out (some a) n c ds rfl HD.out (Rd.below HR.out k1) (by simpa using hl) k1.size ?_; intro v2 w2 h2 h3 _; have H2 := Lib.hid h2; clear h2; have k2 := k1.grown h3 k1.size (fun k e => (World.ownsRow.lt O1.out k e).1); clear h3))
    go_ret
    exact ⟨_, rfl, by have := H2.out; simpa using this, k2⟩
end Go.Proofs.YtnnekdefncfeeaaDoor


/- Plain: the parts of colours, how far they are, the nearest one, a colour by such as there are. Conditions: none. -/
namespace Go.Proofs.YtnnekdefncfeeaaDoor
open Go Go.Lib

def firstT : List (Int × Int × Int) := [(0, 0, 0), (205, 0, 0), (0, 205, 0), (205, 205, 0), (0, 0, 238), (205, 0, 205), (0, 205, 205), (229, 229, 229), (127, 127, 127), (255, 0, 0), (0, 255, 0), (255, 255, 0), (92, 92, 255), (255, 0, 255), (0, 255, 255), (255, 255, 255)]
end Go.Proofs.YtnnekdefncfeeaaDoor


/- What color.Parts answers of any colour. Conditions: its tables lie where they were laid. -/
namespace Go.Proofs.YtnnekdefncfeeaaDoor
open Go Go.RowKit Go.Lib

/-- The colours' tables. -/
def firstV : List Value := firstT.flatMap fun p => [.int .u8 p.1, .int .u8 p.2.1, .int .u8 p.2.2]
def levelV : List Value := [0, 95, 135, 175, 215, 255].map fun z => Value.int .i64 z
def TabC (w : World) : Prop := TabAt w 2 firstV ∧ TabAt w 3 levelV
theorem TabC.below {w w' : World} {B : Nat} (h : TabC w) (hb : Below B w w') (hB : 3 < B) : TabC w' := ⟨h.1.below hb (by omega), h.2.below hb hB⟩
theorem TabC.next {w w' : World} (h : TabC w) (hb : Below w.heap.size w w') : TabC w' := h.below hb h.2.1
theorem TabAt.at_ {w : World} {g : Nat} {vs : List Value} (h : TabAt w g vs) {i : Nat} {v : Value} (hv : vs[i]? = some v) : w.cell? ⟨g, i, none⟩ = some v := by
  obtain ⟨hj, e⟩ := List.getElem?_eq_some_iff.1 hv
  rw [h.2 i hj, e]
end Go.Proofs.YtnnekdefncfeeaaDoor


/- What a row's list of tables says of the world: an array of arrays of integers, an array of integers, wherever they stand on the list. Conditions: none. -/
namespace Go.Proofs.YtnnekdefncfeeaaDoor
open Go Go.RowKit Go.Lib

theorem rows_cells {α : Type} (f : α → Value) (m : Nat) : ∀ (rows : List (List α)) (cs : List Value), cs.length = rows.length * m → (∀ i (h : i < rows.length), (cs.drop (i * m)).take m = rows[i].map f) → cs = rows.flatMap fun r => r.map f
  | [], cs, hl, _ => by
    have : cs = [] := List.eq_nil_of_length_eq_zero (by simpa using hl)
    rw [this]; rfl
  | r :: rs, cs, hl, h => by
    have h0 := h 0 (by simp)
    rw [Nat.zero_mul, List.drop_zero] at h0
    have hl2 : cs.length = rs.length * m + m := by rw [hl, List.length_cons, Nat.add_mul, Nat.one_mul]
    have ih := rows_cells f m rs (cs.drop m) (by rw [List.length_drop]; omega) (fun i hi => by
      have := h (i + 1) (by simpa using hi)
      rw [Nat.add_mul, Nat.one_mul] at this
      rw [List.drop_drop, Nat.add_comm m]
      exact this)
    show cs = r.map f ++ rs.flatMap fun r => r.map f
    rw [← ih]
    have h0' : cs.take m = r.map f := h0
    rw [← h0', List.take_append_drop]
section
variable {H : Type} {enc : TypeId × Value → H} {P : Program} {w : World} {base : Nat} {sp : Nat → Bool} {held : Bool}
theorem cells_of_rows {fuel : Nat} {t e i : TypeId} {n m : Nat} {k : IntKind} {cs : List Value} {rows : List (List Int)} {p : List MemPlace} (ht : P.underlying t = some (.array n e)) (he : P.underlying e = some (.array m i)) (hi : P.underlying i = some (.int k))
    (hci : P.cellsOf i = 1) (hce : P.cellsOf e = m) (hct : P.cellsOf t = n * m) (h : DataW.trod enc P w base sp held fuel t cs = some (.agg (rows.map (tabData k)), p)) : cs = rows.flatMap fun r => r.map fun z => Value.int k z := by
  cases fuel with
  | zero => simp [DataW.trod] at h
  | succ fuel =>
    simp only [DataW.trod, ht, hce] at h
    split at h
    · rename_i hl
      obtain ⟨xs, hm, hx⟩ := Option.map_eq_some_iff.1 h
      have hds : xs.map (·.1) = rows.map (tabData k) := by
        have := congrArg Prod.fst hx
        simpa using this
      have hxl : xs.length = n := by
        have := mapM_length hm
        rw [List.length_range] at this
        exact this
      have hrl : rows.length = n := by
        have := congrArg List.length hds
        simp at this
        omega
      have hcl : cs.length = n * m := by
        first
          | (rw [hct] at hl; exact hl)
          | (rw [hct] at hl; exact of_decide_eq_true hl)
          | (simpa [hct] using hl)
      refine rows_cells _ m rows cs (by rw [hrl]; exact hcl) (fun j hj => ?_)
      obtain ⟨b, hb, hf⟩ := mapM_at hm j j (by rw [List.getElem?_eq_getElem (by rw [List.length_range]; omega), List.getElem_range])
      have h2 : (xs.map (·.1))[j]? = some b.1 := by simp [hb]
      rw [hds, List.getElem?_map, List.getElem?_eq_getElem hj] at h2
      have h3 : tabData k rows[j] = b.1 := by simpa using h2
      have hf' : DataW.trod enc P w base sp held fuel e ((cs.drop (j * m)).take m) = some (tabData k rows[j], b.2) := by
        rw [h3]; exact hf
      exact cells_of_tab he hi hci hce hf'
    · cases h
end
/-- What a listed variable reads as. -/
theorem reads_of {P : Program} {w : World} : ∀ {l : List (String × DataW Unit)} {ps : List MemPlace}, DataW.LaidVars P w l ps → ∀ n d, (n, d) ∈ l →
    ∃ g t cs fuel p, P.globalNamed n = some g ∧ (P.globals[g]?).map (·.type) = some t ∧ w.var? P n = some cs ∧ DataW.trod (fun _ => ()) P w 0 (fun _ => true) false fuel t cs.toList = some (d, p)
  | [], _, _, _, _, hm => by cases hm
  | (n', d') :: r, ps, h, n, d, hm => by
    obtain ⟨g, t, cs, fuel, p, q, h1, h2, h3, h4, h5, _⟩ := h
    rcases List.mem_cons.1 hm with e | e
    · cases e
      exact ⟨g, t, cs, fuel, p, h1, h2, h3, h4⟩
    · exact reads_of h5 n d e
theorem tabAt_of {P : Program} {w : World} {n : String} {g : Nat} {cs : Array Value} {vs : List Value} (hg : P.globalNamed n = some g) (hv : w.var? P n = some cs) (hc : cs.toList = vs) (h0 : 0 < vs.length) : TabAt w g vs := by
  have hcell : ∀ i (h : i < vs.length), w.cell? ⟨g, i, none⟩ = some vs[i] := by
    intro i hi
    rw [World.var?_cell hg hv i]
    subst hc
    simp [List.getElem?_eq_getElem hi]
  exact ⟨World.block_lt_of_cell? w ⟨g, 0, none⟩ (hcell 0 h0), hcell⟩
theorem tab_rows {P : Program} {w : World} {l : List (String × DataW Unit)} {name : String} {g : Nat} {t e i : TypeId} {n m : Nat} {k : IntKind} {rows : List (List Int)} {vs : List Value} (h : laidMet P l w) (hm : (name, .agg (rows.map (tabData k))) ∈ l)
    (hg : P.globalNamed name = some g) (hty : (P.globals[g]?).map (·.type) = some t) (ht : P.underlying t = some (.array n e)) (he : P.underlying e = some (.array m i)) (hi : P.underlying i = some (.int k)) (hci : P.cellsOf i = 1) (hce : P.cellsOf e = m) (hct : P.cellsOf t = n * m)
    (hvs : (rows.flatMap fun r => r.map fun z => Value.int k z) = vs) (h0 : 0 < vs.length) : TabAt w g vs := by
  obtain ⟨ps, hl, _⟩ := h
  obtain ⟨g', t', cs, fuel, p, q1, q2, q3, q4⟩ := reads_of hl _ _ hm
  obtain rfl := Option.some.inj (hg.symm.trans q1)
  obtain rfl := Option.some.inj (hty.symm.trans q2)
  exact tabAt_of hg q3 ((cells_of_rows ht he hi hci hce hct q4).trans hvs) h0
end Go.Proofs.YtnnekdefncfeeaaDoor


/- The four tables, out of what a row lists; a world that holds them, for the witness. Conditions: none. -/
namespace Go.Proofs.YtnnekdefncfeeaaDoor
open Go Go.RowKit Go.ChangeShapes Go.WideShapes

theorem laid_none : (Rows.laid_spyglass_utf_none : DataW Unit) = .agg ((noneL.map fun p => [p.1, p.2]).map (Lib.tabData .i32)) := by kernel_rfl
theorem laid_wide : (Rows.laid_spyglass_utf_wide : DataW Unit) = .agg ((wideL.map fun p => [p.1, p.2]).map (Lib.tabData .i32)) := by kernel_rfl
theorem tabU_met {l : List (String × DataW Unit)} {W : World} (h : laidMet Tryd.prog l W) (h0 : ("spyglass/utf.none", Rows.laid_spyglass_utf_none) ∈ l) (h1 : ("spyglass/utf.wide", Rows.laid_spyglass_utf_wide) ∈ l) : TabU W := by
  rw [laid_none] at h0
  rw [laid_wide] at h1
  exact ⟨tab_rows h h0 (by kernel_rfl) (t := 122) (by kernel_rfl) Tryd.underlying122 Tryd.underlying121 Tryd.underlying21 (by kernel_rfl) (by kernel_rfl) (by kernel_rfl) (by kernel_rfl) (by decide),
    tab_rows h h1 (by kernel_rfl) (t := 123) (by kernel_rfl) Tryd.underlying123 Tryd.underlying121 Tryd.underlying21 (by kernel_rfl) (by kernel_rfl) (by kernel_rfl) (by kernel_rfl) (by decide)⟩
theorem tabs2_of {W : World} (h : laidMetH Tryd.prog [("spyglass/utf.none", Rows.laid_spyglass_utf_none), ("spyglass/utf.wide", Rows.laid_spyglass_utf_wide)] W) : TabU W :=
  tabU_met (show laidMet Tryd.prog [("spyglass/utf.none", Rows.laid_spyglass_utf_none), ("spyglass/utf.wide", Rows.laid_spyglass_utf_wide)] W from h) (by simp) (by simp)
def setRow0 (cs : Array Value) : Obj → Obj
  | .cells _ t frozen => .cells cs t frozen
  | o => o
/-- The same where the colours' tables are not there. -/
noncomputable def laidWorld2 (os : Os) : World :=
  { World.holding Tryd.prog os ⟨#[], #[], []⟩ with heap := (((World.holding Tryd.prog os ⟨#[], #[], []⟩).heap.modify 0 (setRow0 (rngV noneL).toArray)).modify 1 (setRow0 (rngV wideL).toArray)) }
end Go.Proofs.YtnnekdefncfeeaaDoor


/- What color.Parts and color.Far answer of any colours. Conditions: the tables lie where they were laid. -/
namespace Go.Proofs.YtnnekdefncfeeaaDoor
open Go Go.RowKit Go.Lib

end Go.Proofs.YtnnekdefncfeeaaDoor


/- What color.To256, To16 and Fit answer of any colours. Conditions: the tables lie where they were laid. -/
namespace Go.Proofs.YtnnekdefncfeeaaDoor
open Go Go.RowKit Go.Lib

end Go.Proofs.YtnnekdefncfeeaaDoor

