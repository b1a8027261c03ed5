/- Parts one behind the other: What the program's Right answers of any screen; What the reference's Right answers of any screen; What the reference's Copy of a screen answers: other memory; What the reference's Same of two screens answers; What slices.Clone answers of cells and of texts: the same in memory of one's own; Plain: the parts of colours, how far they are, the nearest one, a colour by such as there are. Conditions: as told at each. -/
import Derived.Test.YtndjggabdajbfaaGreatDoorPG11
import Derived.Laws.Rows
import Derived.Laws.Tables
import Derived.Test.YtndjggabdajbfaaGreatDoorPG3

set_option linter.unusedVariables false
set_option linter.unusedSimpArgs false
/- What the program's Right answers of any screen. Conditions: its parts can be read. -/
namespace Go.Proofs.YtndjggabdajbfaaGreatDoor
open Go Go.RowKit Go.Lib

set_option maxRecDepth 100000 in
set_option maxHeartbeats 16000000 in
theorem emulRight_c (s : ScD) (A : Option Addr) (n c : Nat) (L : Option Addr) (m cm : Nat) (w : World) (hs : ScR w s A n c L m cm) (hT : TabU w) :
    Calls Tryz.prog 32 #[.agg (scC s A n c L m cm)] w fun e w' => e = .returned (.bool (rightS s)) ∧ Below w.heap.size w w' := by
  show Calls _ _ #[.agg #[.int .i64 s.cols, .int .i64 s.rows, .slice A n c, .int .i64 s.x, .int .i64 s.y, .bool s.hid, .int .u8 s.mouse, .string s.title, .slice L m cm]] w _
  obtain ⟨W0, eW0⟩ : ∃ W0, W0 = w.alloc (.cells #[.int .i64 s.cols, .int .i64 s.rows, .slice A n c, .int .i64 s.x, .int .i64 s.y, .bool s.hid, .int .u8 s.mouse, .string s.title, .slice L m cm] 25) := ⟨_, rfl⟩
  have hb0 : Below w.heap.size w W0 := by rw [eW0]; exact (Below.refl _ _).alloc (Nat.le_refl _) _
  have h0 : ScB W0 w.heap.size s A n c L m cm := by rw [eW0]; exact heap_alloc_new _ _
  have HB0 := Lib.hid hb0
  have HS0 := Lib.hid h0
  have HR0 := Lib.hid (hs.below hb0)
  have HT0 := Lib.hid (hT.next hb0)
  have EW0 := Lib.hid eW0
  obtain ⟨R, eR⟩ : ∃ R, rightS s = R := ⟨_, rfl⟩
  have hcs := rightS_cases s
  rw [eR] at hcs ⊢
  have htl := hs.tl
  clear eR hs hT hb0 h0 eW0
  go_enter Tryz.func32, Tryz.ntmps32
  go_upto_region 1 with (fail)
  rw [← EW0.out]
  clear EW0
  obtain ⟨c0, c1, c2, c3, c4, c5, c6, c7, c8⟩ := HS0.out.nine
  rcases hcs with ⟨hg, hr⟩ | ⟨hg, hl, hr⟩ | ⟨hg, hl, hq, hr⟩ | ⟨hg, hl, d3, d4, d5, d6, d7, d8, hr⟩
  · have HR := Lib.hid hr
    have HG := Lib.hid hg
    clear hr hg
    go_wp2_with (first
      | (go_at_call 52; (with_reducible refine (gridMay_c s.cols s.rows A n c s.cells W0 HR0.out.hn HR0.out.rd HR0.out.nc (by have := HR0.out.nl; omega) HT0.out).mono ?_); rintro _ w1 ⟨rfl, hb1⟩; rw [HG.out]; have HB1 := Lib.hid (HB0.out.trans (hb1.mono HB0.out.size)); have HS1 := Lib.hid (HS0.out.below hb1); have HR1 := Lib.hid (HR0.out.below hb1); have HT1 := Lib.hid (HT0.out.next hb1); clear hb1; obtain ⟨x10, x11, x12, x13, x14, x15, x16, x17, x18⟩ := HS1.out.nine))
    go_ret
    exact ⟨by rw [HR.out] <;> rfl, HB1.out⟩
  · have HR := Lib.hid hr
    have HG := Lib.hid hg
    have HL := Lib.hid hl
    clear hr hg hl
    go_wp2_with (first
      | (go_at_call 52; (with_reducible refine (gridMay_c s.cols s.rows A n c s.cells W0 HR0.out.hn HR0.out.rd HR0.out.nc (by have := HR0.out.nl; omega) HT0.out).mono ?_); rintro _ w1 ⟨rfl, hb1⟩; rw [HG.out]; have HB1 := Lib.hid (HB0.out.trans (hb1.mono HB0.out.size)); have HS1 := Lib.hid (HS0.out.below hb1); have HR1 := Lib.hid (HR0.out.below hb1); have HT1 := Lib.hid (HT0.out.next hb1); clear hb1; obtain ⟨x10, x11, x12, x13, x14, x15, x16, x17, x18⟩ := HS1.out.nine)
      | (go_at_call 53; (with_reducible refine (lnkRight_c A n c s.cells L m cm s.links w1 HR1.out.hn HR1.out.rd (by have := HR1.out.nl; omega) HR1.out.hm HR1.out.rt HR1.out.mc HR1.out.us HR1.out.ok).mono ?_); rintro _ w2 ⟨rfl, hb2⟩; rw [HL.out]; have HB2 := Lib.hid (HB1.out.trans (hb2.mono HB1.out.size)); have HS2 := Lib.hid (HS1.out.below hb2); have HR2 := Lib.hid (HR1.out.below hb2); have HT2 := Lib.hid (HT1.out.next hb2); clear hb2; obtain ⟨x20, x21, x22, x23, x24, x25, x26, x27, x28⟩ := HS2.out.nine))
    go_ret
    exact ⟨by rw [HR.out] <;> rfl, HB2.out⟩
  · have HR := Lib.hid hr
    have HG := Lib.hid hg
    have HL := Lib.hid hl
    clear hr hg hl
    have key : ∀ {a b : Bool}, (!a && b) = false → a = true ∨ (a = false ∧ b = false) := by intro a b; cases a <;> cases b <;> simp
    rcases key hq with d3 | ⟨d3, hq⟩
    · clear hq
      clear key
      go_wp2_with (first
        | (go_at_call 52; (with_reducible refine (gridMay_c s.cols s.rows A n c s.cells W0 HR0.out.hn HR0.out.rd HR0.out.nc (by have := HR0.out.nl; omega) HT0.out).mono ?_); rintro _ w1 ⟨rfl, hb1⟩; rw [HG.out]; have HB1 := Lib.hid (HB0.out.trans (hb1.mono HB0.out.size)); have HS1 := Lib.hid (HS0.out.below hb1); have HR1 := Lib.hid (HR0.out.below hb1); have HT1 := Lib.hid (HT0.out.next hb1); clear hb1; obtain ⟨x10, x11, x12, x13, x14, x15, x16, x17, x18⟩ := HS1.out.nine)
        | (go_at_call 53; (with_reducible refine (lnkRight_c A n c s.cells L m cm s.links w1 HR1.out.hn HR1.out.rd (by have := HR1.out.nl; omega) HR1.out.hm HR1.out.rt HR1.out.mc HR1.out.us HR1.out.ok).mono ?_); rintro _ w2 ⟨rfl, hb2⟩; rw [HL.out]; have HB2 := Lib.hid (HB1.out.trans (hb2.mono HB1.out.size)); have HS2 := Lib.hid (HS1.out.below hb2); have HR2 := Lib.hid (HR1.out.below hb2); have HT2 := Lib.hid (HT1.out.next hb2); clear hb2; obtain ⟨x20, x21, x22, x23, x24, x25, x26, x27, x28⟩ := HS2.out.nine))
      go_ret
      exact ⟨by rw [HR.out] <;> rfl, HB2.out⟩
    rcases key hq with d4 | ⟨d4, hq⟩
    · clear hq
      clear key
      go_wp2_with (first
        | (go_at_call 52; (with_reducible refine (gridMay_c s.cols s.rows A n c s.cells W0 HR0.out.hn HR0.out.rd HR0.out.nc (by have := HR0.out.nl; omega) HT0.out).mono ?_); rintro _ w1 ⟨rfl, hb1⟩; rw [HG.out]; have HB1 := Lib.hid (HB0.out.trans (hb1.mono HB0.out.size)); have HS1 := Lib.hid (HS0.out.below hb1); have HR1 := Lib.hid (HR0.out.below hb1); have HT1 := Lib.hid (HT0.out.next hb1); clear hb1; obtain ⟨x10, x11, x12, x13, x14, x15, x16, x17, x18⟩ := HS1.out.nine)
        | (go_at_call 53; (with_reducible refine (lnkRight_c A n c s.cells L m cm s.links w1 HR1.out.hn HR1.out.rd (by have := HR1.out.nl; omega) HR1.out.hm HR1.out.rt HR1.out.mc HR1.out.us HR1.out.ok).mono ?_); rintro _ w2 ⟨rfl, hb2⟩; rw [HL.out]; have HB2 := Lib.hid (HB1.out.trans (hb2.mono HB1.out.size)); have HS2 := Lib.hid (HS1.out.below hb2); have HR2 := Lib.hid (HR1.out.below hb2); have HT2 := Lib.hid (HT1.out.next hb2); clear hb2; obtain ⟨x20, x21, x22, x23, x24, x25, x26, x27, x28⟩ := HS2.out.nine))
      go_ret
      exact ⟨by rw [HR.out] <;> rfl, HB2.out⟩
    rcases key hq with d5 | ⟨d5, hq⟩
    · clear hq
      clear key
      go_wp2_with (first
        | (go_at_call 52; (with_reducible refine (gridMay_c s.cols s.rows A n c s.cells W0 HR0.out.hn HR0.out.rd HR0.out.nc (by have := HR0.out.nl; omega) HT0.out).mono ?_); rintro _ w1 ⟨rfl, hb1⟩; rw [HG.out]; have HB1 := Lib.hid (HB0.out.trans (hb1.mono HB0.out.size)); have HS1 := Lib.hid (HS0.out.below hb1); have HR1 := Lib.hid (HR0.out.below hb1); have HT1 := Lib.hid (HT0.out.next hb1); clear hb1; obtain ⟨x10, x11, x12, x13, x14, x15, x16, x17, x18⟩ := HS1.out.nine)
        | (go_at_call 53; (with_reducible refine (lnkRight_c A n c s.cells L m cm s.links w1 HR1.out.hn HR1.out.rd (by have := HR1.out.nl; omega) HR1.out.hm HR1.out.rt HR1.out.mc HR1.out.us HR1.out.ok).mono ?_); rintro _ w2 ⟨rfl, hb2⟩; rw [HL.out]; have HB2 := Lib.hid (HB1.out.trans (hb2.mono HB1.out.size)); have HS2 := Lib.hid (HS1.out.below hb2); have HR2 := Lib.hid (HR1.out.below hb2); have HT2 := Lib.hid (HT1.out.next hb2); clear hb2; obtain ⟨x20, x21, x22, x23, x24, x25, x26, x27, x28⟩ := HS2.out.nine))
      go_ret
      exact ⟨by rw [HR.out] <;> rfl, HB2.out⟩
    rcases key hq with d6 | ⟨d6, hq⟩
    · clear hq
      clear key
      go_wp2_with (first
        | (go_at_call 52; (with_reducible refine (gridMay_c s.cols s.rows A n c s.cells W0 HR0.out.hn HR0.out.rd HR0.out.nc (by have := HR0.out.nl; omega) HT0.out).mono ?_); rintro _ w1 ⟨rfl, hb1⟩; rw [HG.out]; have HB1 := Lib.hid (HB0.out.trans (hb1.mono HB0.out.size)); have HS1 := Lib.hid (HS0.out.below hb1); have HR1 := Lib.hid (HR0.out.below hb1); have HT1 := Lib.hid (HT0.out.next hb1); clear hb1; obtain ⟨x10, x11, x12, x13, x14, x15, x16, x17, x18⟩ := HS1.out.nine)
        | (go_at_call 53; (with_reducible refine (lnkRight_c A n c s.cells L m cm s.links w1 HR1.out.hn HR1.out.rd (by have := HR1.out.nl; omega) HR1.out.hm HR1.out.rt HR1.out.mc HR1.out.us HR1.out.ok).mono ?_); rintro _ w2 ⟨rfl, hb2⟩; rw [HL.out]; have HB2 := Lib.hid (HB1.out.trans (hb2.mono HB1.out.size)); have HS2 := Lib.hid (HS1.out.below hb2); have HR2 := Lib.hid (HR1.out.below hb2); have HT2 := Lib.hid (HT1.out.next hb2); clear hb2; obtain ⟨x20, x21, x22, x23, x24, x25, x26, x27, x28⟩ := HS2.out.nine))
      go_ret
      exact ⟨by rw [HR.out] <;> rfl, HB2.out⟩
    rcases key hq with d7 | ⟨d7, hq⟩
    · clear hq
      clear key
      go_wp2_with (first
        | (go_at_call 52; (with_reducible refine (gridMay_c s.cols s.rows A n c s.cells W0 HR0.out.hn HR0.out.rd HR0.out.nc (by have := HR0.out.nl; omega) HT0.out).mono ?_); rintro _ w1 ⟨rfl, hb1⟩; rw [HG.out]; have HB1 := Lib.hid (HB0.out.trans (hb1.mono HB0.out.size)); have HS1 := Lib.hid (HS0.out.below hb1); have HR1 := Lib.hid (HR0.out.below hb1); have HT1 := Lib.hid (HT0.out.next hb1); clear hb1; obtain ⟨x10, x11, x12, x13, x14, x15, x16, x17, x18⟩ := HS1.out.nine)
        | (go_at_call 53; (with_reducible refine (lnkRight_c A n c s.cells L m cm s.links w1 HR1.out.hn HR1.out.rd (by have := HR1.out.nl; omega) HR1.out.hm HR1.out.rt HR1.out.mc HR1.out.us HR1.out.ok).mono ?_); rintro _ w2 ⟨rfl, hb2⟩; rw [HL.out]; have HB2 := Lib.hid (HB1.out.trans (hb2.mono HB1.out.size)); have HS2 := Lib.hid (HS1.out.below hb2); have HR2 := Lib.hid (HR1.out.below hb2); have HT2 := Lib.hid (HT1.out.next hb2); clear hb2; obtain ⟨x20, x21, x22, x23, x24, x25, x26, x27, x28⟩ := HS2.out.nine))
      go_ret
      exact ⟨by rw [HR.out] <;> rfl, HB2.out⟩
    have d8 : decide (64 < (s.title.size : Int)) = true := by simpa using hq
    clear hq
    clear key
    go_wp2_with (first
      | (go_at_call 52; (with_reducible refine (gridMay_c s.cols s.rows A n c s.cells W0 HR0.out.hn HR0.out.rd HR0.out.nc (by have := HR0.out.nl; omega) HT0.out).mono ?_); rintro _ w1 ⟨rfl, hb1⟩; rw [HG.out]; have HB1 := Lib.hid (HB0.out.trans (hb1.mono HB0.out.size)); have HS1 := Lib.hid (HS0.out.below hb1); have HR1 := Lib.hid (HR0.out.below hb1); have HT1 := Lib.hid (HT0.out.next hb1); clear hb1; obtain ⟨x10, x11, x12, x13, x14, x15, x16, x17, x18⟩ := HS1.out.nine)
      | (go_at_call 53; (with_reducible refine (lnkRight_c A n c s.cells L m cm s.links w1 HR1.out.hn HR1.out.rd (by have := HR1.out.nl; omega) HR1.out.hm HR1.out.rt HR1.out.mc HR1.out.us HR1.out.ok).mono ?_); rintro _ w2 ⟨rfl, hb2⟩; rw [HL.out]; have HB2 := Lib.hid (HB1.out.trans (hb2.mono HB1.out.size)); have HS2 := Lib.hid (HS1.out.below hb2); have HR2 := Lib.hid (HR1.out.below hb2); have HT2 := Lib.hid (HT1.out.next hb2); clear hb2; obtain ⟨x20, x21, x22, x23, x24, x25, x26, x27, x28⟩ := HS2.out.nine))
    go_ret
    exact ⟨by rw [HR.out] <;> rfl, HB2.out⟩
  · have HG := Lib.hid hg
    have HL := Lib.hid hl
    have HRR := Lib.hid hr
    clear hg hl hr
    obtain ⟨U, eU⟩ : ∃ U, utfV (strB s.title) = U := ⟨_, rfl⟩
    have HU := Lib.hid eU
    clear eU
    cases U
    · have HR : Hid (R = false) := Lib.hid (by rw [HRR.out, HU.out]; rfl)
      go_wp2_with (first
        | (go_at_call 52; (with_reducible refine (gridMay_c s.cols s.rows A n c s.cells W0 HR0.out.hn HR0.out.rd HR0.out.nc (by have := HR0.out.nl; omega) HT0.out).mono ?_); rintro _ w1 ⟨rfl, hb1⟩; rw [HG.out]; have HB1 := Lib.hid (HB0.out.trans (hb1.mono HB0.out.size)); have HS1 := Lib.hid (HS0.out.below hb1); have HR1 := Lib.hid (HR0.out.below hb1); have HT1 := Lib.hid (HT0.out.next hb1); clear hb1; obtain ⟨x10, x11, x12, x13, x14, x15, x16, x17, x18⟩ := HS1.out.nine)
        | (go_at_call 53; (with_reducible refine (lnkRight_c A n c s.cells L m cm s.links w1 HR1.out.hn HR1.out.rd (by have := HR1.out.nl; omega) HR1.out.hm HR1.out.rt HR1.out.mc HR1.out.us HR1.out.ok).mono ?_); rintro _ w2 ⟨rfl, hb2⟩; rw [HL.out]; have HB2 := Lib.hid (HB1.out.trans (hb2.mono HB1.out.size)); have HS2 := Lib.hid (HS1.out.below hb2); have HR2 := Lib.hid (HR1.out.below hb2); have HT2 := Lib.hid (HT1.out.next hb2); clear hb2; obtain ⟨x20, x21, x22, x23, x24, x25, x26, x27, x28⟩ := HS2.out.nine; obtain ⟨A5, c5, w3, hcv, q3, q1, q2, hb3⟩ := conv_run w2 s.title (by omega); have Q3 := Lib.hid q3; clear q3; have HB3 := Lib.hid (HB2.out.trans (hb3.mono HB2.out.size)); have HS3 := Lib.hid (HS2.out.below hb3); have HR3 := Lib.hid (HR2.out.below hb3); have HT3 := Lib.hid (HT2.out.next hb3); clear hb3; obtain ⟨x30, x31, x32, x33, x34, x35, x36, x37, x38⟩ := HS3.out.nine)
        | (go_at_call 54; (with_reducible refine (utfValid_c A5 s.title.size c5 (strB s.title) w3 (strB_len _) Q3.out htl).mono ?_); rintro _ w4 ⟨rfl, hb4⟩; rw [HU.out]; have HB4 := Lib.hid (HB3.out.trans (hb4.mono HB3.out.size)); have HS4 := Lib.hid (HS3.out.below hb4); have HR4 := Lib.hid (HR3.out.below hb4); have HT4 := Lib.hid (HT3.out.next hb4); clear hb4; obtain ⟨x40, x41, x42, x43, x44, x45, x46, x47, x48⟩ := HS4.out.nine))
      go_ret
      exact ⟨by rw [HR.out] <;> rfl, HB4.out⟩
    · have HR : Hid (R = wdV (strB s.title)) := Lib.hid (by rw [HRR.out, HU.out]; rfl)
      go_wp2_with (first
        | (go_at_call 52; (with_reducible refine (gridMay_c s.cols s.rows A n c s.cells W0 HR0.out.hn HR0.out.rd HR0.out.nc (by have := HR0.out.nl; omega) HT0.out).mono ?_); rintro _ w1 ⟨rfl, hb1⟩; rw [HG.out]; have HB1 := Lib.hid (HB0.out.trans (hb1.mono HB0.out.size)); have HS1 := Lib.hid (HS0.out.below hb1); have HR1 := Lib.hid (HR0.out.below hb1); have HT1 := Lib.hid (HT0.out.next hb1); clear hb1; obtain ⟨x10, x11, x12, x13, x14, x15, x16, x17, x18⟩ := HS1.out.nine)
        | (go_at_call 53; (with_reducible refine (lnkRight_c A n c s.cells L m cm s.links w1 HR1.out.hn HR1.out.rd (by have := HR1.out.nl; omega) HR1.out.hm HR1.out.rt HR1.out.mc HR1.out.us HR1.out.ok).mono ?_); rintro _ w2 ⟨rfl, hb2⟩; rw [HL.out]; have HB2 := Lib.hid (HB1.out.trans (hb2.mono HB1.out.size)); have HS2 := Lib.hid (HS1.out.below hb2); have HR2 := Lib.hid (HR1.out.below hb2); have HT2 := Lib.hid (HT1.out.next hb2); clear hb2; obtain ⟨x20, x21, x22, x23, x24, x25, x26, x27, x28⟩ := HS2.out.nine; obtain ⟨A5, c5, w3, hcv, q3, q1, q2, hb3⟩ := conv_run w2 s.title (by omega); have Q3 := Lib.hid q3; clear q3; have HB3 := Lib.hid (HB2.out.trans (hb3.mono HB2.out.size)); have HS3 := Lib.hid (HS2.out.below hb3); have HR3 := Lib.hid (HR2.out.below hb3); have HT3 := Lib.hid (HT2.out.next hb3); clear hb3; obtain ⟨x30, x31, x32, x33, x34, x35, x36, x37, x38⟩ := HS3.out.nine)
        | (go_at_call 54; (with_reducible refine (utfValid_c A5 s.title.size c5 (strB s.title) w3 (strB_len _) Q3.out htl).mono ?_); rintro _ w4 ⟨rfl, hb4⟩; rw [HU.out]; have HB4 := Lib.hid (HB3.out.trans (hb4.mono HB3.out.size)); have HS4 := Lib.hid (HS3.out.below hb4); have HR4 := Lib.hid (HR3.out.below hb4); have HT4 := Lib.hid (HT3.out.next hb4); clear hb4; obtain ⟨x40, x41, x42, x43, x44, x45, x46, x47, x48⟩ := HS4.out.nine))
      obtain ⟨g, eg⟩ : ∃ g, g = w4.heap.size := ⟨_, rfl⟩
      have EG := Lib.hid eg
      rw [← eg]
      clear eg
      obtain ⟨bs, ebs⟩ : ∃ bs, bs = strB s.title := ⟨_, rfl⟩
      obtain ⟨sz, esz⟩ : ∃ sz, sz = s.title.size := ⟨_, rfl⟩
      have HBS := Lib.hid ebs
      have HSZ := Lib.hid esz
      have HLEN : Hid (bs.length = sz) := Lib.hid (by rw [ebs, esz, strB_len])
      clear ebs esz
      go_loopw [4] (fun _ wr => ∃ pos : Nat, pos ≤ sz ∧ Hid (R = wdV (bs.drop pos)) ∧ Hid (wr.heap[g]? = some (.stringIter s.title pos)) ∧ Hid (Below w4.heap.size w4 wr)) (fun _ wr => sz - wr.iterPos g)
      case atStart =>
        refine ⟨0, Nat.zero_le _, Lib.hid (by rw [HBS.out, HR.out]; rfl), Lib.hid ?_, Lib.hid ?_⟩
        · rw [EG.out]
          have := World.iter_heap w4 s.title 0
          simpa using this
        · exact (Below.refl _ _).alloc (Nat.le_refl _) _
      case round =>
        obtain ⟨pos, hp, HG2, HIT, HB⟩ := hrel
        clear x40 x41 x42 x43 x44 x45 x46 x47 x48 x30 x31 x32 x33 x34 x35 x36 x37 x38 x20 x21 x22 x23 x24 x25 x26 x27 x28 x10 x11 x12 x13 x14 x15 x16 x17 x18 c0 c1 c2 c3 c4 c6 c7 c8 d3 d4 d5 d6 d7 d8 hcv
        rcases Nat.lt_or_ge pos sz with hlt | hge
        · have hps : pos < s.title.size := by rw [← HSZ.out]; exact hlt
          obtain ⟨l, el⟩ : ∃ l, l = bs.drop pos := ⟨_, rfl⟩
          have hll : l.length = sz - pos := by rw [el, List.length_drop, HLEN.out]
          have hne : l ≠ [] := by intro e; rw [e] at hll; simp at hll; omega
          obtain ⟨r, wd, hdec⟩ : ∃ r wd, decodeL l = (r, wd) := ⟨_, _, rfl⟩
          have hdc : Utf8.decode s.title pos = (r, wd) := by rw [← hdec, el, HBS.out]; unfold strB; rw [decodeL_drop]
          have hw1 : 1 ≤ wd := by have := decodeL_width l; rw [hdec] at this; exact this
          have hw2 : wd ≤ sz - pos := by have := decodeL_le l hne; rw [hdec, hll] at this; exact this
          obtain ⟨W1, eW1⟩ : ∃ W1, W1 = wr.iterAt g s.title (pos + wd) := ⟨_, rfl⟩
          have hnx : ∀ ty, (Instr.next (.pointer (some ⟨g, 0, none⟩)) true ty).run Tryz.prog wr = .ok (.tuple #[.bool true, .int .i64 pos, .int .i32 (r : Int)]) W1 := fun ty => by
            have := Lib.run_next_any_at (P := Tryz.prog) wr g s.title pos ty HIT.out hps
            rw [hdc] at this
            rw [eW1]; exact this
          have HIT1 : Hid (W1.heap[g]? = some (.stringIter s.title (pos + wd))) := Lib.hid (by rw [eW1]; exact Lib.iterAt_heap wr g s.title pos (pos + wd) HIT.out)
          have HB1' : Hid (Below w4.heap.size w4 W1) := Lib.hid (by rw [eW1]; exact Lib.below_iterAt HB.out (Nat.le_of_eq EG.out.symm) s.title (pos + wd))
          obtain ⟨V, eV⟩ : ∃ V, widI (r : Int) = V := ⟨_, rfl⟩
          have hst : Hid (R = (decide (V ≠ 0) && wdV (bs.drop (pos + wd)))) := Lib.hid (by
            rw [HG2.out, ← el, wdV_step l hne, hdec, el, List.drop_drop, ← eV])
          have HV := Lib.hid eV
          have hmeas : Hid (wr.iterPos g = pos) := Lib.hid (by simp [World.iterPos, HIT.out])
          clear hdc hps hdec hll hne el eW1 eV
          by_cases h0 : V = 0
          · have e0 : (V == 0) = true := beq_iff_eq.2 h0
            have HR5 : Hid (R = false) := Lib.hid (by rw [hst.out, h0]; rfl)
            clear h0 hst
            go_wp2_with (go_at_call 55; (with_reducible refine (Width_c (r : Int) W1 (HT4.out.next HB1'.out)).mono ?_); rintro _ w6 ⟨rfl, hb6⟩; rw [HV.out]; have HB6 := Lib.hid hb6; clear hb6)
            go_ret
            have h1 := HB1'.out.trans (HB6.out.mono HB1'.out.size)
            exact ⟨by rw [HR5.out] <;> rfl, HB4.out.trans (h1.mono HB4.out.size)⟩
          · have e0 : (V == 0) = false := by rw [beq_eq_false_iff_ne]; exact h0
            have HR5 : Hid (R = wdV (bs.drop (pos + wd))) := Lib.hid (by rw [hst.out, decide_eq_true (show V ≠ 0 from h0), Bool.true_and])
            clear h0 hst
            go_wp2_with (go_at_call 55; (with_reducible refine (Width_c (r : Int) W1 (HT4.out.next HB1'.out)).mono ?_); rintro _ w6 ⟨rfl, hb6⟩; rw [HV.out]; have HB6 := Lib.hid hb6; clear hb6)
            have HIT6 : Hid (w6.heap[g]? = some (.stringIter s.title (pos + wd))) := Lib.hid ((HB6.out.block g (heap_lt HIT1.out)).trans HIT1.out)
            have hmeas1 : Hid (w6.iterPos g = pos + wd) := Lib.hid (by simp [World.iterPos, HIT6.out])
            go_roundw
            case rel => exact ⟨pos + wd, by omega, HR5, HIT6, Lib.hid (HB1'.out.trans (HB6.out.mono HB1'.out.size))⟩
            case measure => rw [hmeas.out, hmeas1.out]; omega
        · obtain rfl : sz = pos := by omega
          have hnx : ∀ ty, (Instr.next (.pointer (some ⟨g, 0, none⟩)) true ty).run Tryz.prog wr = .ok (.tuple #[.bool false]) wr := fun ty => Lib.run_next_end_at (P := Tryz.prog) wr g s.title sz ty HIT.out (by rw [HSZ.out]; exact Nat.lt_irrefl _)
          have hRt : Hid (R = true) := Lib.hid (by rw [HG2.out, List.drop_of_length_le (by rw [HLEN.out]; omega)]; rfl)
          clear hge
          go_wp2_with (fail)
          go_ret
          exact ⟨by rw [hRt.out] <;> rfl, HB4.out.trans (HB.out.mono HB4.out.size)⟩
end Go.Proofs.YtndjggabdajbfaaGreatDoor



/- What the reference's Right answers of any screen. Conditions: its parts can be read. -/
namespace Go.Proofs.YtndjggabdajbfaaGreatDoor
open Go Go.RowKit Go.Lib

set_option maxRecDepth 100000 in
set_option maxHeartbeats 16000000 in
theorem refRight_c (s : ScD) (A : Option Addr) (n c : Nat) (L : Option Addr) (m cm : Nat) (w : World) (hs : ScR w s A n c L m cm) (hT : TabU w) :
    Calls Tryz.prog 41 #[.agg (scC s A n c L m cm)] w fun e w' => e = .returned (.bool (rightS s)) ∧ Below w.heap.size w w' := by
  show Calls _ _ #[.agg #[.int .i64 s.cols, .int .i64 s.rows, .slice A n c, .int .i64 s.x, .int .i64 s.y, .bool s.hid, .int .u8 s.mouse, .string s.title, .slice L m cm]] w _
  obtain ⟨W0, eW0⟩ : ∃ W0, W0 = w.alloc (.cells #[.int .i64 s.cols, .int .i64 s.rows, .slice A n c, .int .i64 s.x, .int .i64 s.y, .bool s.hid, .int .u8 s.mouse, .string s.title, .slice L m cm] 25) := ⟨_, rfl⟩
  have hb0 : Below w.heap.size w W0 := by rw [eW0]; exact (Below.refl _ _).alloc (Nat.le_refl _) _
  have h0 : ScB W0 w.heap.size s A n c L m cm := by rw [eW0]; exact heap_alloc_new _ _
  have HB0 := Lib.hid hb0
  have HS0 := Lib.hid h0
  have HR0 := Lib.hid (hs.below hb0)
  have HT0 := Lib.hid (hT.next hb0)
  have EW0 := Lib.hid eW0
  obtain ⟨R, eR⟩ : ∃ R, rightS s = R := ⟨_, rfl⟩
  have hcs := rightS_cases s
  rw [eR] at hcs ⊢
  have htl := hs.tl
  clear eR hs hT hb0 h0 eW0
  go_enter Tryz.func41, Tryz.ntmps41
  go_upto_region 1 with (fail)
  rw [← EW0.out]
  clear EW0
  obtain ⟨c0, c1, c2, c3, c4, c5, c6, c7, c8⟩ := HS0.out.nine
  rcases hcs with ⟨hg, hr⟩ | ⟨hg, hl, hr⟩ | ⟨hg, hl, hq, hr⟩ | ⟨hg, hl, d3, d4, d5, d6, d7, d8, hr⟩
  · have HR := Lib.hid hr
    have HG := Lib.hid hg
    clear hr hg
    go_wp2_with (first
      | (go_at_call 63; (with_reducible refine (refRows_c s.cols s.rows A n c s.cells W0 HR0.out.hn HR0.out.rd HR0.out.nc (by have := HR0.out.nl; omega)).mono ?_); rintro _ w1 ⟨v1, rfl, hb1⟩; rw [HG.out]; have HB1 := Lib.hid (HB0.out.trans (hb1.mono HB0.out.size)); have HS1 := Lib.hid (HS0.out.below hb1); have HR1 := Lib.hid (HR0.out.below hb1); have HT1 := Lib.hid (HT0.out.next hb1); clear hb1; obtain ⟨x10, x11, x12, x13, x14, x15, x16, x17, x18⟩ := HS1.out.nine))
    go_ret
    exact ⟨by rw [HR.out] <;> rfl, HB1.out⟩
  · have HR := Lib.hid hr
    have HG := Lib.hid hg
    have HL := Lib.hid hl
    clear hr hg hl
    go_wp2_with (first
      | (go_at_call 63; (with_reducible refine (refRows_c s.cols s.rows A n c s.cells W0 HR0.out.hn HR0.out.rd HR0.out.nc (by have := HR0.out.nl; omega)).mono ?_); rintro _ w1 ⟨v1, rfl, hb1⟩; rw [HG.out]; have HB1 := Lib.hid (HB0.out.trans (hb1.mono HB0.out.size)); have HS1 := Lib.hid (HS0.out.below hb1); have HR1 := Lib.hid (HR0.out.below hb1); have HT1 := Lib.hid (HT0.out.next hb1); clear hb1; obtain ⟨x10, x11, x12, x13, x14, x15, x16, x17, x18⟩ := HS1.out.nine)
      | (go_at_call 64; (with_reducible refine (refLnk_c A n c s.cells L m cm s.links w1 HR1.out.hn HR1.out.rd HR1.out.nl HR1.out.hm HR1.out.rt (by have := HR1.out.ml; omega) HR1.out.us HR1.out.ok).mono ?_); rintro _ w2 ⟨rfl, hb2⟩; rw [HL.out]; have HB2 := Lib.hid (HB1.out.trans (hb2.mono HB1.out.size)); have HS2 := Lib.hid (HS1.out.below hb2); have HR2 := Lib.hid (HR1.out.below hb2); have HT2 := Lib.hid (HT1.out.next hb2); clear hb2; obtain ⟨x20, x21, x22, x23, x24, x25, x26, x27, x28⟩ := HS2.out.nine))
    go_ret
    exact ⟨by rw [HR.out] <;> rfl, HB2.out⟩
  · have HR := Lib.hid hr
    have HG := Lib.hid hg
    have HL := Lib.hid hl
    clear hr hg hl
    have key : ∀ {a b : Bool}, (!a && b) = false → a = true ∨ (a = false ∧ b = false) := by intro a b; cases a <;> cases b <;> simp
    rcases key hq with d3 | ⟨d3, hq⟩
    · clear hq
      clear key
      go_wp2_with (first
        | (go_at_call 63; (with_reducible refine (refRows_c s.cols s.rows A n c s.cells W0 HR0.out.hn HR0.out.rd HR0.out.nc (by have := HR0.out.nl; omega)).mono ?_); rintro _ w1 ⟨v1, rfl, hb1⟩; rw [HG.out]; have HB1 := Lib.hid (HB0.out.trans (hb1.mono HB0.out.size)); have HS1 := Lib.hid (HS0.out.below hb1); have HR1 := Lib.hid (HR0.out.below hb1); have HT1 := Lib.hid (HT0.out.next hb1); clear hb1; obtain ⟨x10, x11, x12, x13, x14, x15, x16, x17, x18⟩ := HS1.out.nine)
        | (go_at_call 64; (with_reducible refine (refLnk_c A n c s.cells L m cm s.links w1 HR1.out.hn HR1.out.rd HR1.out.nl HR1.out.hm HR1.out.rt (by have := HR1.out.ml; omega) HR1.out.us HR1.out.ok).mono ?_); rintro _ w2 ⟨rfl, hb2⟩; rw [HL.out]; have HB2 := Lib.hid (HB1.out.trans (hb2.mono HB1.out.size)); have HS2 := Lib.hid (HS1.out.below hb2); have HR2 := Lib.hid (HR1.out.below hb2); have HT2 := Lib.hid (HT1.out.next hb2); clear hb2; obtain ⟨x20, x21, x22, x23, x24, x25, x26, x27, x28⟩ := HS2.out.nine))
      go_ret
      exact ⟨by rw [HR.out] <;> rfl, HB2.out⟩
    rcases key hq with d4 | ⟨d4, hq⟩
    · clear hq
      clear key
      go_wp2_with (first
        | (go_at_call 63; (with_reducible refine (refRows_c s.cols s.rows A n c s.cells W0 HR0.out.hn HR0.out.rd HR0.out.nc (by have := HR0.out.nl; omega)).mono ?_); rintro _ w1 ⟨v1, rfl, hb1⟩; rw [HG.out]; have HB1 := Lib.hid (HB0.out.trans (hb1.mono HB0.out.size)); have HS1 := Lib.hid (HS0.out.below hb1); have HR1 := Lib.hid (HR0.out.below hb1); have HT1 := Lib.hid (HT0.out.next hb1); clear hb1; obtain ⟨x10, x11, x12, x13, x14, x15, x16, x17, x18⟩ := HS1.out.nine)
        | (go_at_call 64; (with_reducible refine (refLnk_c A n c s.cells L m cm s.links w1 HR1.out.hn HR1.out.rd HR1.out.nl HR1.out.hm HR1.out.rt (by have := HR1.out.ml; omega) HR1.out.us HR1.out.ok).mono ?_); rintro _ w2 ⟨rfl, hb2⟩; rw [HL.out]; have HB2 := Lib.hid (HB1.out.trans (hb2.mono HB1.out.size)); have HS2 := Lib.hid (HS1.out.below hb2); have HR2 := Lib.hid (HR1.out.below hb2); have HT2 := Lib.hid (HT1.out.next hb2); clear hb2; obtain ⟨x20, x21, x22, x23, x24, x25, x26, x27, x28⟩ := HS2.out.nine))
      go_ret
      exact ⟨by rw [HR.out] <;> rfl, HB2.out⟩
    rcases key hq with d5 | ⟨d5, hq⟩
    · clear hq
      clear key
      go_wp2_with (first
        | (go_at_call 63; (with_reducible refine (refRows_c s.cols s.rows A n c s.cells W0 HR0.out.hn HR0.out.rd HR0.out.nc (by have := HR0.out.nl; omega)).mono ?_); rintro _ w1 ⟨v1, rfl, hb1⟩; rw [HG.out]; have HB1 := Lib.hid (HB0.out.trans (hb1.mono HB0.out.size)); have HS1 := Lib.hid (HS0.out.below hb1); have HR1 := Lib.hid (HR0.out.below hb1); have HT1 := Lib.hid (HT0.out.next hb1); clear hb1; obtain ⟨x10, x11, x12, x13, x14, x15, x16, x17, x18⟩ := HS1.out.nine)
        | (go_at_call 64; (with_reducible refine (refLnk_c A n c s.cells L m cm s.links w1 HR1.out.hn HR1.out.rd HR1.out.nl HR1.out.hm HR1.out.rt (by have := HR1.out.ml; omega) HR1.out.us HR1.out.ok).mono ?_); rintro _ w2 ⟨rfl, hb2⟩; rw [HL.out]; have HB2 := Lib.hid (HB1.out.trans (hb2.mono HB1.out.size)); have HS2 := Lib.hid (HS1.out.below hb2); have HR2 := Lib.hid (HR1.out.below hb2); have HT2 := Lib.hid (HT1.out.next hb2); clear hb2; obtain ⟨x20, x21, x22, x23, x24, x25, x26, x27, x28⟩ := HS2.out.nine))
      go_ret
      exact ⟨by rw [HR.out] <;> rfl, HB2.out⟩
    rcases key hq with d6 | ⟨d6, hq⟩
    · clear hq
      clear key
      go_wp2_with (first
        | (go_at_call 63; (with_reducible refine (refRows_c s.cols s.rows A n c s.cells W0 HR0.out.hn HR0.out.rd HR0.out.nc (by have := HR0.out.nl; omega)).mono ?_); rintro _ w1 ⟨v1, rfl, hb1⟩; rw [HG.out]; have HB1 := Lib.hid (HB0.out.trans (hb1.mono HB0.out.size)); have HS1 := Lib.hid (HS0.out.below hb1); have HR1 := Lib.hid (HR0.out.below hb1); have HT1 := Lib.hid (HT0.out.next hb1); clear hb1; obtain ⟨x10, x11, x12, x13, x14, x15, x16, x17, x18⟩ := HS1.out.nine)
        | (go_at_call 64; (with_reducible refine (refLnk_c A n c s.cells L m cm s.links w1 HR1.out.hn HR1.out.rd HR1.out.nl HR1.out.hm HR1.out.rt (by have := HR1.out.ml; omega) HR1.out.us HR1.out.ok).mono ?_); rintro _ w2 ⟨rfl, hb2⟩; rw [HL.out]; have HB2 := Lib.hid (HB1.out.trans (hb2.mono HB1.out.size)); have HS2 := Lib.hid (HS1.out.below hb2); have HR2 := Lib.hid (HR1.out.below hb2); have HT2 := Lib.hid (HT1.out.next hb2); clear hb2; obtain ⟨x20, x21, x22, x23, x24, x25, x26, x27, x28⟩ := HS2.out.nine))
      go_ret
      exact ⟨by rw [HR.out] <;> rfl, HB2.out⟩
    rcases key hq with d7 | ⟨d7, hq⟩
    · clear hq
      clear key
      go_wp2_with (first
        | (go_at_call 63; (with_reducible refine (refRows_c s.cols s.rows A n c s.cells W0 HR0.out.hn HR0.out.rd HR0.out.nc (by have := HR0.out.nl; omega)).mono ?_); rintro _ w1 ⟨v1, rfl, hb1⟩; rw [HG.out]; have HB1 := Lib.hid (HB0.out.trans (hb1.mono HB0.out.size)); have HS1 := Lib.hid (HS0.out.below hb1); have HR1 := Lib.hid (HR0.out.below hb1); have HT1 := Lib.hid (HT0.out.next hb1); clear hb1; obtain ⟨x10, x11, x12, x13, x14, x15, x16, x17, x18⟩ := HS1.out.nine)
        | (go_at_call 64; (with_reducible refine (refLnk_c A n c s.cells L m cm s.links w1 HR1.out.hn HR1.out.rd HR1.out.nl HR1.out.hm HR1.out.rt (by have := HR1.out.ml; omega) HR1.out.us HR1.out.ok).mono ?_); rintro _ w2 ⟨rfl, hb2⟩; rw [HL.out]; have HB2 := Lib.hid (HB1.out.trans (hb2.mono HB1.out.size)); have HS2 := Lib.hid (HS1.out.below hb2); have HR2 := Lib.hid (HR1.out.below hb2); have HT2 := Lib.hid (HT1.out.next hb2); clear hb2; obtain ⟨x20, x21, x22, x23, x24, x25, x26, x27, x28⟩ := HS2.out.nine))
      go_ret
      exact ⟨by rw [HR.out] <;> rfl, HB2.out⟩
    have d8 : decide (64 < (s.title.size : Int)) = true := by simpa using hq
    clear hq
    clear key
    go_wp2_with (first
      | (go_at_call 63; (with_reducible refine (refRows_c s.cols s.rows A n c s.cells W0 HR0.out.hn HR0.out.rd HR0.out.nc (by have := HR0.out.nl; omega)).mono ?_); rintro _ w1 ⟨v1, rfl, hb1⟩; rw [HG.out]; have HB1 := Lib.hid (HB0.out.trans (hb1.mono HB0.out.size)); have HS1 := Lib.hid (HS0.out.below hb1); have HR1 := Lib.hid (HR0.out.below hb1); have HT1 := Lib.hid (HT0.out.next hb1); clear hb1; obtain ⟨x10, x11, x12, x13, x14, x15, x16, x17, x18⟩ := HS1.out.nine)
      | (go_at_call 64; (with_reducible refine (refLnk_c A n c s.cells L m cm s.links w1 HR1.out.hn HR1.out.rd HR1.out.nl HR1.out.hm HR1.out.rt (by have := HR1.out.ml; omega) HR1.out.us HR1.out.ok).mono ?_); rintro _ w2 ⟨rfl, hb2⟩; rw [HL.out]; have HB2 := Lib.hid (HB1.out.trans (hb2.mono HB1.out.size)); have HS2 := Lib.hid (HS1.out.below hb2); have HR2 := Lib.hid (HR1.out.below hb2); have HT2 := Lib.hid (HT1.out.next hb2); clear hb2; obtain ⟨x20, x21, x22, x23, x24, x25, x26, x27, x28⟩ := HS2.out.nine))
    go_ret
    exact ⟨by rw [HR.out] <;> rfl, HB2.out⟩
  · have HG := Lib.hid hg
    have HL := Lib.hid hl
    have HRR := Lib.hid hr
    clear hg hl hr
    obtain ⟨U, eU⟩ : ∃ U, utfV (strB s.title) = U := ⟨_, rfl⟩
    have HU := Lib.hid eU
    clear eU
    cases U
    · have HR : Hid (R = false) := Lib.hid (by rw [HRR.out, HU.out]; rfl)
      go_wp2_with (first
        | (go_at_call 63; (with_reducible refine (refRows_c s.cols s.rows A n c s.cells W0 HR0.out.hn HR0.out.rd HR0.out.nc (by have := HR0.out.nl; omega)).mono ?_); rintro _ w1 ⟨v1, rfl, hb1⟩; rw [HG.out]; have HB1 := Lib.hid (HB0.out.trans (hb1.mono HB0.out.size)); have HS1 := Lib.hid (HS0.out.below hb1); have HR1 := Lib.hid (HR0.out.below hb1); have HT1 := Lib.hid (HT0.out.next hb1); clear hb1; obtain ⟨x10, x11, x12, x13, x14, x15, x16, x17, x18⟩ := HS1.out.nine)
        | (go_at_call 64; (with_reducible refine (refLnk_c A n c s.cells L m cm s.links w1 HR1.out.hn HR1.out.rd HR1.out.nl HR1.out.hm HR1.out.rt (by have := HR1.out.ml; omega) HR1.out.us HR1.out.ok).mono ?_); rintro _ w2 ⟨rfl, hb2⟩; rw [HL.out]; have HB2 := Lib.hid (HB1.out.trans (hb2.mono HB1.out.size)); have HS2 := Lib.hid (HS1.out.below hb2); have HR2 := Lib.hid (HR1.out.below hb2); have HT2 := Lib.hid (HT1.out.next hb2); clear hb2; obtain ⟨x20, x21, x22, x23, x24, x25, x26, x27, x28⟩ := HS2.out.nine; obtain ⟨A5, k5, w3, hcv, q3, q1, q2, hb3⟩ := conv_run w2 s.title (by omega); have Q3 := Lib.hid q3; have Q1 := Lib.hid q1; clear q3 q1 q2; have HB3 := Lib.hid (HB2.out.trans (hb3.mono HB2.out.size)); have HS3 := Lib.hid (HS2.out.below hb3); have HR3 := Lib.hid (HR2.out.below hb3); have HT3 := Lib.hid (HT2.out.next hb3); clear hb3; obtain ⟨x30, x31, x32, x33, x34, x35, x36, x37, x38⟩ := HS3.out.nine)
        | (go_at_call 65; (with_reducible refine (refValid_c A5 s.title.size k5 (strB s.title) w3 (strB_len _) Q3.out Q1.out htl).mono ?_); rintro _ w4 ⟨rfl, hb4⟩; rw [HU.out]; have HB4 := Lib.hid (HB3.out.trans (hb4.mono HB3.out.size)); have HS4 := Lib.hid (HS3.out.below hb4); have HR4 := Lib.hid (HR3.out.below hb4); have HT4 := Lib.hid (HT3.out.next hb4); clear hb4; obtain ⟨x40, x41, x42, x43, x44, x45, x46, x47, x48⟩ := HS4.out.nine))
      go_ret
      exact ⟨by rw [HR.out] <;> rfl, HB4.out⟩
    · have HR : Hid (R = wdV (strB s.title)) := Lib.hid (by rw [HRR.out, HU.out]; rfl)
      go_wp2_with (first
        | (go_at_call 63; (with_reducible refine (refRows_c s.cols s.rows A n c s.cells W0 HR0.out.hn HR0.out.rd HR0.out.nc (by have := HR0.out.nl; omega)).mono ?_); rintro _ w1 ⟨v1, rfl, hb1⟩; rw [HG.out]; have HB1 := Lib.hid (HB0.out.trans (hb1.mono HB0.out.size)); have HS1 := Lib.hid (HS0.out.below hb1); have HR1 := Lib.hid (HR0.out.below hb1); have HT1 := Lib.hid (HT0.out.next hb1); clear hb1; obtain ⟨x10, x11, x12, x13, x14, x15, x16, x17, x18⟩ := HS1.out.nine)
        | (go_at_call 64; (with_reducible refine (refLnk_c A n c s.cells L m cm s.links w1 HR1.out.hn HR1.out.rd HR1.out.nl HR1.out.hm HR1.out.rt (by have := HR1.out.ml; omega) HR1.out.us HR1.out.ok).mono ?_); rintro _ w2 ⟨rfl, hb2⟩; rw [HL.out]; have HB2 := Lib.hid (HB1.out.trans (hb2.mono HB1.out.size)); have HS2 := Lib.hid (HS1.out.below hb2); have HR2 := Lib.hid (HR1.out.below hb2); have HT2 := Lib.hid (HT1.out.next hb2); clear hb2; obtain ⟨x20, x21, x22, x23, x24, x25, x26, x27, x28⟩ := HS2.out.nine; obtain ⟨A5, k5, w3, hcv, q3, q1, q2, hb3⟩ := conv_run w2 s.title (by omega); have Q3 := Lib.hid q3; have Q1 := Lib.hid q1; clear q3 q1 q2; have HB3 := Lib.hid (HB2.out.trans (hb3.mono HB2.out.size)); have HS3 := Lib.hid (HS2.out.below hb3); have HR3 := Lib.hid (HR2.out.below hb3); have HT3 := Lib.hid (HT2.out.next hb3); clear hb3; obtain ⟨x30, x31, x32, x33, x34, x35, x36, x37, x38⟩ := HS3.out.nine)
        | (go_at_call 65; (with_reducible refine (refValid_c A5 s.title.size k5 (strB s.title) w3 (strB_len _) Q3.out Q1.out htl).mono ?_); rintro _ w4 ⟨rfl, hb4⟩; rw [HU.out]; have HB4 := Lib.hid (HB3.out.trans (hb4.mono HB3.out.size)); have HS4 := Lib.hid (HS3.out.below hb4); have HR4 := Lib.hid (HR3.out.below hb4); have HT4 := Lib.hid (HT3.out.next hb4); clear hb4; obtain ⟨x40, x41, x42, x43, x44, x45, x46, x47, x48⟩ := HS4.out.nine; obtain ⟨A6, k6, w5, hcv2, q3, q1, q2, hb5⟩ := conv_run w4 s.title (by omega); have Q5 := Lib.hid q3; clear q3 q1 q2; have HB5 := Lib.hid (HB4.out.trans (hb5.mono HB4.out.size)); have HS5 := Lib.hid (HS4.out.below hb5); have HR5 := Lib.hid (HR4.out.below hb5); have HT5 := Lib.hid (HT4.out.next hb5); clear hb5)
        | (go_at_call 66; (with_reducible refine (refRunes_c A6 s.title.size k6 (strB s.title) w5 (strB_len _) Q5.out HU.out htl).mono ?_); rintro _ w6 ⟨v6, rs, rfl, ho6, hwd6, hrl6, hb6⟩; have HWD := Lib.hid hwd6; have HO6 := Lib.hid ho6; obtain ⟨A7, k7, rfl, _, _, hr7⟩ := ho6.form; have HR7 := Lib.hid hr7; clear hr7 ho6 hwd6; have HB6 := Lib.hid (HB5.out.trans (hb6.mono HB5.out.size)); have HS6 := Lib.hid (HS5.out.below hb6); have HR6 := Lib.hid (HR5.out.below hb6); have HT6 := Lib.hid (HT5.out.next hb6); clear hb6))
      obtain ⟨nr, enr⟩ : ∃ nr, rs.length = nr := ⟨_, rfl⟩
      rw [enr] at hrl6 ⊢
      have HNR := Lib.hid enr
      clear enr x40 x41 x42 x43 x44 x45 x46 x47 x48 x30 x31 x32 x33 x34 x35 x36 x37 x38 x20 x21 x22 x23 x24 x25 x26 x27 x28 x10 x11 x12 x13 x14 x15 x16 x17 x18 c0 c1 c2 c3 c4 c5 c6 c7 c8 d3 d4 d5 d6 d7 d8 hcv hcv2
      go_loopw [74] (fun i wr => ∃ k : Nat, k ≤ nr ∧ i = .int .i64 k ∧ Hid (R = wdAll (rs.drop k)) ∧ wr = w6) (fun i _ => nr - (intOf i).toNat)
      case atStart => exact ⟨0, Nat.zero_le _, rfl, Lib.hid (by rw [HR.out, HWD.out]; rfl), rfl⟩
      case round =>
        obtain ⟨k, hk, rfl, HG2, rfl⟩ := hrel
        rcases Nat.lt_or_ge k nr with hlt | hge
        · have hlt' : (k : Int) < (nr : Int) := by omega
          obtain ⟨b, off, rfl, hbk, hc⟩ := HR7.out.addr (by rw [List.length_map, HNR.out]; omega)
          have hck := hc k (by rw [List.length_map, HNR.out]; exact hlt)
          obtain ⟨r, er⟩ : ∃ r, r = rs[k]'(by rw [HNR.out]; exact hlt) := ⟨_, rfl⟩
          rw [List.getElem_map, ← er] at hck
          obtain ⟨V, eV⟩ : ∃ V, widI r = V := ⟨_, rfl⟩
          have hst : Hid (R = (decide (V ≠ 0) && wdAll (rs.drop (k + 1)))) := Lib.hid (by
            rw [HG2.out, List.drop_eq_getElem_cons (by rw [HNR.out]; exact hlt), wdAll, List.all_cons, ← er, eV]; rfl)
          have HV := Lib.hid eV
          clear hc er eV
          by_cases h0 : V = 0
          · have e0 : (V == 0) = true := beq_iff_eq.2 h0
            have HR5 : Hid (R = false) := Lib.hid (by rw [hst.out, h0]; rfl)
            clear h0 hst
            go_wp2_with (go_at_call 67; (with_reducible refine (refWidth_c r _).mono ?_); rintro _ _ ⟨rfl, rfl⟩; rw [HV.out])
            go_ret
            exact ⟨by rw [HR5.out] <;> rfl, HB6.out⟩
          · have e0 : (V == 0) = false := by rw [beq_eq_false_iff_ne]; exact h0
            have HR5 : Hid (R = wdAll (rs.drop (k + 1))) := Lib.hid (by rw [hst.out, decide_eq_true (show V ≠ 0 from h0), Bool.true_and])
            clear h0 hst
            go_wp2_with (go_at_call 67; (with_reducible refine (refWidth_c r _).mono ?_); rintro _ _ ⟨rfl, rfl⟩; rw [HV.out])
            go_roundw
            case rel => exact ⟨k + 1, by omega, by go_num, HR5, trivial⟩
            case measure => simp [intOf]; omega
        · obtain rfl : nr = k := by omega
          have hge' : ¬ ((nr : Int) < (nr : Int)) := by omega
          have hRt : Hid (R = true) := Lib.hid (by rw [HG2.out, List.drop_of_length_le (by rw [HNR.out]; omega)]; rfl)
          clear hge
          go_wp2_with (fail)
          go_ret
          exact ⟨by rw [hRt.out] <;> rfl, HB6.out⟩
end Go.Proofs.YtndjggabdajbfaaGreatDoor



/- What the reference's Copy of a screen answers: other memory. Conditions: its parts can be read. -/
namespace Go.Proofs.YtndjggabdajbfaaGreatDoor
open Go Go.RowKit Go.Lib

theorem info_sc : (Tryz.prog.info? 25).map (·.size) = some 9 := by kernel_rfl
theorem sc_one (s : ScD) (A : Option Addr) (n c : Nat) (L : Option Addr) (m cm : Nat) : (scC s A n c L m cm).all (·.oneCell') = true := by
  unfold scC
  simp [Value.oneCell']
theorem sc_cells (s : ScD) (A : Option Addr) (n c : Nat) (L : Option Addr) (m cm : Nat) (A' : Option Addr) (c' : Nat) : (scC s A n c L m cm).setIfInBounds 2 (.slice A' n c') = scC s A' n c' L m cm := rfl
theorem sc_links (s : ScD) (A : Option Addr) (n c : Nat) (L : Option Addr) (m cm : Nat) (A' : Option Addr) (c' : Nat) : (scC s A n c L m cm).setIfInBounds 8 (.slice A' m c') = scC s A n c A' m c' := rfl
theorem OwnC.made (w : World) : OwnC (w.alloc (.cells #[] 43)) w.heap.size (.slice (some ⟨w.heap.size, 0, none⟩) 0 0) [] :=
  World.ownsRow_made w (e := 43) (base := w.heap.size) (size := 6) #[] 0 (Nat.le_refl _) (Nat.zero_le _) rfl
theorem OwnT.made (w : World) : OwnT (w.alloc (.cells #[] 9)) w.heap.size (.slice (some ⟨w.heap.size, 0, none⟩) 0 0) [] :=
  World.ownsRow_made w (e := 9) (base := w.heap.size) (size := 1) #[] 0 (Nat.le_refl _) (Nat.zero_le _) rfl
/-- The empty screen. -/
def scZ : ScD := ⟨0, 0, [], 0, 0, false, 0, ⟨#[]⟩, []⟩
set_option maxRecDepth 100000 in
set_option maxHeartbeats 16000000 in
theorem refCopyS_c (s : ScD) (A : Option Addr) (n c : Nat) (L : Option Addr) (m cm : Nat) (w : World) (hs : ScR w s A n c L m cm) :
    Calls Tryz.prog 6 #[.agg (scC s A n c L m cm)] w fun e w' => ∃ A' c' L' cm', e = .returned (.agg (scC s A' n c' L' m cm')) ∧ OwnC w' w.heap.size (.slice A' n c') s.cells ∧ OwnT w' w.heap.size (.slice L' m cm') s.links ∧ (∀ a b, A' = some a → L' = some b → a.block ≠ b.block) ∧ Below w.heap.size w w' := by
  obtain ⟨X, eX⟩ : ∃ X, X = scC s A n c L m cm := ⟨_, rfl⟩
  rw [← eX]
  have EX := Lib.hid eX
  have HS := Lib.hid hs
  clear eX hs
  go_enter Tryz.func6, Tryz.ntmps6
  go_upto_region 1 with (fail)
  obtain ⟨W1, eW1⟩ : ∃ W1, W1 = (w.alloc (.cells X 25)).alloc (.cells (scC scZ none 0 0 none 0 0) 25) := ⟨_, rfl⟩
  obtain ⟨p, ep⟩ : ∃ p, p = w.heap.size := ⟨_, rfl⟩
  obtain ⟨q, eq⟩ : ∃ q, q = w.heap.size + 1 := ⟨_, rfl⟩
  have hb1 : Below w.heap.size w W1 := by rw [eW1]; exact ((Below.refl _ _).alloc (Nat.le_refl _) _).alloc (by simp) _
  have hp1 : ScB W1 p s A n c L m cm := by
    rw [eW1, ep, EX.out]
    exact (Below.heap_alloc _ _ _ (by simp)).trans (heap_alloc_new _ _)
  have hq1 : ScB W1 q scZ none 0 0 none 0 0 := by rw [eW1, eq]; exact heap_alloc2_new _ _ _
  have eW1' : (w.alloc (.cells X 25)).alloc (.cells #[.int .i64 0, .int .i64 0, .slice none 0 0, .int .i64 0, .int .i64 0, .bool false, .int .u8 0, .string { data := #[] }, .slice none 0 0] 25) = W1 := by rw [eW1]; rfl
  rw [eW1', ← eq, ← ep]
  have HB1 := Lib.hid hb1
  have HP1 := Lib.hid hp1
  have HQ1 := Lib.hid hq1
  have HR1 := Lib.hid (HS.out.below hb1)
  have HPQ : Hid (w.heap.size ≤ p ∧ w.heap.size ≤ q ∧ p ≠ q ∧ p < W1.heap.size ∧ q < W1.heap.size) := Lib.hid ⟨by omega, by omega, by omega, heap_lt hp1, heap_lt hq1⟩
  obtain ⟨x0, x1, x2, x3, x4, x5, x6, x7, x8⟩ := hp1.nine
  clear eW1 eW1' ep eq hb1 hp1 hq1 x0 x1 x3 x4 x5 x6 x7 x8
  have HO1 : Hid (OwnC (W1.alloc (.cells #[] 43)) W1.heap.size (.slice (some ⟨W1.heap.size, 0, none⟩) 0 0) []) := Lib.hid (OwnC.made W1)
  have HA1 : Hid (Below W1.heap.size W1 (W1.alloc (.cells #[] 43))) := Lib.hid ((Below.refl _ _).alloc (Nat.le_refl _) _)
  have z2 : (W1.alloc (.cells #[] 43)).cell? ⟨p, 2, none⟩ = some (.slice A n c) := (HA1.out.cell (p := ⟨p, 2, none⟩) HPQ.out.2.2.2.1).trans x2
  go_upto_region 2 with (at_builtin; go_must (refine wpList_appC _ rfl (.tmp 3) (.tmp 5) rfl W1.heap.size _ [] rfl HO1.out A n c s.cells rfl HR1.out.hn (HR1.out.below HA1.out).rd (by have := HR1.out.nl; simp only [List.length_nil]; omega) HA1.out.size ?_); intro v2 w2 q2 hg2 hv2; obtain ⟨A2, c2, rfl, _, _, _, ha2, _⟩ := q2.form; have HA2 := Lib.hid ha2; have HQ2 := Lib.hid q2; have HG2 := Lib.hid hg2; clear q2 hg2 hv2 ha2; have hb2 : Below W1.heap.size W1 w2 := HA1.out.grown HG2.out HA1.out.size (fun k e => by have e' : some W1.heap.size = some k := e; injection e' with e'; omega); have HB2 := Lib.hid hb2; have y2 : w2.cell? ⟨p, 2, none⟩ = some (.slice A n c) := (hb2.cell (p := ⟨p, 2, none⟩) HPQ.out.2.2.2.1).trans x2; have f2 : w2.frozen? ⟨p, 2, none⟩ = false := heap_free (HP1.out.below hb2) 2; clear hb2)
  rw [HR1.out.hn]
  obtain ⟨W3, eW3⟩ : ∃ W3, W3 = w2.setCell ⟨p, 2, none⟩ (.slice A2 n c2) := ⟨_, rfl⟩
  rw [← eW3]
  have hb3 : Below w.heap.size w W3 := by rw [eW3]; exact below_set (HB1.out.trans (HB2.out.mono HB1.out.size)) p _ _ HPQ.out.1
  have hp3 : ScB W3 p s A2 n c2 L m cm := by
    rw [eW3]
    have := heap_set (HP1.out.below HB2.out) 2 (.slice A2 n c2)
    rwa [sc_cells] at this
  have hq3 : ScB W3 q scZ none 0 0 none 0 0 := by
    rw [eW3]
    exact (heap_far _ (Ne.symm HPQ.out.2.2.1)).trans (HQ1.out.below HB2.out)
  have ho3 : OwnC W3 W1.heap.size (.slice A2 n c2) s.cells := by
    have h := HQ2.out
    rw [List.nil_append, HR1.out.hn] at h
    refine OwnC.keep h (fun g e => ?_)
    rw [eW3]
    exact heap_far _ (fun e2 => by have h1 := (OwnC.lt h g e).1; have h2 := HPQ.out.2.2.2.1; have e3 : g = p := e2; omega)
  have hsz3 : W3.heap.size = w2.heap.size := by rw [eW3]; simp [World.setCell]
  have HA3 : Hid (∀ a, A2 = some a → W1.heap.size ≤ a.block ∧ a.block < W3.heap.size) := Lib.hid (fun a e => ⟨(HA2.out a e).1, by rw [hsz3]; exact (HA2.out a e).2.1⟩)
  have HR3 := Lib.hid (HS.out.below hb3)
  obtain ⟨z0, z1, z2', z3, z4, z5, z6, z7, z8⟩ := hp3.nine
  have HB3 := Lib.hid hb3
  have HP3 := Lib.hid hp3
  have HQ3 := Lib.hid hq3
  have HO3 := Lib.hid ho3
  have HPQ3 : Hid (p < W3.heap.size ∧ q < W3.heap.size) := Lib.hid ⟨heap_lt hp3, heap_lt hq3⟩
  have HW1 : Hid (w.heap.size ≤ W1.heap.size) := Lib.hid HB1.out.size
  clear hb3 hp3 hq3 ho3 eW3 hsz3 z0 z1 z2' z3 z4 z5 z6 z7 x2 z2 y2 f2 HO1 HA1 HP1 HQ1 HB2 HG2 HQ2 HR1
  have HO3t : Hid (OwnT (W3.alloc (.cells #[] 9)) W3.heap.size (.slice (some ⟨W3.heap.size, 0, none⟩) 0 0) []) := Lib.hid (OwnT.made W3)
  have HA3t : Hid (Below W3.heap.size W3 (W3.alloc (.cells #[] 9))) := Lib.hid ((Below.refl _ _).alloc (Nat.le_refl _) _)
  have z9 : (W3.alloc (.cells #[] 9)).cell? ⟨p, 8, none⟩ = some (.slice L m cm) := (HA3t.out.cell (p := ⟨p, 8, none⟩) HPQ3.out.1).trans z8
  go_upto_region 3 with (at_builtin; go_must (refine wpList_appT _ rfl (.tmp 8) (.tmp 10) rfl W3.heap.size _ [] rfl HO3t.out L m cm s.links rfl HR3.out.hm (HR3.out.below HA3t.out).rt (by have := HR3.out.ml; simp only [List.length_nil]; omega) HA3t.out.size ?_); intro v4 w4 q4 hg4 hv4; obtain ⟨A4, c4, rfl, _, _, _, ha4⟩ := q4.form; have HA4 := Lib.hid ha4; have HQ4 := Lib.hid q4; have HG4 := Lib.hid hg4; clear q4 hg4 hv4 ha4; have hb4 : Below W3.heap.size W3 w4 := HA3t.out.grown HG4.out HA3t.out.size (fun k e => by have e' : some W3.heap.size = some k := e; injection e' with e'; omega); have HB4 := Lib.hid hb4; have y4 : w4.cell? ⟨p, 8, none⟩ = some (.slice L m cm) := (hb4.cell (p := ⟨p, 8, none⟩) HPQ3.out.1).trans z8; have f4 : w4.frozen? ⟨p, 8, none⟩ = false := heap_free (HP3.out.below hb4) 8; clear hb4)
  rw [HR3.out.hm]
  obtain ⟨W5, eW5⟩ : ∃ W5, W5 = w4.setCell ⟨p, 8, none⟩ (.slice A4 m c4) := ⟨_, rfl⟩
  rw [← eW5]
  have hb5 : Below w.heap.size w W5 := by rw [eW5]; exact below_set (HB3.out.trans (HB4.out.mono HB3.out.size)) p _ _ HPQ.out.1
  have hp5 : ScB W5 p s A2 n c2 A4 m c4 := by
    rw [eW5]
    have := heap_set (HP3.out.below HB4.out) 8 (.slice A4 m c4)
    rwa [sc_links] at this
  have hq5 : ScB W5 q scZ none 0 0 none 0 0 := by
    rw [eW5]
    exact (heap_far _ (Ne.symm HPQ.out.2.2.1)).trans (HQ3.out.below HB4.out)
  have ho5 : OwnC W5 W1.heap.size (.slice A2 n c2) s.cells := by
    refine OwnC.keep (OwnC.below HO3.out HB4.out) (fun g e => ?_)
    rw [eW5]
    exact heap_far _ (fun e2 => by have h1 := (OwnC.lt HO3.out g e).1; have h2 := HPQ.out.2.2.2.1; have e3 : g = p := e2; omega)
  have ht5 : OwnT W5 W3.heap.size (.slice A4 m c4) s.links := by
    have h := HQ4.out
    rw [List.nil_append, HR3.out.hm] at h
    refine Own.frameK' h (fun g e => ?_)
    rw [eW5]
    exact heap_far _ (fun e2 => by have h1 := (Own.lt h g e).1; have h2 := HPQ3.out.1; have e3 : g = p := e2; omega)
  have HD5 : Hid (∀ a b, A2 = some a → A4 = some b → a.block ≠ b.block) := Lib.hid (fun a b ea eb => by have h1 := (HA3.out a ea).2; have h2 := (HA4.out b eb).1; omega)
  have HB5 := Lib.hid hb5
  have HP5 := Lib.hid hp5
  have HQ5 := Lib.hid hq5
  have HO5 : Hid (OwnC W5 w.heap.size (.slice A2 n c2) s.cells) := Lib.hid (OwnC.low ho5 HW1.out)
  have HT5 : Hid (OwnT W5 w.heap.size (.slice A4 m c4) s.links) := Lib.hid (Own.low ht5 HB3.out.size)
  have HPQ5 : Hid (q < W1.heap.size ∧ q < W3.heap.size) := Lib.hid ⟨HPQ.out.2.2.2.2, HPQ3.out.2⟩
  have HOo := Lib.hid ho5
  have HTo := Lib.hid ht5
  clear hb5 hp5 hq5 ho5 ht5 eW5 z8 z9 y4 f4 HO3t HA3t HB3 HP3 HQ3 HO3 HB4 HQ4 HG4 HR3 HA4 HA3 HA2
  go_wp2_with (first
    | (refine wpList_load_row rfl 25 (.tmp 1) rfl p rfl 25 _ (0, 0) _ HP5.out Tryz.underlying25 rfl (info_sc.trans rfl) ?_)
    | (refine wpList_store_row rfl 25 (.tmp 2) (.tmp 13) rfl q (scC s A2 n c2 A4 m c4) rfl rfl 25 _ HQ5.out (info_sc.trans rfl) rfl (sc_one _ _ _ _ _ _ _) ?_))
  refine bodyPost_ret (v := .agg (scC s A2 n c2 A4 m c4)) (results_cell_row (p := 2) (ty := 25) rfl _ _ q 25 _ (0, 0) _ rfl (setRow_heap W5 q _ _ _ _ HQ5.out) Tryz.underlying25 rfl (info_sc.trans rfl)) rfl ?_
  have hk : ∀ g, g ≠ q → (W5.setRow q (scC s A2 n c2 A4 m c4)).heap[g]? = W5.heap[g]? := fun g e => setRow_other _ _ _ _ e
  exact ⟨A2, c2, A4, c4, rfl, OwnC.keep HO5.out (fun g e => hk g (by have h1 := (OwnC.lt HOo.out g e).1; have h2 := HPQ5.out.1; omega)), Own.frameK' HT5.out (fun g e => hk g (by have h1 := (Own.lt HTo.out g e).1; have h2 := HPQ5.out.2; omega)), HD5.out, below_setRow HB5.out HPQ.out.2.1 _⟩
end Go.Proofs.YtndjggabdajbfaaGreatDoor



/- What the reference's Same of two screens answers. Conditions: their parts can be read. -/
namespace Go.Proofs.YtndjggabdajbfaaGreatDoor
open Go Go.RowKit Go.Lib

set_option maxRecDepth 100000 in
set_option maxHeartbeats 16000000 in
theorem refSameG_c (A : Option Addr) (n c : Nat) (a : List CeD) (B : Option Addr) (m d : Nat) (b : List CeD) (w : World) (hn : a.length = n) (hra : RdC w A a) (hm : b.length = m) (hrb : RdC w B b) (hl : n ≤ 140737488355328) :
    Calls Tryz.prog 28 #[.agg #[.int .i64 0, .int .i64 0, .slice A n c], .agg #[.int .i64 0, .int .i64 0, .slice B m d]] w fun e w' => e = .returned (.bool (sameC a b)) ∧ Below w.heap.size w w' := by
  obtain ⟨W0, eW0⟩ : ∃ W0, W0 = (w.alloc (.cells #[.int .i64 0, .int .i64 0, .slice A n c] 72)).alloc (.cells #[.int .i64 0, .int .i64 0, .slice B m d] 72) := ⟨_, rfl⟩
  have hb0 : Below w.heap.size w W0 := by rw [eW0]; exact ((Below.refl _ _).alloc (Nat.le_refl _) _).alloc (by simp) _
  have HB0 := Lib.hid hb0
  have HRA := Lib.hid (hra.below hb0)
  have HRB := Lib.hid (hrb.below hb0)
  have HN := Lib.hid hn
  have HM := Lib.hid hm
  have EW0 := Lib.hid eW0
  clear hra hrb hb0 eW0 hn hm
  go_enter Tryz.func28, Tryz.ntmps28
  go_wp2_with (go_at_call 46; rw [← EW0.out]; (with_reducible refine (refSameC_c A n c a B m d b W0 HN.out HRA.out HM.out HRB.out hl).mono ?_); rintro _ w1 ⟨rfl, hb1⟩; have HB1 := Lib.hid (HB0.out.trans (hb1.mono HB0.out.size)); clear hb1)
  go_ret
  exact ⟨rfl, HB1.out⟩
def sameS (s t : ScD) : Bool := (s.cols == t.cols) && ((s.rows == t.rows) && ((s.x == t.x) && ((s.y == t.y) && ((s.hid == t.hid) && ((s.mouse == t.mouse) && ((s.title.toList == t.title.toList) && (sameT s.links t.links && sameC s.cells t.cells)))))))
set_option maxRecDepth 100000 in
set_option maxHeartbeats 16000000 in
theorem refSameS_c (s : ScD) (A : Option Addr) (n c : Nat) (L : Option Addr) (m cm : Nat) (t : ScD) (B : Option Addr) (k d : Nat) (M : Option Addr) (l dm : Nat) (w : World)
    (hn : s.cells.length = n) (hra : RdC w A s.cells) (hm : s.links.length = m) (hrl : RdT w L s.links) (hk : t.cells.length = k) (hrb : RdC w B t.cells) (hl : t.links.length = l) (hrm : RdT w M t.links) (hln : n ≤ 140737488355328) (hlm : m ≤ 140737488355328) :
    Calls Tryz.prog 10 #[.agg (scC s A n c L m cm), .agg (scC t B k d M l dm)] w fun e w' => e = .returned (.bool (sameS s t)) ∧ Below w.heap.size w w' := by
  show Calls _ _ #[.agg #[.int .i64 s.cols, .int .i64 s.rows, .slice A n c, .int .i64 s.x, .int .i64 s.y, .bool s.hid, .int .u8 s.mouse, .string s.title, .slice L m cm], .agg #[.int .i64 t.cols, .int .i64 t.rows, .slice B k d, .int .i64 t.x, .int .i64 t.y, .bool t.hid, .int .u8 t.mouse, .string t.title, .slice M l dm]] w _
  obtain ⟨W0, eW0⟩ : ∃ W0, W0 = (w.alloc (.cells #[.int .i64 s.cols, .int .i64 s.rows, .slice A n c, .int .i64 s.x, .int .i64 s.y, .bool s.hid, .int .u8 s.mouse, .string s.title, .slice L m cm] 25)).alloc (.cells #[.int .i64 t.cols, .int .i64 t.rows, .slice B k d, .int .i64 t.x, .int .i64 t.y, .bool t.hid, .int .u8 t.mouse, .string t.title, .slice M l dm] 25) := ⟨_, rfl⟩
  have hb0 : Below w.heap.size w W0 := by rw [eW0]; exact ((Below.refl _ _).alloc (Nat.le_refl _) _).alloc (by simp) _
  have h0 : ScB W0 w.heap.size s A n c L m cm := by rw [eW0]; exact (Below.heap_alloc _ _ _ (by simp)).trans (heap_alloc_new _ _)
  have h1 : ScB W0 (w.heap.size + 1) t B k d M l dm := by rw [eW0]; exact heap_alloc2_new _ _ _
  have HB0 := Lib.hid hb0
  have HP0 := Lib.hid h0
  have HQ0 := Lib.hid h1
  have HRA := Lib.hid (hra.below hb0)
  have HRB := Lib.hid (hrb.below hb0)
  have HRL := Lib.hid (RdT.below hrl hb0)
  have HRM := Lib.hid (RdT.below hrm hb0)
  have HN := Lib.hid hn
  have HM := Lib.hid hm
  have HK := Lib.hid hk
  have HL := Lib.hid hl
  have EW0 := Lib.hid eW0
  obtain ⟨R, eR⟩ : ∃ R, sameS s t = R := ⟨_, rfl⟩
  rw [eR]
  unfold sameS at eR
  obtain ⟨b0, e0⟩ : ∃ b, (s.cols == t.cols) = b := ⟨_, rfl⟩
  obtain ⟨b1, e1⟩ : ∃ b, (s.rows == t.rows) = b := ⟨_, rfl⟩
  obtain ⟨b2, e2⟩ : ∃ b, (s.x == t.x) = b := ⟨_, rfl⟩
  obtain ⟨b3, e3⟩ : ∃ b, (s.y == t.y) = b := ⟨_, rfl⟩
  obtain ⟨b4, e4⟩ : ∃ b, (s.hid == t.hid) = b := ⟨_, rfl⟩
  obtain ⟨b5, e5⟩ : ∃ b, (s.mouse == t.mouse) = b := ⟨_, rfl⟩
  obtain ⟨b6, e6⟩ : ∃ b, (s.title.toList == t.title.toList) = b := ⟨_, rfl⟩
  obtain ⟨bT, eT⟩ : ∃ b, sameT s.links t.links = b := ⟨_, rfl⟩
  rw [e0, e1, e2, e3, e4, e5, e6, eT] at eR
  have ET := Lib.hid eT
  clear hra hrb hrl hrm hb0 h0 h1 eW0 hn hm hk hl eT
  go_enter Tryz.func10, Tryz.ntmps10
  go_upto_region 1 with (fail)
  rw [← EW0.out]
  clear EW0
  obtain ⟨c0, c1, c2, c3, c4, c5, c6, c7, c8⟩ := HP0.out.nine
  obtain ⟨d0, d1, d2, d3, d4, d5, d6, d7, d8⟩ := HQ0.out.nine
  rcases Bool.eq_false_or_eq_true b0 with hb | hb
  rotate_left
  · rw [hb] at e0 eR
    have HR : Hid (R = false) := Lib.hid (by rw [← eR]; simp)
    clear eR
    go_wp2_with (fail)
    go_ret
    exact ⟨by rw [HR.out] <;> rfl, HB0.out⟩
  rw [hb] at e0 eR
  clear hb
  rcases Bool.eq_false_or_eq_true b1 with hb | hb
  rotate_left
  · rw [hb] at e1 eR
    have HR : Hid (R = false) := Lib.hid (by rw [← eR]; simp)
    clear eR
    go_wp2_with (fail)
    go_ret
    exact ⟨by rw [HR.out] <;> rfl, HB0.out⟩
  rw [hb] at e1 eR
  clear hb
  rcases Bool.eq_false_or_eq_true b2 with hb | hb
  rotate_left
  · rw [hb] at e2 eR
    have HR : Hid (R = false) := Lib.hid (by rw [← eR]; simp)
    clear eR
    go_wp2_with (fail)
    go_ret
    exact ⟨by rw [HR.out] <;> rfl, HB0.out⟩
  rw [hb] at e2 eR
  clear hb
  rcases Bool.eq_false_or_eq_true b3 with hb | hb
  rotate_left
  · rw [hb] at e3 eR
    have HR : Hid (R = false) := Lib.hid (by rw [← eR]; simp)
    clear eR
    go_wp2_with (fail)
    go_ret
    exact ⟨by rw [HR.out] <;> rfl, HB0.out⟩
  rw [hb] at e3 eR
  clear hb
  rcases Bool.eq_false_or_eq_true b4 with hb | hb
  rotate_left
  · rw [hb] at e4 eR
    have HR : Hid (R = false) := Lib.hid (by rw [← eR]; simp)
    clear eR
    go_wp2_with (fail)
    go_ret
    exact ⟨by rw [HR.out] <;> rfl, HB0.out⟩
  rw [hb] at e4 eR
  clear hb
  rcases Bool.eq_false_or_eq_true b5 with hb | hb
  rotate_left
  · rw [hb] at e5 eR
    have HR : Hid (R = false) := Lib.hid (by rw [← eR]; simp)
    clear eR
    go_wp2_with (fail)
    go_ret
    exact ⟨by rw [HR.out] <;> rfl, HB0.out⟩
  rw [hb] at e5 eR
  clear hb
  rcases Bool.eq_false_or_eq_true b6 with hb | hb
  rotate_left
  · rw [hb] at e6 eR
    have HR : Hid (R = false) := Lib.hid (by rw [← eR]; simp)
    clear eR
    go_wp2_with (fail)
    go_ret
    exact ⟨by rw [HR.out] <;> rfl, HB0.out⟩
  rw [hb] at e6 eR
  clear hb
  cases bT
  · have HR : Hid (R = false) := Lib.hid (by rw [← eR]; simp)
    clear eR
    go_wp2_with ((go_at_call 27; (with_reducible refine (refSameT_c L m cm s.links M l dm t.links W0 HM.out HRL.out HL.out HRM.out hlm).mono ?_); rintro _ w1 ⟨rfl, hb1⟩; rw [ET.out]; have HB1 := Lib.hid (HB0.out.trans (hb1.mono HB0.out.size)); have HP1 := Lib.hid (HP0.out.below hb1); have HQ1 := Lib.hid (HQ0.out.below hb1); have HRA1 := Lib.hid (HRA.out.below hb1); have HRB1 := Lib.hid (HRB.out.below hb1); clear hb1; obtain ⟨f0, f1, f2, f3, f4, f5, f6, f7, f8⟩ := HP1.out.nine; obtain ⟨g0, g1, g2, g3, g4, g5, g6, g7, g8⟩ := HQ1.out.nine))
    go_ret
    exact ⟨by rw [HR.out] <;> rfl, HB1.out⟩
  · have HR : Hid (R = sameC s.cells t.cells) := Lib.hid (by rw [← eR]; simp)
    clear eR
    go_wp2_with (first
      | (go_at_call 27; (with_reducible refine (refSameT_c L m cm s.links M l dm t.links W0 HM.out HRL.out HL.out HRM.out hlm).mono ?_); rintro _ w1 ⟨rfl, hb1⟩; rw [ET.out]; have HB1 := Lib.hid (HB0.out.trans (hb1.mono HB0.out.size)); have HP1 := Lib.hid (HP0.out.below hb1); have HQ1 := Lib.hid (HQ0.out.below hb1); have HRA1 := Lib.hid (HRA.out.below hb1); have HRB1 := Lib.hid (HRB.out.below hb1); clear hb1; obtain ⟨f0, f1, f2, f3, f4, f5, f6, f7, f8⟩ := HP1.out.nine; obtain ⟨g0, g1, g2, g3, g4, g5, g6, g7, g8⟩ := HQ1.out.nine)
      | (go_at_call 28; (with_reducible refine (refSameG_c A n c s.cells B k d t.cells w1 HN.out HRA1.out HK.out HRB1.out hln).mono ?_); rintro _ w2 ⟨rfl, hb2⟩; have HB2 := Lib.hid (HB1.out.trans (hb2.mono HB1.out.size)); clear hb2))
    go_ret
    exact ⟨by rw [HR.out] <;> rfl, HB2.out⟩
end Go.Proofs.YtndjggabdajbfaaGreatDoor



/- What slices.Clone answers of cells and of texts: the same in memory of one's own. Conditions: what can be read; lengths that fit. -/
namespace Go.Proofs.YtndjggabdajbfaaGreatDoor
open Go Go.RowKit Go.Lib

set_option maxRecDepth 100000 in
set_option maxHeartbeats 1000000 in
theorem CloneC_c (A : Option Addr) (n c : Nat) (ds : List CeD) (w : World) (hn : ds.length = n) (hr : RdC w A ds) (hl : n ≤ 7000000000000) :
    Calls Tryz.prog 16 #[.slice A n c] w fun r w' => ∃ v, r = .returned v ∧ OwnC w' w.heap.size v ds ∧ Below w.heap.size w w' := by
  have HD := Lib.hid hn
  have HR := Lib.hid hr; clear hr hn
  cases A with
  | none =>
    have h0 : ds = [] := by
      rcases HR.out with h | ⟨_, _, h, _⟩
      · have := congrArg List.length h
        rw [cellsC_length] at this
        simp only [List.length_nil] at this
        exact List.eq_nil_of_length_eq_zero (by omega)
      · cases h
    subst h0
    have he : ∀ w : World, (binOp .eql 22 (.slice none n c) (.slice none 0 0)).run Tryz.prog w = .ok (.bool true) w := fun _ => rfl
    go_enter Tryz.func16, Tryz.ntmps16
    go_wp2_with (fail)
    go_ret
    exact ⟨_, rfl, OwnC.nil_ _ _, Below.refl _ _⟩
  | some a =>
    have O1 := Lib.hid (OwnC.made w)
    have k1 : Below w.heap.size w (w.alloc (.cells #[] 43)) := (Below.refl _ _).alloc (Nat.le_refl _) _
    have he : ∀ w : World, (binOp .eql 22 (.slice (some a) n c) (.slice none 0 0)).run Tryz.prog w = .ok (.bool false) w := fun _ => rfl
    go_enter Tryz.func16, Tryz.ntmps16
    go_wp2_with (first | (at_builtin; refine wpList_appC _ rfl (.tmp 5) (.tmp 6) rfl w.heap.size _ [] rfl O1.out (some a) n c ds rfl HD.out (Rd.below HR.out k1) (by simpa using hl) k1.size ?_; intro v2 w2 h2 h3 _; have H2 := Lib.hid h2; clear h2; have k2 := k1.grown h3 k1.size (fun k e => (World.ownsRow.lt O1.out k e).1); clear h3))
    go_ret
    exact ⟨_, rfl, by have := H2.out; simpa using this, k2⟩
end Go.Proofs.YtndjggabdajbfaaGreatDoor



/- Plain: the parts of colours, how far they are, the nearest one, a colour by such as there are. Conditions: none. -/
namespace Go.Proofs.YtndjggabdajbfaaGreatDoor
open Go Go.Lib

end Go.Proofs.YtndjggabdajbfaaGreatDoor


