/- Parts one behind the other: What the reference's event answers: numbers; What keys.numbers.event answers: no kind; a text; What keys.numbers.event answers: numbers; What keys.Decode answers: a batch read, or an error; What keys.Decode answers: a batch read, or an error; What the reference's Decode answers: a batch read, or an error; What the reference's Decode answers: a batch read, or an error; Events read: how many there are at most. Conditions: as told at each. -/
import Derived.Test.YtgnciejbhaebeaaPKeysDecodes3
import Derived.Test.YtgnciejbhaebeaaPKeysDecodes2
import Derived.Deep.CutBlock

/- What the reference's event answers: numbers. Conditions: a reader. -/
namespace Go.Proofs.Ytgnciejbhaebeaa
open Go Go.RowKit

def stS (s1 s2 s3 s4 : RS) : Nat → RS
  | 0 => s1
  | 1 => s2
  | 2 => s3
  | _ => s4
def stC (X Y Z : Nat) : Nat → Array Value
  | 0 => #[.int .u64 0, .int .u64 0, .int .u64 0]
  | 1 => #[.int .u64 (X : Int), .int .u64 0, .int .u64 0]
  | 2 => #[.int .u64 (X : Int), .int .u64 (Y : Int), .int .u64 0]
  | _ => #[.int .u64 (X : Int), .int .u64 (Y : Int), .int .u64 (Z : Int)]
def ixV : Nat → Value
  | 0 => .int .i64 0
  | 1 => .int .i64 1
  | 2 => .int .i64 2
  | _ => .int .i64 3
/-- The state of the loop over three numbers. -/
structure RvL (w0 : World) (g3 g4 g5 g7 g13 : Nat) (A : Option Addr) (c K X Y Z : Nat) (s1 s2 s3 s4 : RS) (j : Nat) (w : World) : Prop where
  rv : RvS w0 g3 g4 g5 g7 A c (stS s1 s2 s3 s4 j) (.int .i64 (K : Int)) (.slice none 0 0) (.int .i64 0) (.int .i64 0) (.int .i64 0) w
  b13 : w.heap[g13]? = some (.cells (stC X Y Z j) 159 (0, 0))
  lo : g7 < g13
/-- One number more. -/
theorem RvL.next {w0 w w' : World} {g3 g4 g5 g7 g13 c K X Y Z V j : Nat} {A : Option Addr} {s1 s2 s3 s4 sb : RS} (h : RvL w0 g3 g4 g5 g7 g13 A c K X Y Z s1 s2 s3 s4 j w) (hb : Below w.heap.size w w') (hs : RsOk w0 A c sb) (e1 : sb = stS s1 s2 s3 s4 (j + 1)) (e2 : (stC X Y Z j).setIfInBounds j (.int .u64 (V : Int)) = stC X Y Z (j + 1)) :
    RvL w0 g3 g4 g5 g7 g13 A c K X Y Z s1 s2 s3 s4 (j + 1) (set3 (w'.setCell ⟨g13, j, none⟩ (.int .u64 (V : Int))) g3 (.slice A sb.b.length c) (.int .i64 (sb.at_ : Int)) (.int .i64 (sb.err : Int))) := by
  have hl := h.lo
  have hl2 := h.rv.lo
  have k1 := Keeps.set (fun j => j = g13) w' ⟨g13, j, none⟩ (.int .u64 (V : Int)) rfl
  have r1 := (h.rv.below hb).far k1 (fun j e => by omega)
  have r2 := r1.setR hs
  have k2 := set3_keeps (w'.setCell ⟨g13, j, none⟩ (.int .u64 (V : Int))) g3 (.slice A sb.b.length c) (.int .i64 (sb.at_ : Int)) (.int .i64 (sb.err : Int))
  have b1 : w'.heap[g13]? = some (.cells (stC X Y Z j) 159 (0, 0)) := (hb.block g13 (heap_lt h.b13)).trans h.b13
  have b2 := heap_set b1 j (.int .u64 (V : Int))
  rw [e2] at b2
  refine ⟨by rw [← e1]; exact r2, ?_, hl⟩
  rw [k2.block g13 (heap_lt b2) (by omega)]
  exact b2

set_option maxRecDepth 100000 in
set_option maxHeartbeats 4000000 in
theorem refEvent_n (ver : Int) (A : Option Addr) (c : Nat) (s : RS) (w : World) (h : RsOk w A c s) (hyp : (getR (decide (ver = 1)) s 1).2.err = 0 ∧ ((getR (decide (ver = 1)) s 1).1 = 3 ∨ (getR (decide (ver = 1)) s 1).1 = 4)) : Calls Try.prog 80 #[.int .i64 ver, rsV A c s] w (EvQr w A c (evR (decide (ver = 1)) s)) := by
  have HYP := Lib.hid hyp; clear hyp
  obtain ⟨R, eR⟩ : ∃ R, R = evR (decide (ver = 1)) s := ⟨_, rfl⟩
  rw [← eR]
  have ER := Lib.hid eR; clear eR
  obtain ⟨wa, ewa⟩ : ∃ wa, wa = (((w.alloc (.cells #[.slice A s.b.length c, .int .i64 (s.at_ : Int), .int .i64 (s.err : Int)] 142)).alloc (.cells #[.int .i64 0, .slice none 0 0, .int .i64 0, .int .i64 0, .int .i64 0] 36)).alloc (.cells #[.slice none 0 0, .int .i64 0, .int .i64 0] 142)).alloc (.cells #[.int .i64 0, .slice none 0 0, .int .i64 0, .int .i64 0, .int .i64 0] 36) := ⟨_, rfl⟩
  obtain ⟨g3, eg3⟩ : ∃ g3, g3 = w.heap.size := ⟨_, rfl⟩
  obtain ⟨g4, eg4⟩ : ∃ g4, g4 = g3 + 1 := ⟨_, rfl⟩
  obtain ⟨g5, eg5⟩ : ∃ g5, g5 = g4 + 1 := ⟨_, rfl⟩
  obtain ⟨g7, eg7⟩ : ∃ g7, g7 = g5 + 1 := ⟨_, rfl⟩
  have HS := Lib.hid (RvS_start h ewa eg3 eg4 eg5 eg7)
  have EWA := Lib.hid ewa
  have EG3 := Lib.hid eg3
  have EG4 := Lib.hid eg4
  have EG5 := Lib.hid eg5
  have EG7 := Lib.hid eg7
  obtain ⟨K, s1, eA⟩ : ∃ K s1, getR (decide (ver = 1)) s 1 = (K, s1) := ⟨_, _, rfl⟩
  have hku := getR_lt eA
  have HKZ : Hid (s1.err ≠ 0 → K = 0) := Lib.hid (by have := getR_zero (f := decide (ver = 1)) (s := s) (z := 1); rw [eA] at this; exact this)
  have OK1 := Lib.hid (getR_ok h eA).1
  have EA := Lib.hid eA
  clear ewa eg3 eg4 eg5 eg7 h eA
  unfold rsV
  go_enter Try.func80, Try.ntmps80
  go_wp2_with (fail)
  rw [← EWA.out, ← EG3.out, ← EG4.out, ← EG5.out, ← EG7.out]
  refine (refRead_c ver A c s s1 1 K wa HS.out.ok (by decide) EA.out).mono ?_
  rintro e w1 ⟨rfl, hb1⟩
  unfold rsV
  have HS1 := Lib.hid (HS.out.below hb1)
  clear hb1 HS EWA EG3 EG4 EG5 EG7
  obtain ⟨⟨⟨x0, x1, x2⟩, xf0, xf1, xf2⟩, ⟨⟨y0, y1, y2, y3, y4⟩, yf0, yf1, yf2, yf3, yf4⟩, ⟨⟨z0, z1, z2, z3, z4⟩, zf0, zf1, zf2, zf3, zf4⟩, ⟨⟨q0, q1, q2⟩, qf0, qf1, qf2⟩, ⟨n1, n2, n3, n4⟩, ⟨n5, n6, n7, n8⟩, n9, n10⟩ := HS1.out.facts
  obtain ⟨w2, ew2⟩ : ∃ w2, w2 = set3 w1 g3 (.slice A s1.b.length c) (.int .i64 (s1.at_ : Int)) (.int .i64 (s1.err : Int)) := ⟨_, rfl⟩
  have HS2 := Lib.hid (ew2 ▸ HS1.out.setR OK1.out)
  unfold set3 at ew2
  have EW2 := Lib.hid ew2; clear ew2
  have hyp := HYP.out
  rw [EA.out] at hyp
  obtain ⟨he, h34'⟩ : s1.err = 0 ∧ (K = 3 ∨ K = 4) := hyp
  have h34 := Lib.hid h34'
  have he1 := Lib.hid he
  have e0 : ((s1.err : Int) != 0) = false := by rw [bne_eq_false_iff_eq]; omega
  have k1 : ¬ ((K : Int) < 1) := by omega
  have k4 : ¬ ((4 : Int) < (K : Int)) := by omega
  have k3 : ¬ ((K : Int) < 3) := by omega
  have wK := i64_w (n := K) (by unfold U63; omega)
  obtain ⟨X, s2, eX⟩ : ∃ X s2, getR (decide (ver = 1)) s1 1 = (X, s2) := ⟨_, _, rfl⟩
  obtain ⟨Y, s3, eY⟩ : ∃ Y s3, getR (decide (ver = 1)) s2 1 = (Y, s3) := ⟨_, _, rfl⟩
  obtain ⟨Z, s4, eZ⟩ : ∃ Z s4, (if K = 3 then getR (decide (ver = 1)) s3 1 else (0, s3)) = (Z, s4) := ⟨_, _, rfl⟩
  have hok2 := (getR_ok OK1.out eX).1
  have hok3 := (getR_ok hok2 eY).1
  have hok4 : RsOk w A c s4 := by
    by_cases h3 : K = 3
    · rw [if_pos h3] at eZ; exact (getR_ok hok3 eZ).1
    · rw [if_neg h3] at eZ; injection eZ with _ e2; rw [← e2]; exact hok3
  have hRt : Hid (R = if s4.err ≠ 0 then (s4.err, ev0, s4) else if 255 < X ∨ 255 < Y ∨ 255 < Z then (3, ev0, s4) else if Ev.may ⟨K, [], X, Y, Z⟩ = false then (3, ev0, s4) else (0, ⟨K, [], X, Y, Z⟩, s4)) := Lib.hid (by
    rw [ER.out, evR, EA.out, if_neg (by simpa using he1.out), if_neg (by simp only; omega), if_neg (by simp only; omega)]
    simp only [eX, eY, eZ])
  have EX := Lib.hid eX
  have EY := Lib.hid eY
  have EZ := Lib.hid eZ
  have OK2 := Lib.hid hok2
  have OK3 := Lib.hid hok3
  have OK4 := Lib.hid hok4
  clear h34' he eX eY eZ hok2 hok3 hok4
  go_upto_region 7 with (fail)
  rw [← EW2.out]
  clear x0 x1 x2 xf0 xf1 xf2 y0 y1 y2 y3 y4 yf0 yf1 yf2 yf3 yf4 z0 z1 z2 z3 z4 zf0 zf1 zf2 zf3 zf4 q0 q1 q2 qf0 qf1 qf2 n1 n2 n3 n4 n5 n6 n7 n8 n9 n10 EW2
  obtain ⟨⟨⟨x0, x1, x2⟩, xf0, xf1, xf2⟩, ⟨⟨y0, y1, y2, y3, y4⟩, yf0, yf1, yf2, yf3, yf4⟩, ⟨⟨z0, z1, z2, z3, z4⟩, zf0, zf1, zf2, zf3, zf4⟩, ⟨⟨q0, q1, q2⟩, qf0, qf1, qf2⟩, ⟨n1, n2, n3, n4⟩, ⟨n5, n6, n7, n8⟩, n9, n10⟩ := HS2.out.facts
  obtain ⟨w3, ew3⟩ : ∃ w3, w3 = w2.setCell ⟨g7, 0, none⟩ (.int .i64 (K : Int)) := ⟨_, rfl⟩
  have HS3 := Lib.hid (ew3 ▸ HS2.out.set0 (u := .int .i64 (K : Int)))
  have EW3 := Lib.hid ew3; clear ew3
  go_upto_region 22 with (fail)
  rw [← EW3.out]
  clear x0 x1 x2 xf0 xf1 xf2 y0 y1 y2 y3 y4 yf0 yf1 yf2 yf3 yf4 z0 z1 z2 z3 z4 zf0 zf1 zf2 zf3 zf4 q0 q1 q2 qf0 qf1 qf2 n1 n2 n3 n4 n5 n6 n7 n8 n9 n10 EW3 wK
  obtain ⟨w4, ew4⟩ : ∃ w4, w4 = w3.alloc (.cells #[.int .u64 0, .int .u64 0, .int .u64 0] 159) := ⟨_, rfl⟩
  obtain ⟨g13, eg13⟩ : ∃ g13, g13 = w3.heap.size := ⟨_, rfl⟩
  have hL : RvL w g3 g4 g5 g7 g13 A c K X Y Z s1 s2 s3 s4 0 w4 := by
    refine ⟨HS3.out.below (by rw [ew4]; exact (Below.refl _ _).alloc (Nat.le_refl _) _), ?_, ?_⟩
    · rw [ew4, eg13]; exact heap_alloc_new w3 _
    · rw [eg13]; exact heap_lt HS3.out.b7
  have HL0 := Lib.hid hL
  have EW4 := Lib.hid ew4
  have EG13 := Lib.hid eg13
  clear ew4 eg13 hL HS2
  go_upto_block 0 with (fail)
  rw [← EW4.out, ← EG13.out]
  clear EW4 EG13 HS3
  go_wp2_with (fail)
  go_loopw [14] (fun i wr => ∃ j : Nat, j ≤ 3 ∧ i = ixV j ∧ Hid (RvL w g3 g4 g5 g7 g13 A c K X Y Z s1 s2 s3 s4 j wr)) (fun i _ => 3 - (intOf i).toNat)
  case atStart => exact ⟨0, by decide, rfl, HL0⟩
  case round =>
    clear HL0
    obtain ⟨j, hj, hi, HL⟩ := hrel
    have h4 : j = 0 ∨ j = 1 ∨ j = 2 ∨ j = 3 := by omega
    rcases h4 with h4 | h4 | h4 | h4
    · subst h4
      replace hi : u14 = .int .i64 0 := hi
      subst hi
      have hS : RvS w g3 g4 g5 g7 A c s1 (.int .i64 (K : Int)) (.slice none 0 0) (.int .i64 0) (.int .i64 0) (.int .i64 0) wr := HL.out.rv
      have HSr := Lib.hid hS; clear hS
      obtain ⟨⟨⟨x0, x1, x2⟩, xf0, xf1, xf2⟩, ⟨⟨y0, y1, y2, y3, y4⟩, yf0, yf1, yf2, yf3, yf4⟩, ⟨⟨z0, z1, z2, z3, z4⟩, zf0, zf1, zf2, zf3, zf4⟩, ⟨⟨q0, q1, q2⟩, qf0, qf1, qf2⟩, ⟨n1, n2, n3, n4⟩, ⟨n5, n6, n7, n8⟩, n9, n10⟩ := HSr.out.facts
      go_wp2_with (fail)
      refine (refRead_c ver A c s1 s2 1 X wr HSr.out.ok (by decide) EX.out).mono ?_
      rintro e w4 ⟨rfl, hb4⟩
      unfold rsV
      clear x0 x1 x2 xf0 xf1 xf2 y0 y1 y2 y3 y4 yf0 yf1 yf2 yf3 yf4 z0 z1 z2 z3 z4 zf0 zf1 zf2 zf3 zf4 q0 q1 q2 qf0 qf1 qf2 n1 n2 n3 n4 n5 n6 n7 n8 n9 n10
      obtain ⟨w5, ew5⟩ : ∃ w5, w5 = w4.alloc (.cells #[.slice A s2.b.length c, .int .i64 (s2.at_ : Int), .int .i64 (s2.err : Int)] 142) := ⟨_, rfl⟩
      obtain ⟨g16, eg16⟩ : ∃ g16, g16 = w4.heap.size := ⟨_, rfl⟩
      have hb5 : Below wr.heap.size wr w5 := by rw [ew5]; exact hb4.alloc hb4.size _
      have HS5 := Lib.hid (HSr.out.below hb5)
      have hB16 : RdB w5 g16 A c s2 := by rw [ew5, eg16]; exact heap_alloc_new w4 _
      have hb13 := (hb5.block g13 (heap_lt HL.out.b13)).trans HL.out.b13
      have hg16 : g13 < g16 := by rw [eg16]; exact Nat.lt_of_lt_of_le (heap_lt HL.out.b13) hb4.size
      have hg13 := HL.out.lo
      have hlo5 := HS5.out.lo
      have HN := Lib.hid (HL.out.next (V := X) (sb := s2) hb5 OK2.out rfl rfl)
      have EW5 := Lib.hid ew5
      have EG16 := Lib.hid eg16
      obtain ⟨⟨v0, v1, v2⟩, vf0, vf1, vf2⟩ := box3 hb13
      obtain ⟨⟨r0, r1, r2⟩, rf0, rf1, rf2⟩ := hB16.cells
      have m1 : ¬ g16 = g13 := by omega
      have m2 : ¬ g13 = g16 := by omega
      have m3 : ¬ g3 = g13 := by omega
      have m4 : ¬ g13 = g3 := by omega
      have m5 : ¬ g16 = g3 := by omega
      have m6 : ¬ g3 = g16 := by omega
      clear ew5 eg16 hb4 hb5 hB16 hb13
      go_upto_region 28 with (fail)
      rw [← EW5.out, ← EG16.out]
      clear EW5 EG16
      obtain ⟨⟨⟨x0, x1, x2⟩, xf0, xf1, xf2⟩, ⟨⟨y0, y1, y2, y3, y4⟩, yf0, yf1, yf2, yf3, yf4⟩, ⟨⟨z0, z1, z2, z3, z4⟩, zf0, zf1, zf2, zf3, zf4⟩, ⟨⟨q0, q1, q2⟩, qf0, qf1, qf2⟩, ⟨n1, n2, n3, n4⟩, ⟨n5, n6, n7, n8⟩, n9, n10⟩ := HS5.out.facts
      go_wp2_with (fail)
      go_roundw
      case rel => exact ⟨1, by decide, by first | rfl | go_num, HN⟩
      case measure => decide
    · subst h4
      replace hi : u14 = .int .i64 1 := hi
      subst hi
      have hS : RvS w g3 g4 g5 g7 A c s2 (.int .i64 (K : Int)) (.slice none 0 0) (.int .i64 0) (.int .i64 0) (.int .i64 0) wr := HL.out.rv
      have HSr := Lib.hid hS; clear hS
      obtain ⟨⟨⟨x0, x1, x2⟩, xf0, xf1, xf2⟩, ⟨⟨y0, y1, y2, y3, y4⟩, yf0, yf1, yf2, yf3, yf4⟩, ⟨⟨z0, z1, z2, z3, z4⟩, zf0, zf1, zf2, zf3, zf4⟩, ⟨⟨q0, q1, q2⟩, qf0, qf1, qf2⟩, ⟨n1, n2, n3, n4⟩, ⟨n5, n6, n7, n8⟩, n9, n10⟩ := HSr.out.facts
      go_wp2_with (fail)
      refine (refRead_c ver A c s2 s3 1 Y wr HSr.out.ok (by decide) EY.out).mono ?_
      rintro e w4 ⟨rfl, hb4⟩
      unfold rsV
      clear x0 x1 x2 xf0 xf1 xf2 y0 y1 y2 y3 y4 yf0 yf1 yf2 yf3 yf4 z0 z1 z2 z3 z4 zf0 zf1 zf2 zf3 zf4 q0 q1 q2 qf0 qf1 qf2 n1 n2 n3 n4 n5 n6 n7 n8 n9 n10
      obtain ⟨w5, ew5⟩ : ∃ w5, w5 = w4.alloc (.cells #[.slice A s3.b.length c, .int .i64 (s3.at_ : Int), .int .i64 (s3.err : Int)] 142) := ⟨_, rfl⟩
      obtain ⟨g16, eg16⟩ : ∃ g16, g16 = w4.heap.size := ⟨_, rfl⟩
      have hb5 : Below wr.heap.size wr w5 := by rw [ew5]; exact hb4.alloc hb4.size _
      have HS5 := Lib.hid (HSr.out.below hb5)
      have hB16 : RdB w5 g16 A c s3 := by rw [ew5, eg16]; exact heap_alloc_new w4 _
      have hb13 := (hb5.block g13 (heap_lt HL.out.b13)).trans HL.out.b13
      have hg16 : g13 < g16 := by rw [eg16]; exact Nat.lt_of_lt_of_le (heap_lt HL.out.b13) hb4.size
      have hg13 := HL.out.lo
      have hlo5 := HS5.out.lo
      have HN := Lib.hid (HL.out.next (V := Y) (sb := s3) hb5 OK3.out rfl rfl)
      have EW5 := Lib.hid ew5
      have EG16 := Lib.hid eg16
      obtain ⟨⟨v0, v1, v2⟩, vf0, vf1, vf2⟩ := box3 hb13
      obtain ⟨⟨r0, r1, r2⟩, rf0, rf1, rf2⟩ := hB16.cells
      have m1 : ¬ g16 = g13 := by omega
      have m2 : ¬ g13 = g16 := by omega
      have m3 : ¬ g3 = g13 := by omega
      have m4 : ¬ g13 = g3 := by omega
      have m5 : ¬ g16 = g3 := by omega
      have m6 : ¬ g3 = g16 := by omega
      clear ew5 eg16 hb4 hb5 hB16 hb13
      go_upto_region 28 with (fail)
      rw [← EW5.out, ← EG16.out]
      clear EW5 EG16
      obtain ⟨⟨⟨x0, x1, x2⟩, xf0, xf1, xf2⟩, ⟨⟨y0, y1, y2, y3, y4⟩, yf0, yf1, yf2, yf3, yf4⟩, ⟨⟨z0, z1, z2, z3, z4⟩, zf0, zf1, zf2, zf3, zf4⟩, ⟨⟨q0, q1, q2⟩, qf0, qf1, qf2⟩, ⟨n1, n2, n3, n4⟩, ⟨n5, n6, n7, n8⟩, n9, n10⟩ := HS5.out.facts
      go_wp2_with (fail)
      go_roundw
      case rel => exact ⟨2, by decide, by first | rfl | go_num, HN⟩
      case measure => decide
    · subst h4
      replace hi : u14 = .int .i64 2 := hi
      subst hi
      by_cases h3 : K = 3
      · have h3e : ((K : Int) == 3) = true := by rw [beq_iff_eq]; omega
        have eZ3 : Hid (getR (decide (ver = 1)) s3 1 = (Z, s4)) := Lib.hid (by have := EZ.out; rw [if_pos h3] at this; exact this)
        clear h3
        have hS : RvS w g3 g4 g5 g7 A c s3 (.int .i64 (K : Int)) (.slice none 0 0) (.int .i64 0) (.int .i64 0) (.int .i64 0) wr := HL.out.rv
        have HSr := Lib.hid hS; clear hS
        obtain ⟨⟨⟨x0, x1, x2⟩, xf0, xf1, xf2⟩, ⟨⟨y0, y1, y2, y3, y4⟩, yf0, yf1, yf2, yf3, yf4⟩, ⟨⟨z0, z1, z2, z3, z4⟩, zf0, zf1, zf2, zf3, zf4⟩, ⟨⟨q0, q1, q2⟩, qf0, qf1, qf2⟩, ⟨n1, n2, n3, n4⟩, ⟨n5, n6, n7, n8⟩, n9, n10⟩ := HSr.out.facts
        go_wp2_with (fail)
        refine (refRead_c ver A c s3 s4 1 Z wr HSr.out.ok (by decide) eZ3.out).mono ?_
        rintro e w4 ⟨rfl, hb4⟩
        unfold rsV
        clear x0 x1 x2 xf0 xf1 xf2 y0 y1 y2 y3 y4 yf0 yf1 yf2 yf3 yf4 z0 z1 z2 z3 z4 zf0 zf1 zf2 zf3 zf4 q0 q1 q2 qf0 qf1 qf2 n1 n2 n3 n4 n5 n6 n7 n8 n9 n10
        obtain ⟨w5, ew5⟩ : ∃ w5, w5 = w4.alloc (.cells #[.slice A s4.b.length c, .int .i64 (s4.at_ : Int), .int .i64 (s4.err : Int)] 142) := ⟨_, rfl⟩
        obtain ⟨g16, eg16⟩ : ∃ g16, g16 = w4.heap.size := ⟨_, rfl⟩
        have hb5 : Below wr.heap.size wr w5 := by rw [ew5]; exact hb4.alloc hb4.size _
        have HS5 := Lib.hid (HSr.out.below hb5)
        have hB16 : RdB w5 g16 A c s4 := by rw [ew5, eg16]; exact heap_alloc_new w4 _
        have hb13 := (hb5.block g13 (heap_lt HL.out.b13)).trans HL.out.b13
        have hg16 : g13 < g16 := by rw [eg16]; exact Nat.lt_of_lt_of_le (heap_lt HL.out.b13) hb4.size
        have hg13 := HL.out.lo
        have hlo5 := HS5.out.lo
        have HN := Lib.hid (HL.out.next (V := Z) (sb := s4) hb5 OK4.out rfl rfl)
        have EW5 := Lib.hid ew5
        have EG16 := Lib.hid eg16
        obtain ⟨⟨v0, v1, v2⟩, vf0, vf1, vf2⟩ := box3 hb13
        obtain ⟨⟨r0, r1, r2⟩, rf0, rf1, rf2⟩ := hB16.cells
        have m1 : ¬ g16 = g13 := by omega
        have m2 : ¬ g13 = g16 := by omega
        have m3 : ¬ g3 = g13 := by omega
        have m4 : ¬ g13 = g3 := by omega
        have m5 : ¬ g16 = g3 := by omega
        have m6 : ¬ g3 = g16 := by omega
        clear ew5 eg16 hb4 hb5 hB16 hb13
        go_upto_region 28 with (fail)
        rw [← EW5.out, ← EG16.out]
        clear EW5 EG16
        obtain ⟨⟨⟨x0, x1, x2⟩, xf0, xf1, xf2⟩, ⟨⟨y0, y1, y2, y3, y4⟩, yf0, yf1, yf2, yf3, yf4⟩, ⟨⟨z0, z1, z2, z3, z4⟩, zf0, zf1, zf2, zf3, zf4⟩, ⟨⟨q0, q1, q2⟩, qf0, qf1, qf2⟩, ⟨n1, n2, n3, n4⟩, ⟨n5, n6, n7, n8⟩, n9, n10⟩ := HS5.out.facts
        go_wp2_with (fail)
        go_roundw
        case rel => exact ⟨3, by decide, by first | rfl | go_num, HN⟩
        case measure => decide
      · have h3e : ((K : Int) == 3) = false := by rw [beq_eq_false_iff_ne]; omega
        have hz : Z = 0 ∧ s4 = s3 := by have := EZ.out; rw [if_neg h3] at this; injection this with a b; exact ⟨a.symm, b.symm⟩
        have HN : Hid (RvL w g3 g4 g5 g7 g13 A c K X Y Z s1 s2 s3 s4 3 wr) := Lib.hid ⟨by have := HL.out.rv; show RvS w g3 g4 g5 g7 A c s4 _ _ _ _ _ wr; rw [hz.2]; exact this, by have := HL.out.b13; show wr.heap[g13]? = some (.cells #[.int .u64 (X : Int), .int .u64 (Y : Int), .int .u64 (Z : Int)] _ (0, 0)); rw [hz.1]; exact this, HL.out.lo⟩
        clear h3 hz
        go_wp2_with (fail)
        go_roundw
        case rel => exact ⟨3, by decide, by first | rfl | go_num, HN⟩
        case measure => decide
    · subst h4
      replace hi : u14 = .int .i64 3 := hi
      subst hi
      have hS := HL.out.rv
      replace hS : RvS w g3 g4 g5 g7 A c s4 (.int .i64 (K : Int)) (.slice none 0 0) (.int .i64 0) (.int .i64 0) (.int .i64 0) wr := hS
      have HSr := Lib.hid hS
      have hb13 := HL.out.b13
      replace hb13 : wr.heap[g13]? = some (.cells #[.int .u64 (X : Int), .int .u64 (Y : Int), .int .u64 (Z : Int)] 159 (0, 0)) := hb13
      have H13 := Lib.hid hb13
      have hg13 := HL.out.lo
      obtain ⟨⟨v0, v1, v2⟩, vf0, vf1, vf2⟩ := box3 hb13
      clear hS hb13 HL
      obtain ⟨⟨⟨x0, x1, x2⟩, xf0, xf1, xf2⟩, ⟨⟨y0, y1, y2, y3, y4⟩, yf0, yf1, yf2, yf3, yf4⟩, ⟨⟨z0, z1, z2, z3, z4⟩, zf0, zf1, zf2, zf3, zf4⟩, ⟨⟨q0, q1, q2⟩, qf0, qf1, qf2⟩, ⟨n1, n2, n3, n4⟩, ⟨n5, n6, n7, n8⟩, n9, n10⟩ := HSr.out.facts
      go_upto_region 30 with (fail)
      have hlo := HSr.out.lo
      by_cases h4 : s4.err = 0
      · have h4e : ((s4.err : Int) != 0) = false := by rw [bne_eq_false_iff_eq]; omega
        have H4 := Lib.hid h4; clear h4
        obtain ⟨L, eL⟩ : ∃ L, L = decide (255 < X ∨ 255 < Y ∨ 255 < Z) := ⟨_, rfl⟩
        have EL := Lib.hid eL; clear eL
        go_upto_region 32 with (fail)
        go_cut [133] (fun s133 wx => s133 = .bool L ∧ wr = wx)
        case first =>
          by_cases hX : 255 < X
          · have HL := Lib.hid (show L = true from EL.out.trans (decide_eq_true (.inl hX)))
            have l1 : decide ((255 : Int) < (X : Int)) = true := decide_eq_true (by omega)
            have l2 : decide (255 < X) = true := decide_eq_true hX
            clear hX
            go_wp2_with (fail)
            go_meet
            exact ⟨by rw [HL.out], rfl⟩
          · by_cases hY : 255 < Y
            · have HL := Lib.hid (show L = true from EL.out.trans (decide_eq_true (.inr (.inl hY))))
              have l1 : decide ((255 : Int) < (X : Int)) = false := decide_eq_false (by omega)
              have l2 : decide (255 < X) = false := decide_eq_false hX
              have l3 : decide ((255 : Int) < (Y : Int)) = true := decide_eq_true (by omega)
              have l4 : decide (255 < Y) = true := decide_eq_true hY
              clear hX hY
              go_wp2_with (fail)
              go_meet
              exact ⟨by rw [HL.out], rfl⟩
            · by_cases hZ : 255 < Z
              · have HL := Lib.hid (show L = true from EL.out.trans (decide_eq_true (.inr (.inr hZ))))
                have l1 : decide ((255 : Int) < (X : Int)) = false := decide_eq_false (by omega)
                have l2 : decide (255 < X) = false := decide_eq_false hX
                have l3 : decide ((255 : Int) < (Y : Int)) = false := decide_eq_false (by omega)
                have l4 : decide (255 < Y) = false := decide_eq_false hY
                have l5 : decide ((255 : Int) < (Z : Int)) = true := decide_eq_true (by omega)
                have l6 : decide (255 < Z) = true := decide_eq_true hZ
                clear hX hY hZ
                go_wp2_with (fail)
                go_meet
                exact ⟨by rw [HL.out], rfl⟩
              · have HL := Lib.hid (show L = false from EL.out.trans (decide_eq_false (by omega)))
                have l1 : decide ((255 : Int) < (X : Int)) = false := decide_eq_false (by omega)
                have l2 : decide (255 < X) = false := decide_eq_false hX
                have l3 : decide ((255 : Int) < (Y : Int)) = false := decide_eq_false (by omega)
                have l4 : decide (255 < Y) = false := decide_eq_false hY
                have l5 : decide ((255 : Int) < (Z : Int)) = false := decide_eq_false (by omega)
                have l6 : decide (255 < Z) = false := decide_eq_false hZ
                clear hX hY hZ
                go_wp2_with (fail)
                go_meet
                exact ⟨by rw [HL.out], rfl⟩
        case rest =>
          obtain ⟨rfl, rfl⟩ := hcut
          cases L with
          | true =>
            have hR : R = (3, ev0, s4) := by rw [hRt.out, if_neg (by simpa using H4.out), if_pos (of_decide_eq_true EL.out.symm)]
            have HR := Lib.hid hR; clear hR
            go_upto_region 33 with (fail)
            go_region
            go_wp2_with (fail)
            refine bodyPost_ret (v := .tuple #[.agg #[.int .i64 (K : Int), .slice none 0 0, .int .i64 0, .int .i64 0, .int .i64 0], .agg #[.slice A s4.b.length c, .int .i64 (s4.at_ : Int), .int .i64 (s4.err : Int)], .int .i64 3]) (by simp [results, Try.results80, go_sem, z0, z1, z2, z3, z4, q0, q1, q2, n9, n10]) rfl (HSr.out.ends ⟨(K : Int), none, 0, 0, 0, 0, 0⟩ s4 3 _ _ HR.out (fun h => by cases h))
          | false =>
            have hbig : ¬ (255 < X ∨ 255 < Y ∨ 255 < Z) := of_decide_eq_false EL.out.symm
            have HBG := Lib.hid hbig
            have wX := i64_w (n := X) (by unfold U63; omega)
            have wY := i64_w (n := Y) (by unfold U63; omega)
            have wZ := i64_w (n := Z) (by unfold U63; omega)
            have m1 : ¬ g13 = g7 := by omega
            have m2 : ¬ g7 = g13 := by omega
            obtain ⟨w6, ew6⟩ : ∃ w6, w6 = ((wr.setCell ⟨g7, 2, none⟩ (.int .i64 (X : Int))).setCell ⟨g7, 3, none⟩ (.int .i64 (Y : Int))).setCell ⟨g7, 4, none⟩ (.int .i64 (Z : Int)) := ⟨_, rfl⟩
            have hS6 := ((HSr.out.set2 (u := .int .i64 (X : Int))).set3_ (u := .int .i64 (Y : Int))).set4 (u := .int .i64 (Z : Int))
            rw [← ew6] at hS6
            have HS6 := Lib.hid hS6
            have EW6 := Lib.hid ew6
            clear hbig hS6 ew6
            go_upto_region 37 with (fail)
            rw [← EW6.out]
            clear x0 x1 x2 xf0 xf1 xf2 y0 y1 y2 y3 y4 yf0 yf1 yf2 yf3 yf4 z0 z1 z2 z3 z4 zf0 zf1 zf2 zf3 zf4 q0 q1 q2 qf0 qf1 qf2 n1 n2 n3 n4 n5 n6 n7 n8 n9 n10 v0 v1 v2 vf0 vf1 vf2 wX wY wZ EW6 H13 HSr
            obtain ⟨⟨⟨x0, x1, x2⟩, xf0, xf1, xf2⟩, ⟨⟨y0, y1, y2, y3, y4⟩, yf0, yf1, yf2, yf3, yf4⟩, ⟨⟨z0, z1, z2, z3, z4⟩, zf0, zf1, zf2, zf3, zf4⟩, ⟨⟨q0, q1, q2⟩, qf0, qf1, qf2⟩, ⟨n1, n2, n3, n4⟩, ⟨n5, n6, n7, n8⟩, n9, n10⟩ := HS6.out.facts
            obtain ⟨M4, eM4⟩ : ∃ M4, M4 = mayB (K : Int) (X : Int) (Y : Int) (Z : Int) 0 := ⟨_, rfl⟩
            have HM4 := Lib.hid eM4
            go_wp2_with (fail)
            refine (refMay_c (K : Int) (X : Int) (Y : Int) (Z : Int) none 0 0 w6).mono ?_
            rintro e w7 ⟨rfl, hb7⟩
            rw [← eM4]
            have HS7 := Lib.hid (HS6.out.below hb7)
            clear x0 x1 x2 xf0 xf1 xf2 y0 y1 y2 y3 y4 yf0 yf1 yf2 yf3 yf4 z0 z1 z2 z3 z4 zf0 zf1 zf2 zf3 zf4 q0 q1 q2 qf0 qf1 qf2 n1 n2 n3 n4 n5 n6 n7 n8 n9 n10 hb7 eM4 HS6
            obtain ⟨⟨⟨x0, x1, x2⟩, xf0, xf1, xf2⟩, ⟨⟨y0, y1, y2, y3, y4⟩, yf0, yf1, yf2, yf3, yf4⟩, ⟨⟨z0, z1, z2, z3, z4⟩, zf0, zf1, zf2, zf3, zf4⟩, ⟨⟨q0, q1, q2⟩, qf0, qf1, qf2⟩, ⟨n1, n2, n3, n4⟩, ⟨n5, n6, n7, n8⟩, n9, n10⟩ := HS7.out.facts
            cases M4 with
            | false =>
              have hR : R = (3, ev0, s4) := by rw [hRt.out, if_neg (by simpa using H4.out), if_neg HBG.out, if_pos (by rw [Ev.may]; exact HM4.out.symm)]
              have HR := Lib.hid hR; clear hR
              go_upto_region 38 with (fail)
              go_region
              go_wp2_with (fail)
              refine bodyPost_ret (v := .tuple #[.agg #[.int .i64 (K : Int), .slice none 0 0, .int .i64 (X : Int), .int .i64 (Y : Int), .int .i64 (Z : Int)], .agg #[.slice A s4.b.length c, .int .i64 (s4.at_ : Int), .int .i64 (s4.err : Int)], .int .i64 3]) (by simp [results, Try.results80, go_sem, z0, z1, z2, z3, z4, q0, q1, q2, n9, n10]) rfl (HS7.out.ends ⟨(K : Int), none, 0, 0, (X : Int), (Y : Int), (Z : Int)⟩ s4 3 _ _ HR.out (fun h => by cases h))
            | true =>
              have hR : R = (0, ⟨K, [], X, Y, Z⟩, s4) := by rw [hRt.out, if_neg (by simpa using H4.out), if_neg HBG.out, if_neg (by rw [Ev.may]; show ¬ mayB (K : Int) (X : Int) (Y : Int) (Z : Int) 0 = false; rw [← HM4.out]; decide)]
              have HR := Lib.hid hR; clear hR
              go_upto_region 39 with (fail)
              go_region
              go_wp2_with (fail)
              refine bodyPost_ret (v := .tuple #[.agg #[.int .i64 (K : Int), .slice none 0 0, .int .i64 (X : Int), .int .i64 (Y : Int), .int .i64 (Z : Int)], .agg #[.slice A s4.b.length c, .int .i64 (s4.at_ : Int), .int .i64 (s4.err : Int)], .int .i64 0]) (by simp [results, Try.results80, go_sem, z0, z1, z2, z3, z4, q0, q1, q2, n9, n10]) rfl (HS7.out.ends ⟨(K : Int), none, 0, 0, (X : Int), (Y : Int), (Z : Int)⟩ s4 0 _ _ HR.out (fun _ => ⟨⟨rfl, rfl, rfl, rfl, rfl, Own.nil_ _ _ _, fun a ea => (by cases ea), Nat.zero_le _⟩, rfl⟩))
      · have hR : R = (s4.err, ev0, s4) := by rw [hRt.out, if_pos h4]
        have HR := Lib.hid hR; clear hR
        have h4e : ((s4.err : Int) != 0) = true := by rw [bne_iff_ne]; omega
        have H4 := Lib.hid h4; clear h4
        go_upto_region 31 with (fail)
        go_region
        go_wp2_with (fail)
        refine bodyPost_ret (v := .tuple #[.agg #[.int .i64 (K : Int), .slice none 0 0, .int .i64 0, .int .i64 0, .int .i64 0], .agg #[.slice A s4.b.length c, .int .i64 (s4.at_ : Int), .int .i64 (s4.err : Int)], .int .i64 (s4.err : Int)]) (by simp [results, Try.results80, go_sem, z0, z1, z2, z3, z4, q0, q1, q2, n9, n10]) rfl (HSr.out.ends ⟨(K : Int), none, 0, 0, 0, 0, 0⟩ s4 s4.err _ _ HR.out (fun h => absurd h H4.out))
end Go.Proofs.Ytgnciejbhaebeaa

/- What keys.numbers.event answers: no kind; a text. Conditions: a reader. -/
namespace Go.Proofs.Ytgnciejbhaebeaa
open Go Go.RowKit

set_option maxRecDepth 100000 in
set_option maxHeartbeats 4000000 in
theorem event_p (f : Bool) (r : Nat) (s : RS) (w : World) (h : Rdr w r s) (hA : ∀ a, s.gA = some a → a.block < w.heap.size) (hyp : (getR f s 1).2.err = 0 ∧ ((getR f s 1).1 < 1 ∨ 4 < (getR f s 1).1)) : Calls Try.prog 77 #[.agg #[.bool f], .pointer (some ⟨r, 0, none⟩)] w (EvQ w r (evR f s)) := by
  have HYP := Lib.hid hyp; clear hyp
  obtain ⟨R, eR⟩ : ∃ R, R = evR f s := ⟨_, rfl⟩
  rw [← eR]
  have ER := Lib.hid eR; clear eR
  obtain ⟨wa, ewa⟩ : ∃ wa, wa = (w.alloc (.cells #[.bool f] 111)).alloc (.cells #[.int .i64 0, .slice none 0 0, .int .i64 0, .int .i64 0, .int .i64 0] 36) := ⟨_, rfl⟩
  obtain ⟨g2, eg2⟩ : ∃ g2, g2 = w.heap.size := ⟨_, rfl⟩
  obtain ⟨g4, eg4⟩ : ∃ g4, g4 = g2 + 1 := ⟨_, rfl⟩
  have hs : EvS w r g2 g4 f s wa := by
    have hb : Below w.heap.size w wa := by rw [ewa]; exact ((Below.refl _ _).alloc (Nat.le_refl _) _).alloc (by simp) _
    have hl := h.lt
    refine ⟨h.below hb, ?_, ?_, ?_, ?_, ?_⟩
    · rw [ewa, eg2]; exact heap2_old w _ _
    · rw [ewa, eg4, eg2]; exact heap2_new w _ _
    · rw [ewa]; exact ((Keeps.refl _ w).alloc _).alloc _
    · omega
    · rw [eg2]; exact hA
  have HS := Lib.hid hs
  have EWA := Lib.hid ewa
  have EG2 := Lib.hid eg2
  have EG4 := Lib.hid eg4
  clear hs ewa eg2 eg4 h hA
  have hku := getR_u64 f s 1
  have hkz := getR_zero (f := f) (s := s) (z := 1)
  have hkg := (getR_b f s 1).2
  obtain ⟨K, s1, eA⟩ : ∃ K s1, getR f s 1 = (K, s1) := ⟨_, _, rfl⟩
  rw [eA] at hku hkz hkg
  have hku : U64 K := hku
  have HKZ : Hid (s1.err ≠ 0 → K = 0) := Lib.hid hkz
  have HKG : Hid (s1.gA = s.gA) := Lib.hid hkg
  have EA := Lib.hid eA
  clear hkz eA hkg
  go_enter Try.func77, Try.ntmps77
  go_wp2_with (fail)
  rw [← EWA.out, ← EG2.out, ← EG4.out]
  refine (get_e f r s s1 1 K wa HS.out.rd (by decide) EA.out).mono ?_
  rintro e w1 ⟨rfl, hr1, hk1⟩
  have HS1 := Lib.hid (HS.out.step hr1 hk1 HKG.out)
  clear hr1 hk1 HS EWA EG2 EG4
  have hlow := HS1.out.lo
  have c2 := HS1.out.c2
  obtain ⟨⟨d0, d1, d2, d3, d4⟩, y0, y1, y2, y3, y4⟩ := five_cells HS1.out.b4
  have hyp := HYP.out
  rw [EA.out] at hyp
  obtain ⟨he, hk⟩ : s1.err = 0 ∧ (K < 1 ∨ 4 < K) := hyp
  have hR : R = (3, ev0, s1) := by rw [ER.out, evR, EA.out, if_neg (by simpa using he), if_pos hk]
  have HR := Lib.hid hR; clear hR
  have HE := Lib.hid he; clear he
  go_wp2_with (fail)
  refine (Rerr_e r s1 0 w1 HS1.out.rd HE.out).mono ?_
  rintro e w1' ⟨rfl, rfl⟩
  rcases hk with hk | hk
  · have hk0 : ((K : Int) < 1) := by omega
    go_wp2_with (fail)
    refine bodyPost_ret (v := .tuple #[.agg #[.int .i64 0, .slice none 0 0, .int .i64 0, .int .i64 0, .int .i64 0], .int .i64 3]) (by simp [results, Try.results77, go_sem, d0, d1, d2, d3, d4]) rfl (HS1.out.ends ⟨0, none, 0, 0, 0, 0, 0⟩ 3 _ HR.out (fun h => by cases h))
  · have hk0 : ¬ ((K : Int) < 1) := by omega
    have hk4 : ((4 : Int) < (K : Int)) := by omega
    go_wp2_with (fail)
    refine bodyPost_ret (v := .tuple #[.agg #[.int .i64 0, .slice none 0 0, .int .i64 0, .int .i64 0, .int .i64 0], .int .i64 3]) (by simp [results, Try.results77, go_sem, d0, d1, d2, d3, d4]) rfl (HS1.out.ends ⟨0, none, 0, 0, 0, 0, 0⟩ 3 _ HR.out (fun h => by cases h))

set_option maxRecDepth 100000 in
set_option maxHeartbeats 4000000 in
theorem event_t (f : Bool) (r : Nat) (s : RS) (w : World) (h : Rdr w r s) (hA : ∀ a, s.gA = some a → a.block < w.heap.size) (hyp : ¬ ((getR f s 1).2.err = 0 ∧ ((getR f s 1).1 < 1 ∨ 4 < (getR f s 1).1)) ∧ ((getR f s 1).1 = 1 ∨ (getR f s 1).1 = 2)) : Calls Try.prog 77 #[.agg #[.bool f], .pointer (some ⟨r, 0, none⟩)] w (EvQ w r (evR f s)) := by
  have HYP := Lib.hid hyp; clear hyp
  obtain ⟨R, eR⟩ : ∃ R, R = evR f s := ⟨_, rfl⟩
  rw [← eR]
  have ER := Lib.hid eR; clear eR
  obtain ⟨wa, ewa⟩ : ∃ wa, wa = (w.alloc (.cells #[.bool f] 111)).alloc (.cells #[.int .i64 0, .slice none 0 0, .int .i64 0, .int .i64 0, .int .i64 0] 36) := ⟨_, rfl⟩
  obtain ⟨g2, eg2⟩ : ∃ g2, g2 = w.heap.size := ⟨_, rfl⟩
  obtain ⟨g4, eg4⟩ : ∃ g4, g4 = g2 + 1 := ⟨_, rfl⟩
  have hs : EvS w r g2 g4 f s wa := by
    have hb : Below w.heap.size w wa := by rw [ewa]; exact ((Below.refl _ _).alloc (Nat.le_refl _) _).alloc (by simp) _
    have hl := h.lt
    refine ⟨h.below hb, ?_, ?_, ?_, ?_, ?_⟩
    · rw [ewa, eg2]; exact heap2_old w _ _
    · rw [ewa, eg4, eg2]; exact heap2_new w _ _
    · rw [ewa]; exact ((Keeps.refl _ w).alloc _).alloc _
    · omega
    · rw [eg2]; exact hA
  have HS := Lib.hid hs
  have EWA := Lib.hid ewa
  have EG2 := Lib.hid eg2
  have EG4 := Lib.hid eg4
  clear hs ewa eg2 eg4 h hA
  have hku := getR_u64 f s 1
  have hkz := getR_zero (f := f) (s := s) (z := 1)
  have hkg := (getR_b f s 1).2
  obtain ⟨K, s1, eA⟩ : ∃ K s1, getR f s 1 = (K, s1) := ⟨_, _, rfl⟩
  rw [eA] at hku hkz hkg
  have hku : U64 K := hku
  have HKZ : Hid (s1.err ≠ 0 → K = 0) := Lib.hid hkz
  have HKG : Hid (s1.gA = s.gA) := Lib.hid hkg
  have EA := Lib.hid eA
  clear hkz eA hkg
  go_enter Try.func77, Try.ntmps77
  go_wp2_with (fail)
  rw [← EWA.out, ← EG2.out, ← EG4.out]
  refine (get_e f r s s1 1 K wa HS.out.rd (by decide) EA.out).mono ?_
  rintro e w1 ⟨rfl, hr1, hk1⟩
  have HS1 := Lib.hid (HS.out.step hr1 hk1 HKG.out)
  clear hr1 hk1 HS EWA EG2 EG4
  have hlow := HS1.out.lo
  have c2 := HS1.out.c2
  obtain ⟨⟨d0, d1, d2, d3, d4⟩, y0, y1, y2, y3, y4⟩ := five_cells HS1.out.b4
  have hyp := HYP.out
  rw [EA.out] at hyp
  obtain ⟨hP, h12⟩ : ¬ (s1.err = 0 ∧ (K < 1 ∨ 4 < K)) ∧ (K = 1 ∨ K = 2) := hyp
  have hK : (s1.err = 0 ∧ 1 ≤ K ∧ K ≤ 4) ∨ (s1.err ≠ 0 ∧ K = 0) := by
    by_cases he : s1.err = 0
    · left; have : ¬ (K < 1 ∨ 4 < K) := fun h => hP ⟨he, h⟩; exact ⟨he, by omega⟩
    · right; exact ⟨he, HKZ.out he⟩
  have HK := Lib.hid hK
  clear hP
  go_upto_region 2 with (fail)
  go_cut [26] (fun s26 wx => s26 = .bool false ∧ w1 = wx)
  case first =>
    go_wp2_with (fail)
    obtain ⟨E, eE⟩ : ∃ E, E = s1.err := ⟨_, rfl⟩
    rw [← eE] at hK
    refine (Rerr_e r s1 E w1 HS1.out.rd eE.symm).mono ?_
    clear eE
    rintro e w1' ⟨rfl, rfl⟩
    rcases hK with ⟨rfl, k1, k4⟩ | ⟨hE, rfl⟩
    · have j1 : decide ((K : Int) < 1) = false := decide_eq_false (by omega)
      have j4 : decide ((4 : Int) < (K : Int)) = false := decide_eq_false (by omega)
      clear k1 k4
      go_wp2_with (fail)
      go_meet
      exact ⟨rfl, rfl⟩
    · have e0 : ((E : Int) == 0) = false := by rw [beq_eq_false_iff_ne]; omega
      clear hE
      go_wp2_with (fail)
      go_meet
      exact ⟨rfl, rfl⟩
  case rest =>
    obtain ⟨rfl, rfl⟩ := hcut
    clear hK
    have hK4 : K ≤ 4 := by have := HK.out; omega
    have wK := i64_w (n := K) (by unfold U63; omega)
    obtain ⟨w2, ew2⟩ : ∃ w2, w2 = w1.alloc (.cells #[.int .i64 (K : Int), .slice none 0 0, .int .i64 0, .int .i64 0, .int .i64 0] 36) := ⟨_, rfl⟩
    obtain ⟨g7, eg7⟩ : ∃ g7, g7 = w1.heap.size := ⟨_, rfl⟩
    have hB2 : EvB w r g2 g4 g7 f s1 (.int .i64 (K : Int)) (.slice none 0 0) (.int .i64 0) (.int .i64 0) (.int .i64 0) w2 := by
      refine ⟨HS1.out.step ?_ ?_ rfl, ?_, ?_⟩
      · rw [ew2]; exact HS1.out.rd.below ((Below.refl _ _).alloc (Nat.le_refl _) _)
      · rw [ew2]; exact (Keeps.refl _ w1).alloc _
      · rw [ew2, eg7]; exact heap_alloc_new w1 _
      · rw [eg7]; exact heap_lt HS1.out.b4
    have HB2 := Lib.hid hB2
    have EW2 := Lib.hid ew2
    have EG7 := Lib.hid eg7
    clear ew2 eg7 hB2 c2 d0 d1 d2 d3 d4 y0 y1 y2 y3 y4
    go_wp2_with (fail)
    rw [← EW2.out, ← EG7.out]
    refine (most_c (K : Int) w2).mono ?_
    rintro e w2' ⟨rfl, rfl⟩
    clear EW2 EG7 HS1
    have hMI : mostI (K : Int) = (mostN K : Int) := by
      rcases h12 with rfl | rfl <;> rfl
    rw [hMI]
    clear hMI
    have hM64 : mostN K ≤ 64 := by unfold mostN; split <;> omega
    obtain ⟨M, eM⟩ : ∃ M, M = mostN K := ⟨_, rfl⟩
    rw [← eM] at hM64 ⊢
    have EM := Lib.hid eM; clear eM
    have he1 : Hid (s1.err = 0) := Lib.hid (by have := HK.out; omega)
    have hRt : Hid (R = (let b := getR f s1 1
        if b.2.err ≠ 0 then (b.2.err, ev0, b.2) else if mostN K < b.1 then (3, ev0, b.2)
        else if (takeR b.2 b.1).2.err ≠ 0 then ((takeR b.2 b.1).2.err, ev0, (takeR b.2 b.1).2)
        else if Ev.may ⟨K, (takeR b.2 b.1).1, 0, 0, 0⟩ = false then (3, ev0, (takeR b.2 b.1).2)
        else (0, ⟨K, (takeR b.2 b.1).1, 0, 0, 0⟩, (takeR b.2 b.1).2))) := Lib.hid (by
      rw [ER.out, evR, EA.out, if_neg (by simpa using he1.out), if_neg (by simp only; omega), if_pos (by simp only; omega)])
    obtain ⟨N, s2, eB⟩ : ∃ N s2, getR f s1 1 = (N, s2) := ⟨_, _, rfl⟩
    have hNu : U64 N := getR_lt eB
    have hga2 := getR_ga eB
    have hNz : Hid (s2.err ≠ 0 → N = 0) := Lib.hid (by have := getR_zero (f := f) (s := s1) (z := 1); rw [eB] at this; exact this)
    have EB := Lib.hid eB; clear eB
    have HG2 := Lib.hid hga2; clear hga2
    have c2 := HB2.out.es.c2
    have m0 : (0 : Int) ≤ (M : Int) := by omega
    have wM := u64_wrapN (n := M) (by unfold U64; omega)
    go_wp2_with (fail)
    refine (get_e f r s1 s2 1 N w2 HB2.out.es.rd (by decide) EB.out).mono ?_
    rintro e w3 ⟨rfl, hr3, hk3⟩
    have HB3 := Lib.hid (HB2.out.step hr3 hk3 HG2.out)
    clear hr3 hk3 HB2 c2
    obtain ⟨⟨d0, d1, d2, d3, d4⟩, y0, y1, y2, y3, y4⟩ := five_cells HB3.out.es.b4
    obtain ⟨E2, eE2⟩ : ∃ E2, E2 = s2.err := ⟨_, rfl⟩
    have HE2 := Lib.hid eE2
    by_cases hlong : E2 = 0 ∧ M < N
    · obtain ⟨rfl, hlong⟩ := hlong
      have hR : R = (3, ev0, s2) := by rw [hRt.out]; simp only [EB.out]; rw [if_neg (by rw [← HE2.out]; simp), if_pos (by rw [← EM.out]; exact hlong)]
      have HR := Lib.hid hR; clear hR eE2
      have l1 : decide ((M : Int) < (N : Int)) = true := decide_eq_true (by omega)
      have l2 : decide (M < N) = true := decide_eq_true hlong
      clear hlong
      go_wp2_with (fail)
      refine (Rerr_e r s2 0 w3 HB3.out.es.rd HE2.out.symm).mono ?_
      rintro e w3' ⟨rfl, rfl⟩
      go_wp2_with (fail)
      refine bodyPost_ret (v := .tuple #[.agg #[.int .i64 0, .slice none 0 0, .int .i64 0, .int .i64 0, .int .i64 0], .int .i64 3]) (by simp [results, Try.results77, go_sem, d0, d1, d2, d3, d4]) rfl (HB3.out.es.ends ⟨0, none, 0, 0, 0, 0, 0⟩ 3 _ HR.out (fun h => by cases h))
    · have hN64 : N ≤ 64 := by
        by_cases hh : E2 = 0
        · have : ¬ M < N := fun h => hlong ⟨hh, h⟩
          omega
        · have := hNz.out (by rw [← eE2]; exact hh); omega
      have hN := Lib.hid hlong
      clear eE2 hNu hlong
      have wN := i64_w (n := N) (by unfold U63; omega)
      obtain ⟨t, s4, eT⟩ : ∃ t s4, takeR s2 (N : Int) = (t, s4) := ⟨_, _, rfl⟩
      have hga4 : s4.gA = s2.gA := by have := (takeR_b s2 (N : Int)).2; rw [eT] at this; exact this
      have htl : t.length ≤ N := by
        have : (takeR s2 (N : Int)).1.length ≤ N := by
          unfold takeR
          split
          · exact Nat.zero_le _
          · split
            · exact Nat.zero_le _
            · split
              · exact Nat.zero_le _
              · show (List.take _ _).length ≤ N
                rw [List.length_take]; omega
        rw [eT] at this; exact this
      have ET := Lib.hid eT; clear eT
      have HG4 := Lib.hid hga4; clear hga4
      have tk := Rtake_c r s2 (N : Int) w3 HB3.out.es.rd (by simp [Lit.wf, IntKind.min, IntKind.max, IntKind.signed, IntKind.bits]; omega)
      rw [ET.out] at tk
      have TK := Lib.hid tk; clear tk
      obtain ⟨⟨x0, x1, x2, x3, x4⟩, z0, z1, z2, z3, z4⟩ := five_cells HB3.out.b7
      go_upto_region 8 with (fail)
      go_cut [47] (fun s47 wx => s47 = .bool false ∧ w3 = wx)
      case first =>
        go_wp2_with (fail)
        refine (Rerr_e r s2 E2 w3 HB3.out.es.rd HE2.out.symm).mono ?_
        rintro e w3' ⟨rfl, rfl⟩
        by_cases hh : E2 = 0
        · subst hh
          have l1 : decide ((M : Int) < (N : Int)) = false := decide_eq_false (by have := hN.out; omega)
          have l2 : decide (M < N) = false := decide_eq_false (by have := hN.out; omega)
          go_wp2_with (fail)
          go_meet
          exact ⟨rfl, rfl⟩
        · have e0 : ((E2 : Int) == 0) = false := by rw [beq_eq_false_iff_ne]; omega
          clear hh
          go_wp2_with (fail)
          go_meet
          exact ⟨rfl, rfl⟩
      case rest =>
        obtain ⟨rfl, rfl⟩ := hcut
        go_wp2_with (fail)
        refine TK.out.mono ?_
        rintro e w4 ⟨v4, rfl, ho4, hr4, hg4⟩
        obtain ⟨A4, c4, ev4, f1, f2, -, -⟩ := OwnB.form ho4
        obtain ⟨n4, en4⟩ : ∃ n4, n4 = t.length := ⟨_, rfl⟩
        replace ev4 : v4 = .slice A4 n4 c4 := by rw [en4]; exact ev4
        subst ev4
        have hk4 := Keeps.of_grown hg4 (fun j => j = r) (fun j hj => by injection hj with hj; exact hj.symm)
        obtain ⟨hB5, hT5⟩ := HB3.out.took (s' := s4) hr4 hk4 HG4.out ho4 en4.symm (by rw [en4]; omega)
        obtain ⟨⟨-, q1, -⟩, -, p1, -⟩ := five_cells (HB3.out.step (s' := s4) hr4 hk4 HG4.out).b7
        obtain ⟨w5, ew5⟩ : ∃ w5, w5 = w4.setCell ⟨g7, 1, none⟩ (.slice A4 n4 c4) := ⟨_, rfl⟩
        rw [← ew5] at hB5 hT5
        have HB5 := Lib.hid hB5
        have HT5 := Lib.hid hT5
        have EW5 := Lib.hid ew5
        have EN4 := Lib.hid en4
        clear hB5 hT5 ew5 en4 ho4 hr4 hg4 hk4 f1 f2 x0 x1 x2 x3 x4 z0 z1 z2 z3 z4 TK HB3 d0 d1 d2 d3 d4 y0 y1 y2 y3 y4 wN
        go_wp2_with (fail)
        rw [← EW5.out]
        clear q1 p1 EW5
        obtain ⟨E4, eE4⟩ : ∃ E4, E4 = s4.err := ⟨_, rfl⟩
        have HE4 := Lib.hid eE4; clear eE4
        have hb2 : Hid (s2.err = 0 → ¬ mostN K < N) := Lib.hid (fun h => by have := hN.out; rw [← EM.out]; intro h2; exact this ⟨by rw [HE2.out]; exact h, h2⟩)
        refine (Rerr_e r s4 E4 w5 HB5.out.es.rd HE4.out.symm).mono ?_
        rintro e w5' ⟨rfl, rfl⟩
        obtain ⟨⟨d0, d1, d2, d3, d4⟩, y0, y1, y2, y3, y4⟩ := five_cells HB5.out.es.b4
        obtain ⟨⟨x0, x1, x2, x3, x4⟩, z0, z1, z2, z3, z4⟩ := five_cells HB5.out.b7
        by_cases h4 : E4 = 0
        · subst h4
          have hR4 : Hid (R = if Ev.may ⟨K, t, 0, 0, 0⟩ = false then (3, ev0, s4) else (0, ⟨K, t, 0, 0, 0⟩, s4)) := Lib.hid (by
            have h2 : s2.err = 0 := by
              by_cases hh : s2.err = 0
              · exact hh
              · have := takeR_err (s := s2) (N : Int) hh
                rw [ET.out] at this
                injection this with _ e2
                have := HE4.out
                rw [e2] at this
                exact this.symm
            rw [hRt.out]
            simp only [EB.out, ET.out]
            rw [if_neg (by simpa using h2), if_neg (hb2.out h2), if_neg (by rw [← HE4.out]; simp)])
          have hmay : Ev.may ⟨(K : Int), t, 0, 0, 0⟩ = mayB (K : Int) 0 0 0 n4 := by rw [Ev.may, EN4.out]
          obtain ⟨M4, eM4⟩ : ∃ M4, M4 = mayB (K : Int) 0 0 0 n4 := ⟨_, rfl⟩
          rw [← eM4] at hmay
          have HM := Lib.hid hmay; clear hmay
          go_wp2_with (fail)
          refine (May_c (K : Int) 0 0 0 A4 n4 c4 w5).mono ?_
          rintro e w6 ⟨rfl, hb6⟩
          rw [← eM4]
          have HB6 := Lib.hid (HB5.out.below hb6)
          have HT6 := Lib.hid (HT5.out.frame (w' := w6) (fun j _ hj => hb6.block j hj))
          clear hb6 eM4 HB5 HT5 d0 d1 d2 d3 d4 y0 y1 y2 y3 y4 x0 x1 x2 x3 x4 z0 z1 z2 z3 z4
          obtain ⟨⟨d0, d1, d2, d3, d4⟩, y0, y1, y2, y3, y4⟩ := five_cells HB6.out.es.b4
          obtain ⟨⟨x0, x1, x2, x3, x4⟩, z0, z1, z2, z3, z4⟩ := five_cells HB6.out.b7
          cases M4 with
          | false =>
            have hR : R = (3, ev0, s4) := by rw [hR4.out, HM.out, if_pos rfl]
            have HR := Lib.hid hR; clear hR
            go_wp2_with (fail)
            refine bodyPost_ret (v := .tuple #[.agg #[.int .i64 0, .slice none 0 0, .int .i64 0, .int .i64 0, .int .i64 0], .int .i64 3]) (by simp [results, Try.results77, go_sem, d0, d1, d2, d3, d4]) rfl (HB6.out.es.ends ⟨0, none, 0, 0, 0, 0, 0⟩ 3 _ HR.out (fun h => by cases h))
          | true =>
            have hR : R = (0, ⟨K, t, 0, 0, 0⟩, s4) := by rw [hR4.out, HM.out, if_neg (by decide)]
            have HR := Lib.hid hR; clear hR
            go_wp2_with (fail)
            refine bodyPost_ret (v := .tuple #[.agg #[.int .i64 (K : Int), .slice A4 n4 c4, .int .i64 0, .int .i64 0, .int .i64 0], .int .i64 0]) (by simp [results, Try.results77, go_sem, d0, d1, d2, d3, d4]) rfl (HB6.out.es.ends ⟨(K : Int), A4, n4, c4, 0, 0, 0⟩ 0 _ HR.out (fun _ => ⟨rfl, rfl, rfl, rfl, HT6.out⟩))
        · have hR : R = (E4, ev0, s4) := by
            rw [hRt.out]
            simp only [EB.out, ET.out]
            by_cases h2 : s2.err = 0
            · rw [if_neg (by simpa using h2), if_neg (hb2.out h2), if_pos (by rw [← HE4.out]; exact h4), ← HE4.out]
            · have := takeR_err (s := s2) (N : Int) h2
              rw [ET.out] at this
              injection this with _ e2
              rw [if_pos h2, HE4.out, e2]
          have HR := Lib.hid hR; clear hR
          have e0 : ((E4 : Int) != 0) = true := by rw [bne_iff_ne]; omega
          have H4 := Lib.hid h4; clear h4
          go_wp2_with (fail)
          refine (Rerr_e r s4 E4 w5 HB5.out.es.rd HE4.out.symm).mono ?_
          rintro e w5' ⟨rfl, rfl⟩
          go_wp2_with (fail)
          refine bodyPost_ret (v := .tuple #[.agg #[.int .i64 0, .slice none 0 0, .int .i64 0, .int .i64 0, .int .i64 0], .int .i64 (E4 : Int)]) (by simp [results, Try.results77, go_sem, d0, d1, d2, d3, d4]) rfl (HB5.out.es.ends ⟨0, none, 0, 0, 0, 0, 0⟩ E4 _ HR.out (fun h => absurd h H4.out))
end Go.Proofs.Ytgnciejbhaebeaa

/- What keys.numbers.event answers: numbers. Conditions: a reader. -/
namespace Go.Proofs.Ytgnciejbhaebeaa
open Go Go.RowKit

set_option maxRecDepth 100000 in
set_option maxHeartbeats 4000000 in
theorem event_n (f : Bool) (r : Nat) (s : RS) (w : World) (h : Rdr w r s) (hA : ∀ a, s.gA = some a → a.block < w.heap.size) (hyp : ¬ ((getR f s 1).2.err = 0 ∧ ((getR f s 1).1 < 1 ∨ 4 < (getR f s 1).1)) ∧ ¬ ((getR f s 1).1 = 1 ∨ (getR f s 1).1 = 2)) : Calls Try.prog 77 #[.agg #[.bool f], .pointer (some ⟨r, 0, none⟩)] w (EvQ w r (evR f s)) := by
  have HYP := Lib.hid hyp; clear hyp
  obtain ⟨R, eR⟩ : ∃ R, R = evR f s := ⟨_, rfl⟩
  rw [← eR]
  have ER := Lib.hid eR; clear eR
  obtain ⟨wa, ewa⟩ : ∃ wa, wa = (w.alloc (.cells #[.bool f] 111)).alloc (.cells #[.int .i64 0, .slice none 0 0, .int .i64 0, .int .i64 0, .int .i64 0] 36) := ⟨_, rfl⟩
  obtain ⟨g2, eg2⟩ : ∃ g2, g2 = w.heap.size := ⟨_, rfl⟩
  obtain ⟨g4, eg4⟩ : ∃ g4, g4 = g2 + 1 := ⟨_, rfl⟩
  have hs : EvS w r g2 g4 f s wa := by
    have hb : Below w.heap.size w wa := by rw [ewa]; exact ((Below.refl _ _).alloc (Nat.le_refl _) _).alloc (by simp) _
    have hl := h.lt
    refine ⟨h.below hb, ?_, ?_, ?_, ?_, ?_⟩
    · rw [ewa, eg2]; exact heap2_old w _ _
    · rw [ewa, eg4, eg2]; exact heap2_new w _ _
    · rw [ewa]; exact ((Keeps.refl _ w).alloc _).alloc _
    · omega
    · rw [eg2]; exact hA
  have HS := Lib.hid hs
  have EWA := Lib.hid ewa
  have EG2 := Lib.hid eg2
  have EG4 := Lib.hid eg4
  clear hs ewa eg2 eg4 h hA
  have hku := getR_u64 f s 1
  have hkz := getR_zero (f := f) (s := s) (z := 1)
  have hkg := (getR_b f s 1).2
  obtain ⟨K, s1, eA⟩ : ∃ K s1, getR f s 1 = (K, s1) := ⟨_, _, rfl⟩
  rw [eA] at hku hkz hkg
  have hku : U64 K := hku
  have HKZ : Hid (s1.err ≠ 0 → K = 0) := Lib.hid hkz
  have HKG : Hid (s1.gA = s.gA) := Lib.hid hkg
  have EA := Lib.hid eA
  clear hkz eA hkg
  go_enter Try.func77, Try.ntmps77
  go_wp2_with (fail)
  rw [← EWA.out, ← EG2.out, ← EG4.out]
  refine (get_e f r s s1 1 K wa HS.out.rd (by decide) EA.out).mono ?_
  rintro e w1 ⟨rfl, hr1, hk1⟩
  have HS1 := Lib.hid (HS.out.step hr1 hk1 HKG.out)
  clear hr1 hk1 HS EWA EG2 EG4
  have hlow := HS1.out.lo
  have c2 := HS1.out.c2
  obtain ⟨⟨d0, d1, d2, d3, d4⟩, y0, y1, y2, y3, y4⟩ := five_cells HS1.out.b4
  have hyp := HYP.out
  rw [EA.out] at hyp
  obtain ⟨hP, h12'⟩ : ¬ (s1.err = 0 ∧ (K < 1 ∨ 4 < K)) ∧ ¬ (K = 1 ∨ K = 2) := hyp
  have h12 := Lib.hid h12'; clear h12'
  have hK : (s1.err = 0 ∧ 1 ≤ K ∧ K ≤ 4) ∨ (s1.err ≠ 0 ∧ K = 0) := by
    by_cases he : s1.err = 0
    · left; have : ¬ (K < 1 ∨ 4 < K) := fun h => hP ⟨he, h⟩; exact ⟨he, by omega⟩
    · right; exact ⟨he, HKZ.out he⟩
  have HK := Lib.hid hK
  clear hP
  go_upto_region 2 with (fail)
  go_cut [26] (fun s26 wx => s26 = .bool false ∧ w1 = wx)
  case first =>
    go_wp2_with (fail)
    obtain ⟨E, eE⟩ : ∃ E, E = s1.err := ⟨_, rfl⟩
    rw [← eE] at hK
    refine (Rerr_e r s1 E w1 HS1.out.rd eE.symm).mono ?_
    clear eE
    rintro e w1' ⟨rfl, rfl⟩
    rcases hK with ⟨rfl, k1, k4⟩ | ⟨hE, rfl⟩
    · have j1 : decide ((K : Int) < 1) = false := decide_eq_false (by omega)
      have j4 : decide ((4 : Int) < (K : Int)) = false := decide_eq_false (by omega)
      clear k1 k4
      go_wp2_with (fail)
      go_meet
      exact ⟨rfl, rfl⟩
    · have e0 : ((E : Int) == 0) = false := by rw [beq_eq_false_iff_ne]; omega
      clear hE
      go_wp2_with (fail)
      go_meet
      exact ⟨rfl, rfl⟩
  case rest =>
    obtain ⟨rfl, rfl⟩ := hcut
    clear hK
    have hK4 : K ≤ 4 := by have := HK.out; omega
    have wK := i64_w (n := K) (by unfold U63; omega)
    obtain ⟨w2, ew2⟩ : ∃ w2, w2 = w1.alloc (.cells #[.int .i64 (K : Int), .slice none 0 0, .int .i64 0, .int .i64 0, .int .i64 0] 36) := ⟨_, rfl⟩
    obtain ⟨g7, eg7⟩ : ∃ g7, g7 = w1.heap.size := ⟨_, rfl⟩
    have hB2 : EvB w r g2 g4 g7 f s1 (.int .i64 (K : Int)) (.slice none 0 0) (.int .i64 0) (.int .i64 0) (.int .i64 0) w2 := by
      refine ⟨HS1.out.step ?_ ?_ rfl, ?_, ?_⟩
      · rw [ew2]; exact HS1.out.rd.below ((Below.refl _ _).alloc (Nat.le_refl _) _)
      · rw [ew2]; exact (Keeps.refl _ w1).alloc _
      · rw [ew2, eg7]; exact heap_alloc_new w1 _
      · rw [eg7]; exact heap_lt HS1.out.b4
    have HB2 := Lib.hid hB2
    have EW2 := Lib.hid ew2
    have EG7 := Lib.hid eg7
    clear ew2 eg7 hB2 c2 d0 d1 d2 d3 d4 y0 y1 y2 y3 y4
    go_wp2_with (fail)
    rw [← EW2.out, ← EG7.out]
    refine (most_c (K : Int) w2).mono ?_
    rintro e w2' ⟨rfl, rfl⟩
    clear EW2 EG7 HS1
    have h12n := h12.out
    have hMI : mostI (K : Int) = -1 := by
      unfold mostI
      rw [if_neg (by omega), if_neg (by omega)]
    rw [hMI]
    clear hMI
    obtain ⟨X, s2, eX⟩ : ∃ X s2, getR f s1 1 = (X, s2) := ⟨_, _, rfl⟩
    obtain ⟨Y, s3, eY⟩ : ∃ Y s3, getR f s2 1 = (Y, s3) := ⟨_, _, rfl⟩
    obtain ⟨Z, s4, eZ⟩ : ∃ Z s4, (if K = 3 then getR f s3 1 else (0, s3)) = (Z, s4) := ⟨_, _, rfl⟩
    have hXu := getR_lt eX
    have hYu := getR_lt eY
    have hZu : U64 Z := by
      by_cases h3 : K = 3
      · rw [if_pos h3] at eZ; exact getR_lt eZ
      · rw [if_neg h3] at eZ; injection eZ with e1; rw [← e1]; unfold U64; omega
    have hg2 := getR_ga eX
    have hg3 := getR_ga eY
    have hg4 : s4.gA = s3.gA := by
      by_cases h3 : K = 3
      · rw [if_pos h3] at eZ; exact getR_ga eZ
      · rw [if_neg h3] at eZ; injection eZ with _ e2; rw [e2]
    have hRt : Hid (R = if s4.err ≠ 0 then (s4.err, ev0, s4) else if 255 < X ∨ 255 < Y ∨ 255 < Z then (3, ev0, s4) else if Ev.may ⟨K, [], X, Y, Z⟩ = false then (3, ev0, s4) else (0, ⟨K, [], X, Y, Z⟩, s4)) := Lib.hid (by
      rcases HK.out with ⟨h1, h2, h3⟩ | ⟨h1, h2⟩
      · rw [ER.out, evR, EA.out, if_neg (by simpa using h1), if_neg (by simp only; omega), if_neg (by simp only; omega)]
        simp only [eX, eY, eZ]
      · have q1 := getR_err (f := f) 1 h1
        rw [eX] at q1
        injection q1 with q1 q2
        rw [q2, getR_err (f := f) 1 h1] at eY
        injection eY with q3 q4
        rw [if_neg (by omega)] at eZ
        injection eZ with q5 q6
        rw [← q6, ← q4, if_pos h1, ER.out, evR, EA.out, if_pos h1])
    have EX := Lib.hid eX
    have EY := Lib.hid eY
    have EZ := Lib.hid eZ
    have HG2 := Lib.hid hg2
    have HG3 := Lib.hid hg3
    have HG4 := Lib.hid hg4
    clear eX eY eZ hg2 hg3 hg4
    clear h12n
    have c2 := HB2.out.es.c2
    go_upto_region 11 with (fail)
    have hrd : Hid (Rdr w2.drew r s1) := Lib.hid (HB2.out.es.rd.drewN 1)
    have hBd : Hid (EvB w r g2 g4 g7 f s1 (.int .i64 (K : Int)) (.slice none 0 0) (.int .i64 0) (.int .i64 0) (.int .i64 0) w2.drew) := Lib.hid (HB2.out.below (below_drewN (Below.refl _ _) 1))
    go_region_held3 (fun w' => w'.cell? ⟨g2, 0, none⟩ = some (.bool f)) (first | exact c2 | (with_reducible assumption)) (first
      | (go_at_call 75; (with_reducible refine (get_e f r s1 s2 1 X w2.drew hrd.out (by decide) EX.out).mono ?_); rintro _ w3 ⟨rfl, hr3, hk3⟩; have HB3 := Lib.hid (hBd.out.step hr3 hk3 HG2.out); have c3 := HB3.out.es.c2; clear hr3 hk3)
      | (go_at_call 75; (with_reducible refine (get_e f r s2 s3 1 Y w3 HB3.out.es.rd (by decide) EY.out).mono ?_); rintro _ w4 ⟨rfl, hr4, hk4⟩; have HB4 := Lib.hid (HB3.out.step hr4 hk4 HG3.out); have c4 := HB4.out.es.c2; clear hr4 hk4))
    clear HB2 hBd hrd HB3 c2 c3
    obtain ⟨⟨x0, x1, x2, x3, x4⟩, z0, z1, z2, z3, z4⟩ := five_cells HB4.out.b7
    go_upto_if 62 with (fail)
    go_cut [12] (fun s12 wx => s12 = .int .u64 (Z : Int) ∧ Hid (EvB w r g2 g4 g7 f s4 (.int .i64 (K : Int)) (.slice none 0 0) (.int .i64 0) (.int .i64 0) (.int .i64 0) wx))
    case first =>
      by_cases h3 : K = 3
      · subst h3
        have eZ3 : Hid (getR f s3 1 = (Z, s4)) := Lib.hid (by have := EZ.out; rw [if_pos rfl] at this; exact this)
        go_wp2_with (fail)
        refine (get_e f r s3 s4 1 Z w4 HB4.out.es.rd (by decide) eZ3.out).mono ?_
        rintro e w5 ⟨rfl, hr5, hk5⟩
        have HB5 := Lib.hid (HB4.out.step hr5 hk5 HG4.out)
        clear hr5 hk5
        go_wp2_with (fail)
        go_meet
        exact ⟨rfl, HB5⟩
      · have e3 : ((K : Int) == 3) = false := by rw [beq_eq_false_iff_ne]; omega
        have hz : Hid (Z = 0 ∧ s4 = s3) := Lib.hid (by have := EZ.out; rw [if_neg h3] at this; injection this with a b; exact ⟨a.symm, b.symm⟩)
        clear h3
        go_wp2_with (fail)
        go_meet
        exact ⟨by rw [hz.out.1]; rfl, by rw [hz.out.2]; exact HB4⟩
    case rest =>
      obtain ⟨rfl, HB5⟩ := hcut
      clear HB4 c4 x0 x1 x2 x3 x4 z0 z1 z2 z3 z4
      by_cases hbig : 255 < X ∨ 255 < Y ∨ 255 < Z
      · have HBG := Lib.hid hbig
        go_upto_if 70 with (refine wpList_max3 _ rfl (.tmp 66) (.tmp 67) (.tmp 68) _ rfl X Y Z rfl rfl rfl ?_; intro Mx hMx; have l1 : decide ((255 : Int) < (Mx : Int)) = true := decide_eq_true (by omega); have l2 : decide (255 < Mx) = true := decide_eq_true (by omega); clear hMx)
        clear hbig
        obtain ⟨⟨x0, x1, x2, x3, x4⟩, z0, z1, z2, z3, z4⟩ := five_cells HB5.out.b7
        obtain ⟨w6, ew6⟩ : ∃ w6, w6 = ((wc.setCell ⟨g7, 2, none⟩ (.int .i64 255)).setCell ⟨g7, 3, none⟩ (.int .i64 255)).setCell ⟨g7, 4, none⟩ (.int .i64 255) := ⟨_, rfl⟩
        have hB6 := HB5.out.set234 (x := .int .i64 255) (y := .int .i64 255) (z := .int .i64 255)
        rw [← ew6] at hB6
        have HB6 := Lib.hid hB6
        have EW6 := Lib.hid ew6
        clear hB6 ew6 HB5
        go_wp2_with (fail)
        rw [← EW6.out]
        clear x0 x1 x2 x3 x4 z0 z1 z2 z3 z4 EW6
        obtain ⟨E4, eE4⟩ : ∃ E4, E4 = s4.err := ⟨_, rfl⟩
        have HE4 := Lib.hid eE4; clear eE4
        refine (Rerr_e r s4 E4 w6 HB6.out.es.rd HE4.out.symm).mono ?_
        rintro e w6' ⟨rfl, rfl⟩
        obtain ⟨⟨d0, d1, d2, d3, d4⟩, y0, y1, y2, y3, y4⟩ := five_cells HB6.out.es.b4
        obtain ⟨⟨x0, x1, x2, x3, x4⟩, z0, z1, z2, z3, z4⟩ := five_cells HB6.out.b7
        by_cases h4 : E4 = 0
        · subst h4
          obtain ⟨M4, eM4⟩ : ∃ M4, M4 = mayB (K : Int) 255 255 255 0 := ⟨_, rfl⟩
          have HM4 := Lib.hid eM4
          go_wp2_with (fail)
          refine (May_c (K : Int) 255 255 255 none 0 0 w6).mono ?_
          rintro e w7 ⟨rfl, hb7⟩
          rw [← eM4]
          have HB7 := Lib.hid (HB6.out.below hb7)
          clear hb7 eM4 HB6 d0 d1 d2 d3 d4 y0 y1 y2 y3 y4 x0 x1 x2 x3 x4 z0 z1 z2 z3 z4
          obtain ⟨⟨d0, d1, d2, d3, d4⟩, y0, y1, y2, y3, y4⟩ := five_cells HB7.out.es.b4
          obtain ⟨⟨x0, x1, x2, x3, x4⟩, z0, z1, z2, z3, z4⟩ := five_cells HB7.out.b7
          cases M4 with
          | false =>
            have hR : R = (3, ev0, s4) := by rw [hRt.out, if_neg (by rw [← HE4.out]; simp), if_pos HBG.out]
            have HR := Lib.hid hR; clear hR
            go_wp2_with (fail)
            refine bodyPost_ret (v := .tuple #[.agg #[.int .i64 0, .slice none 0 0, .int .i64 0, .int .i64 0, .int .i64 0], .int .i64 3]) (by simp [results, Try.results77, go_sem, d0, d1, d2, d3, d4]) rfl (HB7.out.es.ends ⟨0, none, 0, 0, 0, 0, 0⟩ 3 _ HR.out (fun h => by cases h))
          | true =>
            have := HM4.out
            rw [show mayB (K : Int) 255 255 255 0 = false from decide_eq_false (by unfold mayP; have := HK.out; have := h12.out; omega)] at this
            cases this
        · have hR : R = (E4, ev0, s4) := by rw [hRt.out, if_pos (by rw [← HE4.out]; exact h4), ← HE4.out]
          have HR := Lib.hid hR; clear hR
          have e0 : ((E4 : Int) != 0) = true := by rw [bne_iff_ne]; omega
          have H4 := Lib.hid h4; clear h4
          go_wp2_with (fail)
          refine (Rerr_e r s4 E4 w6 HB6.out.es.rd HE4.out.symm).mono ?_
          rintro e w6' ⟨rfl, rfl⟩
          go_wp2_with (fail)
          refine bodyPost_ret (v := .tuple #[.agg #[.int .i64 0, .slice none 0 0, .int .i64 0, .int .i64 0, .int .i64 0], .int .i64 (E4 : Int)]) (by simp [results, Try.results77, go_sem, d0, d1, d2, d3, d4]) rfl (HB6.out.es.ends ⟨0, none, 0, 0, 0, 0, 0⟩ E4 _ HR.out (fun h => absurd h H4.out))
      · have HBG := Lib.hid hbig
        go_upto_if 70 with (refine wpList_max3 _ rfl (.tmp 66) (.tmp 67) (.tmp 68) _ rfl X Y Z rfl rfl rfl ?_; intro Mx hMx; have l1 : decide ((255 : Int) < (Mx : Int)) = false := decide_eq_false (by omega); have l2 : decide (255 < Mx) = false := decide_eq_false (by omega); clear hMx)
        have hX : X ≤ 255 ∧ Y ≤ 255 ∧ Z ≤ 255 := by omega
        clear hbig
        obtain ⟨⟨x0, x1, x2, x3, x4⟩, z0, z1, z2, z3, z4⟩ := five_cells HB5.out.b7
        have wX := i64_w (n := X) (by unfold U63; omega)
        have wY := i64_w (n := Y) (by unfold U63; omega)
        have wZ := i64_w (n := Z) (by unfold U63; omega)
        clear hX
        obtain ⟨w6, ew6⟩ : ∃ w6, w6 = ((wc.setCell ⟨g7, 2, none⟩ (.int .i64 (X : Int))).setCell ⟨g7, 3, none⟩ (.int .i64 (Y : Int))).setCell ⟨g7, 4, none⟩ (.int .i64 (Z : Int)) := ⟨_, rfl⟩
        have hB6 := HB5.out.set234 (x := .int .i64 (X : Int)) (y := .int .i64 (Y : Int)) (z := .int .i64 (Z : Int))
        rw [← ew6] at hB6
        have HB6 := Lib.hid hB6
        have EW6 := Lib.hid ew6
        clear hB6 ew6 HB5
        go_wp2_with (fail)
        rw [← EW6.out]
        clear x0 x1 x2 x3 x4 z0 z1 z2 z3 z4 EW6
        obtain ⟨E4, eE4⟩ : ∃ E4, E4 = s4.err := ⟨_, rfl⟩
        have HE4 := Lib.hid eE4; clear eE4
        refine (Rerr_e r s4 E4 w6 HB6.out.es.rd HE4.out.symm).mono ?_
        rintro e w6' ⟨rfl, rfl⟩
        obtain ⟨⟨d0, d1, d2, d3, d4⟩, y0, y1, y2, y3, y4⟩ := five_cells HB6.out.es.b4
        obtain ⟨⟨x0, x1, x2, x3, x4⟩, z0, z1, z2, z3, z4⟩ := five_cells HB6.out.b7
        by_cases h4 : E4 = 0
        · subst h4
          obtain ⟨M4, eM4⟩ : ∃ M4, M4 = mayB (K : Int) (X : Int) (Y : Int) (Z : Int) 0 := ⟨_, rfl⟩
          have HM4 := Lib.hid eM4
          go_wp2_with (fail)
          refine (May_c (K : Int) (X : Int) (Y : Int) (Z : Int) none 0 0 w6).mono ?_
          rintro e w7 ⟨rfl, hb7⟩
          rw [← eM4]
          have HB7 := Lib.hid (HB6.out.below hb7)
          clear hb7 eM4 HB6 d0 d1 d2 d3 d4 y0 y1 y2 y3 y4 x0 x1 x2 x3 x4 z0 z1 z2 z3 z4
          obtain ⟨⟨d0, d1, d2, d3, d4⟩, y0, y1, y2, y3, y4⟩ := five_cells HB7.out.es.b4
          obtain ⟨⟨x0, x1, x2, x3, x4⟩, z0, z1, z2, z3, z4⟩ := five_cells HB7.out.b7
          cases M4 with
          | false =>
            have hR : R = (3, ev0, s4) := by rw [hRt.out, if_neg (by rw [← HE4.out]; simp), if_neg HBG.out, if_pos (by rw [Ev.may]; exact HM4.out.symm)]
            have HR := Lib.hid hR; clear hR
            go_wp2_with (fail)
            refine bodyPost_ret (v := .tuple #[.agg #[.int .i64 0, .slice none 0 0, .int .i64 0, .int .i64 0, .int .i64 0], .int .i64 3]) (by simp [results, Try.results77, go_sem, d0, d1, d2, d3, d4]) rfl (HB7.out.es.ends ⟨0, none, 0, 0, 0, 0, 0⟩ 3 _ HR.out (fun h => by cases h))
          | true =>
            have hR : R = (0, ⟨K, [], X, Y, Z⟩, s4) := by rw [hRt.out, if_neg (by rw [← HE4.out]; simp), if_neg HBG.out, if_neg (by rw [Ev.may]; show ¬ mayB (K : Int) (X : Int) (Y : Int) (Z : Int) 0 = false; rw [← HM4.out]; decide)]
            have HR := Lib.hid hR; clear hR
            go_wp2_with (fail)
            refine bodyPost_ret (v := .tuple #[.agg #[.int .i64 (K : Int), .slice none 0 0, .int .i64 (X : Int), .int .i64 (Y : Int), .int .i64 (Z : Int)], .int .i64 0]) (by simp [results, Try.results77, go_sem, d0, d1, d2, d3, d4]) rfl (HB7.out.es.ends ⟨(K : Int), none, 0, 0, (X : Int), (Y : Int), (Z : Int)⟩ 0 _ HR.out (fun _ => ⟨rfl, rfl, rfl, rfl, rfl, Own.nil_ _ _ _, fun a ea => (by cases ea), Nat.zero_le _⟩))
        · have hR : R = (E4, ev0, s4) := by rw [hRt.out, if_pos (by rw [← HE4.out]; exact h4), ← HE4.out]
          have HR := Lib.hid hR; clear hR
          have e0 : ((E4 : Int) != 0) = true := by rw [bne_iff_ne]; omega
          have H4 := Lib.hid h4; clear h4
          go_wp2_with (fail)
          refine (Rerr_e r s4 E4 w6 HB6.out.es.rd HE4.out.symm).mono ?_
          rintro e w6' ⟨rfl, rfl⟩
          go_wp2_with (fail)
          refine bodyPost_ret (v := .tuple #[.agg #[.int .i64 0, .slice none 0 0, .int .i64 0, .int .i64 0, .int .i64 0], .int .i64 (E4 : Int)]) (by simp [results, Try.results77, go_sem, d0, d1, d2, d3, d4]) rfl (HB6.out.es.ends ⟨0, none, 0, 0, 0, 0, 0⟩ E4 _ HR.out (fun h => absurd h H4.out))
end Go.Proofs.Ytgnciejbhaebeaa

/- What keys.Decode answers: a batch read, or an error. Conditions: lengths that fit. -/
namespace Go.Proofs.Ytgnciejbhaebeaa
open Go Go.RowKit

theorem event_c (f : Bool) (r : Nat) (s : RS) (w : World) (h : Rdr w r s) (hA : ∀ a, s.gA = some a → a.block < w.heap.size) : Calls Try.prog 77 #[.agg #[.bool f], .pointer (some ⟨r, 0, none⟩)] w (EvQ w r (evR f s)) := by
  by_cases hP : (getR f s 1).2.err = 0 ∧ ((getR f s 1).1 < 1 ∨ 4 < (getR f s 1).1)
  · exact event_p f r s w h hA hP
  · by_cases h12 : (getR f s 1).1 = 1 ∨ (getR f s 1).1 = 2
    · exact event_t f r s w h hA ⟨hP, h12⟩
    · exact event_n f r s w h hA ⟨hP, h12⟩
theorem evR_ga {f : Bool} {s : RS} : (evR f s).2.2.gA = s.gA := by
  have h := evR_g f s none
  have h2 : s = s.at s.gA := rfl
  have h3 := evR_g f s s.gA
  rw [← h2] at h3
  have := congrArg (fun p => p.2.2.gA) h3
  exact this
theorem evR_e {f : Bool} {s s' : RS} {er : Nat} {e : Ev} (h : evR f s = (er, e, s')) : s'.gA = s.gA := by
  have := evR_ga (f := f) (s := s)
  rw [h] at this
  exact this
theorem event_e (f : Bool) (r : Nat) (s s' : RS) (er : Nat) (ev : Ev) (w : World) (h : Rdr w r s) (hA : ∀ a, s.gA = some a → a.block < w.heap.size) (e : evR f s = (er, ev, s')) :
    Calls Try.prog 77 #[.agg #[.bool f], .pointer (some ⟨r, 0, none⟩)] w (EvQ w r (er, ev, s')) := by
  have := event_c f r s w h hA
  rw [e] at this
  exact this
theorem goR_succ {f : Bool} {n : Nat} {s s' : RS} {acc : List Ev} {er : Nat} {e : Ev} (h : evR f s = (er, e, s')) : goR f (n + 1) s acc = if er ≠ 0 then (er, [], s') else goR f n s' (acc ++ [e]) := by
  rw [goR, h]
theorem TxtO.ne_row {ok : Nat → Prop} {w : World} {A : Option Addr} {n c B k : Nat} {bs : List UInt8} {v : Value} {vs : List Value} (ht : TxtO ok w A n c bs) (hrow : w.ownsRow B 36 5 v k vs) (a : Addr) (hA : A = some a) : v.ownBlock ≠ some a.block := by
  intro e
  have h2 := ht.2.1
  unfold OwnB Own at h2
  rw [List.length_map, ht.1, hA] at h2
  rcases h2.2 with ⟨hv, _⟩ | ⟨g', _, cur, hv, _, hg, _⟩
  · cases hv
  · injection hv with hv _ _
    injection hv with hv
    subst hv
    rcases hrow.2 with ⟨hv, _⟩ | ⟨g1, cap, cur1, hv, _, hg1, _⟩
    · rw [hv] at e; cases e
    · rw [hv] at e
      injection e with e
      have e' : g1 = g' := e
      subst e'
      rw [hg] at hg1
      injection hg1 with hg1
      injection hg1 with _ h6
      exact absurd h6 (by decide)
/-- One more event stands behind. -/
theorem EvsO.more {ok : Nat → Prop} {w w' : World} {v v' : Value} {ds : List EvV} {es : List Ev} {d : EvV} {e : Ev} (h : EvsO ok w v ds es) (hd : EvO ok w d e) (ho : OwnV w' 0 v' (ds ++ [d])) (hg : w.grownBy w' v.ownBlock) (hv : v'.ownBlock = v.ownBlock ∨ v'.ownBlock = some w.heap.size) (hok : ok w.heap.size) :
    EvsO ok w' v' (ds ++ [d]) (es ++ [e]) := by
  have hl := h.len
  have txt : ∀ (d : EvV) (e : Ev), EvO ok w d e → EvO ok w' d e := by
    intro d e hd
    obtain ⟨q0, q1, q2, q3, t1, t2, t3, t4⟩ := hd
    refine ⟨q0, q1, q2, q3, t1, Own.frameK t2 (fun g eg => ?_), t3, t4⟩
    cases hA : d.A with
    | none => rw [hA] at eg; cases eg
    | some a =>
      rw [hA] at eg
      injection eg with eg
      subst eg
      have hlt : a.block < w.heap.size := (TxtO.lt ⟨t1, t2, t3, t4⟩) a hA
      exact hg.block _ hlt (fun e' => TxtO.ne_row ⟨t1, t2, t3, t4⟩ h.row a hA e'.symm)
  refine ⟨by simp [hl], ho, fun k ek => ?_, fun i h1 h2 => ?_⟩
  · rcases hv with hv | hv
    · rw [hv] at ek; exact h.ok_ k ek
    · rw [hv] at ek; injection ek with ek; rw [← ek]; exact hok
  · rcases Nat.lt_or_ge i ds.length with hi | hi
    · rw [List.getElem_append_left hi, List.getElem_append_left (by omega)]
      exact txt _ _ (h.each i hi (by omega))
    · simp only [List.length_append, List.length_cons, List.length_nil] at h1
      obtain rfl : i = ds.length := by omega
      have e1 : (ds ++ [d])[ds.length] = d := by simp
      have e2 : (es ++ [e])[ds.length] = e := by simp [hl]
      rw [e1, e2]
      exact txt d e hd
/-- The blocks of what Decode answers. -/
def DOk (w0 : World) (r g7 : Nat) (gA : Option Addr) (j : Nat) : Prop := w0.heap.size ≤ j ∧ j ≠ r ∧ j ≠ g7 ∧ ∀ a, gA = some a → j ≠ a.block
/-- The state of Decode's loop: the reader, the version's box, the events so far. -/
structure DeS (w0 : World) (r g7 : Nat) (gA : Option Addr) (f : Bool) (s : RS) (v : Value) (acc : List Ev) (w : World) : Prop where
  rd : Rdr w r s
  b7 : w.heap[g7]? = some (.cells #[.bool f] 111 (0, 0))
  ev : ∃ ds, EvsO (DOk w0 r g7 gA) w v ds acc
  bel : Below w0.heap.size w0 w
  lo : w0.heap.size ≤ g7 ∧ g7 < r
  ga : s.gA = gA
  gl : ∀ a, gA = some a → a.block < w.heap.size ∧ w0.heap.size ≤ a.block
section
variable {w0 w w' : World} {r g7 : Nat} {gA : Option Addr} {f : Bool} {s s' : RS} {v : Value} {acc : List Ev}
theorem DeS.c7 (h : DeS w0 r g7 gA f s v acc w) : w.cell? ⟨g7, 0, none⟩ = some (.bool f) := by rw [heap_cell h.b7]; rfl
theorem DeS.step (h : DeS w0 r g7 gA f s v acc w) (hr : Rdr w' r s') (hk : Keeps (fun j => j = r) w w') (hg : s'.gA = s.gA) : DeS w0 r g7 gA f s' v acc w' := by
  obtain ⟨ds, he⟩ := h.ev
  have hl := h.lo
  exact ⟨hr, (hk.block g7 (heap_lt h.b7) (by omega)).trans h.b7, ⟨ds, he.frame (fun k h1 h2 => hk.block k h2 h1.2.1)⟩, h.bel.trans (hk.below (fun j hj => ⟨Nat.lt_of_lt_of_le hj h.bel.size, by omega⟩)), h.lo, hg.trans h.ga, fun a ha => ⟨Nat.lt_of_lt_of_le (h.gl a ha).1 hk.size, (h.gl a ha).2⟩⟩
theorem DeS.below (h : DeS w0 r g7 gA f s v acc w) (hb : Below w.heap.size w w') : DeS w0 r g7 gA f s v acc w' := h.step (h.rd.below hb) (Keeps.of_below hb _ (fun _ hk _ => hk)) rfl
theorem DeS.fresh (h : DeS w0 r g7 gA f s v acc w) {j : Nat} (hj : w.heap.size ≤ j) : DOk w0 r g7 gA j := by
  have h1 := h.bel.size
  have h2 := h.rd.lt
  have h3 := heap_lt h.b7
  exact ⟨by omega, by omega, by omega, fun a ha => by have := h.gl a ha; omega⟩
theorem DeS.more (h : DeS w0 r g7 gA f s v acc w) {ds : List EvV} {d : EvV} {e : Ev} {v' : Value} (hds : EvsO (DOk w0 r g7 gA) w v ds acc) (hd : EvO (DOk w0 r g7 gA) w d e) (ho : OwnV w' 0 v' (ds ++ [d])) (hg : w.grownBy w' v.ownBlock) (hv : v'.ownBlock = v.ownBlock ∨ v'.ownBlock = some w.heap.size) :
    DeS w0 r g7 gA f s v' (acc ++ [e]) w' := by
  have hk : Keeps (fun j => v.ownBlock = some j) w w' := Keeps.of_grown hg _ (fun j hj => hj)
  have hl := h.lo
  refine ⟨h.rd.keeps hk (fun e' => (hds.ok_ r e').2.1 rfl) (fun a ha _ e' => (hds.ok_ _ e').2.2.2 a (by rw [← h.ga]; exact ha) rfl), (hk.block g7 (heap_lt h.b7) (fun e' => (hds.ok_ g7 e').2.2.1 rfl)).trans h.b7,
    ⟨_, hds.more hd ho hg hv (h.fresh (Nat.le_refl _))⟩, h.bel.trans (hk.below (fun j hj => ⟨Nat.lt_of_lt_of_le hj h.bel.size, fun e' => by have := (hds.ok_ j e').1; omega⟩)), h.lo, h.ga, fun a ha => ⟨Nat.lt_of_lt_of_le (h.gl a ha).1 hk.size, (h.gl a ha).2⟩⟩
end
end Go.Proofs.Ytgnciejbhaebeaa

/- What keys.Decode answers: a batch read, or an error. Conditions: lengths that fit. -/
namespace Go.Proofs.Ytgnciejbhaebeaa
open Go Go.RowKit

theorem decR_eq {ver : Int} {bs : List UInt8} {gA : Option Addr} {f : Bool} {B C : Nat} {s1 s2 : RS} (h1 : 1 ≤ ver) (h3 : ver ≤ 3) (hf : f = decide (ver = 1)) (e1 : getR f ⟨bs, 0, 0, gA⟩ 8 = (B, s1)) (e2 : getR f s1 1 = (C, s2)) :
    decR ver bs gA = if s2.err ≠ 0 then (0, [], s2.err) else if C = 0 ∨ 16 < C then (0, [], 3) else if (goR f C s2 []).1 ≠ 0 then (0, [], (goR f C s2 []).1)
      else if (goR f C s2 []).2.2.at_ < (goR f C s2 []).2.2.b.length then (0, [], 6) else (B, (goR f C s2 []).2.1, 0) := by
  rw [decR, if_neg (by omega)]
  subst hf
  simp only [e1, e2]
theorem EvO.to_d {w0 w w' : World} {r g7 : Nat} {gA : Option Addr} {f : Bool} {s : RS} {v : Value} {acc : List Ev} {d : EvV} {e : Ev} (h : DeS w0 r g7 gA f s v acc w) (he : EvO (w.heap.size ≤ ·) w' d e) : EvO (DOk w0 r g7 gA) w' d e :=
  he.weak (fun k hk _ => h.fresh hk)

set_option maxRecDepth 100000 in
set_option maxHeartbeats 4000000 in
theorem Decode_c (ver : Int) (A : Option Addr) (n c : Nat) (bs : List UInt8) (w : World) (hn : bs.length = n) (hr : Rd w A (bs.map bv)) (hl : n ≤ 140737488355328) (N er : Nat) (l : List Ev) (eR : decR ver bs none = (N, l, er)) :
    Calls Try.prog 56 #[.int .i64 ver, .slice A n c] w fun r w' => ∃ v, r = .returned (.tuple #[.int .u64 (N : Int), v, .int .i64 (er : Int)]) ∧ Evs (w.heap.size ≤ ·) w' v l ∧ Below w.heap.size w w' := by
  have HN := Lib.hid hn; clear hn
  have HR := Lib.hid hr; clear hr
  have ER := Lib.hid eR; clear eR
  have nl : ∀ w', Evs (w.heap.size ≤ ·) w' (.slice none 0 0) [] := fun w' => ⟨[], rfl, World.ownsRow_nil _ _ _ _, fun k e => (by cases e), fun i h => absurd h (by simp)⟩
  have NL := Lib.hid nl; clear nl
  rcases Int.lt_or_le ver 1 with v1 | v1
  · have hR : decR ver bs none = (0, [], 1) := by rw [decR, if_pos (.inl v1)]
    rw [ER.out] at hR
    injection hR with r1 r2
    injection r2 with r2 r3
    subst r1 r2 r3
    go_enter Try.func56, Try.ntmps56
    go_wp2_with (fail)
    go_ret3
    exact ⟨_, rfl, NL.out _, Below.refl _ _⟩
  rcases Int.lt_or_le 3 ver with v3 | v3
  · have hR : decR ver bs none = (0, [], 1) := by rw [decR, if_pos (.inr v3)]
    rw [ER.out] at hR
    injection hR with r1 r2
    injection r2 with r2 r3
    subst r1 r2 r3
    go_enter Try.func56, Try.ntmps56
    go_wp2_with (fail)
    go_ret3
    exact ⟨_, rfl, NL.out _, Below.refl _ _⟩
  have d1 : decide (ver < 1) = false := decide_eq_false (by omega)
  have d2 : decide (3 < ver) = false := decide_eq_false (by omega)
  obtain ⟨f, ef⟩ : ∃ f, f = decide (ver = 1) := ⟨_, rfl⟩
  have efv : (ver == 1) = f := by rw [ef]; rfl
  have EF := Lib.hid ef; clear ef
  obtain ⟨w2, ew2⟩ : ∃ w2, w2 = w.alloc (.cells #[.bool f] 111) := ⟨_, rfl⟩
  obtain ⟨g7, eg7⟩ : ∃ g7, g7 = w.heap.size := ⟨_, rfl⟩
  have b2 : w2.heap[g7]? = some (.cells #[.bool f] 111 (0, 0)) := by rw [ew2, eg7]; exact heap_alloc_new w _
  have k2 : Below w.heap.size w w2 := by rw [ew2]; exact (Below.refl _ _).alloc (Nat.le_refl _) _
  have B2 := Lib.hid b2
  have K2 := Lib.hid k2
  have EW2 := Lib.hid ew2
  have EG7 := Lib.hid eg7
  clear b2 k2 ew2 eg7
  go_enter Try.func56, Try.ntmps56
  go_wp2_with (fail)
  rw [← EW2.out, ← EG7.out]
  refine (Rnew_c A n c bs w2 HN.out (HR.out.below K2.out) hl).mono ?_
  rintro e w3 ⟨r, gA, rfl, hr3, hrd3, hb3, hga3⟩
  have hD3 : DeS w r g7 gA f ⟨bs, 0, 0, gA⟩ (.slice none 0 0) [] w3 := by
    have h2 := heap_lt B2.out
    have h1 := K2.out.size
    have hg := EG7.out
    exact ⟨hrd3, (hb3.block g7 h2).trans B2.out, ⟨[], rfl, World.ownsRow_nil _ _ _ _, fun k e => (by cases e), fun i h => absurd h (by simp)⟩, K2.out.trans (hb3.mono h1), ⟨by omega, by omega⟩, rfl, fun a ha => ⟨(hga3 a ha).2, by have := (hga3 a ha).1; omega⟩⟩
  have HD3 := Lib.hid hD3
  clear hr3 hrd3 hb3 hga3 hD3 B2 K2 EW2 EG7 HR d1 d2
  obtain ⟨B, s1, eB⟩ : ∃ B s1, getR f ⟨bs, 0, 0, gA⟩ 8 = (B, s1) := ⟨_, _, rfl⟩
  obtain ⟨C, s2, eC⟩ : ∃ C s2, getR f s1 1 = (C, s2) := ⟨_, _, rfl⟩
  have hq := decR_eq (gA := gA) v1 v3 EF.out eB eC
  rw [decR_g ver bs gA none, ER.out] at hq
  have HQ := Lib.hid hq
  have EB := Lib.hid eB
  have EC := Lib.hid eC
  have hBu := getR_lt eB
  have hCu := getR_lt eC
  have HG1 := Lib.hid (getR_ga eB)
  have HG2 := Lib.hid (getR_ga eC)
  clear eB eC hq
  have c7 := HD3.out.c7
  have hDd : Hid (DeS w r g7 gA f ⟨bs, 0, 0, gA⟩ (.slice none 0 0) [] w3.drew) := Lib.hid (HD3.out.below (below_drewN (Below.refl _ _) 1))
  go_upto_region 5 with (fail)
  go_region_held3 (fun w' => w'.cell? ⟨g7, 0, none⟩ = some (.bool f)) (first | exact c7 | (with_reducible assumption)) (first
    | (go_at_call 75; (with_reducible refine (get_e f r ⟨bs, 0, 0, gA⟩ s1 8 B w3.drew hDd.out.rd (by decide) EB.out).mono ?_); rintro _ w4 ⟨rfl, hr4, hk4⟩; have HD4 := Lib.hid (hDd.out.step hr4 hk4 HG1.out); have c4 := HD4.out.c7; clear hr4 hk4)
    | (go_at_call 75; (with_reducible refine (get_e f r s1 s2 1 C w4 HD4.out.rd (by decide) EC.out).mono ?_); rintro _ w5 ⟨rfl, hr5, hk5⟩; have HD5 := Lib.hid (HD4.out.step hr5 hk5 HG2.out); have c5 := HD5.out.c7; clear hr5 hk5))
  clear HD3 hDd HD4 c7 c4 c5
  obtain ⟨E2, eE2⟩ : ∃ E2, E2 = s2.err := ⟨_, rfl⟩
  have HE2 := Lib.hid eE2; clear eE2
  go_wp2_with (fail)
  refine (Rerr_e r s2 E2 w5 HD5.out.rd HE2.out.symm).mono ?_
  rintro e w5' ⟨rfl, rfl⟩
  by_cases h2 : E2 = 0
  · subst h2
    by_cases hC : C = 0 ∨ 16 < C
    · have hR := HQ.out
      rw [if_neg (by rw [← HE2.out]; simp), if_pos hC] at hR
      injection hR with r1 r2
      injection r2 with r2 r3
      subst r1 r2 r3
      rcases hC with rfl | hC
      · go_wp2_with (fail)
        go_ret3
        exact ⟨_, rfl, NL.out _, HD5.out.bel⟩
      · have z0 : ((C : Int) == 0) = false := by rw [beq_eq_false_iff_ne]; omega
        have z1 : (16 : Int) < (C : Int) := by omega
        have z2 : ¬ C = 0 := by omega
        go_wp2_with (fail)
        go_ret3
        exact ⟨_, rfl, NL.out _, HD5.out.bel⟩
    · have hC1 : 1 ≤ C := by omega
      have hC16 : C ≤ 16 := by omega
      obtain ⟨G, eG⟩ : ∃ G, G = goR f C s2 [] := ⟨_, rfl⟩
      have hR := HQ.out
      rw [if_neg (by rw [← HE2.out]; simp), if_neg hC, ← eG] at hR
      have HG := Lib.hid hR
      have EG := Lib.hid eG
      clear hR eG hC
      have z0 : ((C : Int) == 0) = false := by rw [beq_eq_false_iff_ne]; omega
      have z1 : (C : Int) ≤ 16 := by omega
      have z2 : ¬ C = 0 := by omega
      go_wp2_with (fail)
      go_loopw [11, 45] (fun v i wr => ∃ (j : Nat) (s : RS) (acc : List Ev), j ≤ C ∧ i = .int .u64 j ∧ Hid (DeS w r g7 gA f s v acc wr) ∧ Hid (goR f (C - j) s acc = G) ∧ acc.length = j) (fun _ i _ => C - (intOf i).toNat)
      case atStart => exact ⟨0, s2, [], Nat.zero_le _, rfl, HD5, Lib.hid EG.out.symm, rfl⟩
      case round =>
        clear HD5
        obtain ⟨j, s, acc, hj, rfl, HD, HGo, hac⟩ := hrel
        have HAC := Lib.hid hac; clear hac
        rcases Nat.lt_or_ge j C with hlt | hge
        · have hlt' : (j : Int) < (C : Int) := by omega
          obtain ⟨ee, e1, s', eE⟩ : ∃ ee e1 s', evR f s = (ee, e1, s') := ⟨_, _, _, rfl⟩
          have hgo := HGo.out
          rw [show C - j = (C - j - 1) + 1 by omega, goR_succ eE] at hgo
          have HGO := Lib.hid hgo
          have EE := Lib.hid eE
          clear hgo eE
          have c7 := HD.out.c7
          go_wp2_with (fail)
          refine (event_e f r s s' ee e1 wr HD.out.rd (fun a ha => (HD.out.gl a (by rw [← HD.out.ga]; exact ha)).1) EE.out).mono ?_
          rintro e w6 ⟨d, rfl, hd6, hr6, hk6⟩
          have HD6 := Lib.hid (HD.out.step hr6 hk6 (evR_e EE.out))
          have ED6 : Hid (ee = 0 → EvO (DOk w r g7 gA) w6 d e1) := Lib.hid (fun h => EvO.to_d HD.out (hd6 h))
          clear hr6 hk6 hd6 c7 HD
          obtain ⟨dk, dA, dn, dc, dx, dy, db⟩ := d
          dsimp only
          by_cases he : ee = 0
          · subst he
            have hgo := HGO.out
            rw [if_neg (by simp)] at hgo
            have HGO2 := Lib.hid hgo
            clear hgo HGO HGo
            have hd6 := ED6.out rfl
            obtain ⟨ds, hds⟩ := HD6.out.ev
            have b7 : Below w6.heap.size w6 ((w6.alloc (.cells #[.int .i64 dk, .slice dA dn dc, .int .i64 dx, .int .i64 dy, .int .i64 db] 36)).alloc (.cells #[.int .i64 dk, .slice dA dn dc, .int .i64 dx, .int .i64 dy, .int .i64 db] 36)) := ((Below.refl _ _).alloc (Nat.le_refl _) _).alloc (by simp) _
            have HD8 := Lib.hid (HD6.out.below b7)
            have HS8 := Lib.hid (hds.below b7)
            have HE8 := Lib.hid (hd6.frame (fun k _ hk => b7.block k hk))
            have hdl : ds.length ≤ 16 := by rw [hds.len, HAC.out]; omega
            have hs6 : (w6.alloc (.cells #[.int .i64 dk, .slice dA dn dc, .int .i64 dx, .int .i64 dy, .int .i64 db] 36)).heap.size = w6.heap.size + 1 := by simp
            have hr8 := Rd.lit (w6.alloc (.cells #[.int .i64 dk, .slice dA dn dc, .int .i64 dx, .int .i64 dy, .int .i64 db] 36)) (cellsV [⟨dk, dA, dn, dc, dx, dy, db⟩]) 36
            rw [hs6] at hr8
            have HR8 := Lib.hid hr8
            have wj : IntKind.u64.wrap ((j : Int) + 1) = ((j + 1 : Nat) : Int) := by
              rw [show (j : Int) + 1 = ((j + 1 : Nat) : Int) by omega]; exact u64_wrapN (by unfold U64; omega)
            clear hd6 hds b7 hs6 hr8 HD6 ED6
            go_wp2_with (at_builtin; refine wpList_appV _ rfl (.tmp 56) (.tmp 58) rfl 0 _ ds rfl HS8.out.row (some ⟨w6.heap.size + 1, 0, none⟩) 1 1 [⟨dk, dA, dn, dc, dx, dy, db⟩] rfl rfl HR8.out (by omega) (Nat.zero_le _) ?_; intro v9 w9 ho9 hg9 hv9; have HD9 := Lib.hid (HD8.out.more HS8.out HE8.out ho9 hg9 hv9); clear ho9 hg9 hv9)
            go_roundw
            case rel => exact ⟨j + 1, s', acc ++ [e1], by omega, by go_num, HD9, Lib.hid (by rw [show C - (j + 1) = C - j - 1 by omega]; exact HGO2.out), by rw [List.length_append, HAC.out]; rfl⟩
            case measure => simp [intOf]; omega
          · have hgo := HGO.out
            rw [if_pos he] at hgo
            have hR := HG.out
            rw [← hgo, if_pos he] at hR
            injection hR with r1 r2
            injection r2 with r2 r3
            subst r1 r2 r3
            have e0 : ((er : Int) != 0) = true := by rw [bne_iff_ne]; omega
            have HB6 := Lib.hid HD6.out.bel
            clear he hgo
            go_wp2_with (fail)
            go_ret3
            exact ⟨_, rfl, NL.out _, HB6.out.alloc HB6.out.size _⟩
        · have hge' : (C : Int) ≤ (j : Int) := by omega
          have hgo := HGo.out
          rw [show C - j = 0 by omega, goR] at hgo
          have hR := HG.out
          rw [← hgo] at hR
          simp only at hR
          rw [if_neg (by simp)] at hR
          have HR2 := Lib.hid hR
          clear hR hgo HGo
          have hat : s.at_ ≤ s.b.length := by obtain ⟨_, _, _, _, _, _, _, h, _⟩ := HD.out.rd; exact h
          obtain ⟨lf, elf⟩ : ∃ lf, lf = s.b.length - s.at_ := ⟨_, rfl⟩
          have hlf : lf ≤ 140737488355328 := by obtain ⟨_, _, _, _, _, _, _, _, h⟩ := HD.out.rd; omega
          have ELF := Lib.hid elf
          have rl := Rleft_c r s wr HD.out.rd
          rw [← elf] at rl
          have RL := Lib.hid rl
          clear elf rl
          go_wp2_with (fail)
          refine RL.out.mono ?_
          rintro e w7 ⟨rfl, q7, e7⟩
          have HD7 := Lib.hid (e7 ▸ HD.out.below (below_drewN (Below.refl _ _) q7))
          clear e7 RL HD
          rcases Nat.eq_zero_or_pos lf with h0 | h0
          · have hR := HR2.out
            rw [if_neg (by have := ELF.out; omega)] at hR
            injection hR with r1 r2
            injection r2 with r2 r3
            subst r1 r2 r3
            have d0 : decide ((0 : Int) < (lf : Int)) = false := decide_eq_false (by omega)
            have d1 : decide (0 < lf) = false := decide_eq_false (by omega)
            clear h0
            go_wp2_with (fail)
            go_ret3
            exact ⟨_, rfl, by obtain ⟨ds, h⟩ := HD7.out.ev; exact ⟨ds, h.weak (fun k hk _ => hk.1)⟩, HD7.out.bel⟩
          · have hR := HR2.out
            rw [if_pos (by have := ELF.out; omega)] at hR
            injection hR with r1 r2
            injection r2 with r2 r3
            subst r1 r2 r3
            have d0 : decide ((0 : Int) < (lf : Int)) = true := decide_eq_true (by omega)
            have d1 : decide (0 < lf) = true := decide_eq_true (by omega)
            clear h0
            go_wp2_with (fail)
            go_ret3
            exact ⟨_, rfl, NL.out _, HD7.out.bel⟩
  · have hR := HQ.out
    rw [if_pos (by rw [← HE2.out]; exact h2), ← HE2.out] at hR
    injection hR with r1 r2
    injection r2 with r2 r3
    subst r1 r2 r3
    have e0 : ((er : Int) != 0) = true := by rw [bne_iff_ne]; omega
    clear h2
    go_wp2_with (fail)
    refine (Rerr_e r s2 er w5 HD5.out.rd HE2.out.symm).mono ?_
    rintro e w5' ⟨rfl, rfl⟩
    go_wp2_with (fail)
    go_ret3
    exact ⟨_, rfl, NL.out _, HD5.out.bel⟩
end Go.Proofs.Ytgnciejbhaebeaa

/- What the reference's Decode answers: a batch read, or an error. Conditions: lengths that fit. -/
namespace Go.Proofs.Ytgnciejbhaebeaa
open Go Go.RowKit

theorem refEvent_e (ver : Int) (A : Option Addr) (c : Nat) (s s' : RS) (er : Nat) (ev : Ev) (w : World) (h : RsOk w A c s) (e : evR (decide (ver = 1)) s = (er, ev, s')) : Calls Try.prog 80 #[.int .i64 ver, rsV A c s] w (EvQr w A c (er, ev, s')) := by
  have hz := getR_zero (f := decide (ver = 1)) (s := s) (z := 1)
  rw [← e]
  by_cases h1 : (getR (decide (ver = 1)) s 1).2.err ≠ 0 ∨ (getR (decide (ver = 1)) s 1).1 < 1 ∨ 4 < (getR (decide (ver = 1)) s 1).1
  · exact refEvent_p ver A c s w h h1
  · have he : (getR (decide (ver = 1)) s 1).2.err = 0 := by
      by_cases hh : (getR (decide (ver = 1)) s 1).2.err = 0
      · exact hh
      · exact absurd (.inl hh) h1
    have hk : ¬ ((getR (decide (ver = 1)) s 1).1 < 1 ∨ 4 < (getR (decide (ver = 1)) s 1).1) := fun hh => h1 (.inr hh)
    by_cases h12 : (getR (decide (ver = 1)) s 1).1 = 1 ∨ (getR (decide (ver = 1)) s 1).1 = 2
    · exact refEvent_t ver A c s w h ⟨he, h12⟩
    · exact refEvent_n ver A c s w h ⟨he, by omega⟩
theorem evR_ok {f : Bool} {s s' : RS} {er : Nat} {ev : Ev} {w : World} {A : Option Addr} {c : Nat} (h : RsOk w A c s) (e : evR f s = (er, ev, s')) : RsOk w A c s' := by
  have gk : ∀ {t : RS} {z : Int}, RsOk w A c t → RsOk w A c (getR f t z).2 := fun h => (getR_ok (K := (getR f _ _).1) h rfl).1
  have tk : ∀ {t : RS} {n : Int}, RsOk w A c t → RsOk w A c (takeR t n).2 := fun {t n} h => by
    have q1 := (takeR_b t n).1
    have q2 := takeR_at t n h.2.2.2.1
    exact ⟨by rw [q1]; exact h.1, by rw [q1]; exact h.2.1, h.2.2.1, by rw [q1]; exact q2, by rw [q1]; exact h.2.2.2.2⟩
  have hs : s' = (evR f s).2.2 := by rw [e]
  rw [hs]
  unfold evR
  split
  · exact gk h
  · split
    · exact gk h
    · split
      · simp only
        split
        · exact gk (gk h)
        · split
          · exact gk (gk h)
          · split
            · exact tk (gk (gk h))
            · split <;> exact tk (gk (gk h))
      · simp only
        by_cases h3 : (getR f s 1).1 = 3
        · simp only [if_pos h3]
          split
          · exact gk (gk (gk (gk h)))
          · split
            · exact gk (gk (gk (gk h)))
            · split <;> exact gk (gk (gk (gk h)))
        · simp only [if_neg h3]
          split
          · exact gk (gk (gk h))
          · split
            · exact gk (gk (gk h))
            · split <;> exact gk (gk (gk h))
/-- The state of the reference's loop: the reader, the events so far. -/
structure DrS (w0 : World) (g7 : Nat) (A : Option Addr) (c : Nat) (s : RS) (v : Value) (acc : List Ev) (w : World) : Prop where
  ok0 : RsOk w0 A c s
  b7 : RdB w g7 A c s
  ev : ∃ ds, EvsO (fun j => w0.heap.size ≤ j ∧ j ≠ g7) w v ds acc
  bel : Below w0.heap.size w0 w
  lo : w0.heap.size ≤ g7
section
variable {w0 w w' : World} {g7 c : Nat} {A : Option Addr} {s s' : RS} {v : Value} {acc : List Ev}
theorem DrS.ok (h : DrS w0 g7 A c s v acc w) : RsOk w A c s := h.ok0.below h.bel
theorem DrS.below (h : DrS w0 g7 A c s v acc w) (hb : Below w.heap.size w w') : DrS w0 g7 A c s v acc w' := by
  obtain ⟨ds, he⟩ := h.ev
  exact ⟨h.ok0, (hb.block g7 (heap_lt h.b7)).trans h.b7, ⟨ds, he.below hb⟩, h.bel.trans (hb.mono h.bel.size), h.lo⟩
theorem DrS.setR (h : DrS w0 g7 A c s v acc w) (hs : RsOk w0 A c s') : DrS w0 g7 A c s' v acc (set3 w g7 (.slice A s'.b.length c) (.int .i64 (s'.at_ : Int)) (.int .i64 (s'.err : Int))) := by
  obtain ⟨ds, he⟩ := h.ev
  have hl := h.lo
  have hk := set3_keeps w g7 (.slice A s'.b.length c) (.int .i64 (s'.at_ : Int)) (.int .i64 (s'.err : Int))
  exact ⟨hs, set3_heap h.b7, ⟨ds, he.frame (fun j hj hl => hk.block j hl hj.2)⟩, below_keeps h.bel hk (fun j e => by omega), h.lo⟩
theorem DrS.more (h : DrS w0 g7 A c s v acc w) {ds : List EvV} {d : EvV} {e : Ev} {v' : Value} (hds : EvsO (fun j => w0.heap.size ≤ j ∧ j ≠ g7) w v ds acc) (hd : EvO (fun j => w0.heap.size ≤ j ∧ j ≠ g7) w d e) (ho : OwnV w' 0 v' (ds ++ [d])) (hg : w.grownBy w' v.ownBlock) (hv : v'.ownBlock = v.ownBlock ∨ v'.ownBlock = some w.heap.size) :
    DrS w0 g7 A c s v' (acc ++ [e]) w' := by
  have hk : Keeps (fun j => v.ownBlock = some j) w w' := Keeps.of_grown hg _ (fun j hj => hj)
  have h7 := heap_lt h.b7
  have hz := h.bel.size
  exact ⟨h.ok0, (hk.block g7 h7 (fun e' => (hds.ok_ g7 e').2 rfl)).trans h.b7, ⟨_, hds.more hd ho hg hv ⟨hz, by omega⟩⟩, below_keeps h.bel hk (fun j e' => (hds.ok_ j e').1), h.lo⟩
end
end Go.Proofs.Ytgnciejbhaebeaa

/- What the reference's Decode answers: a batch read, or an error. Conditions: lengths that fit. -/
namespace Go.Proofs.Ytgnciejbhaebeaa
open Go Go.RowKit

set_option maxRecDepth 100000 in
set_option maxHeartbeats 4000000 in
theorem refDecode_c (ver : Int) (A : Option Addr) (c : Nat) (bs : List UInt8) (w : World) (hr : Rd w A (bs.map bv)) (hc : bs.length ≤ c) (hm : c ≤ maxLen) (hl : bs.length ≤ 140737488355328) (N er : Nat) (l : List Ev) (eR : decR ver bs none = (N, l, er)) :
    Calls Try.prog 57 #[.int .i64 ver, .slice A bs.length c] w fun r w' => ∃ v, r = .returned (.tuple #[.int .u64 (N : Int), v, .int .i64 (er : Int)]) ∧ Evs (w.heap.size ≤ ·) w' v l ∧ Below w.heap.size w w' := by
  have hok0 : RsOk w A c ⟨bs, 0, 0, none⟩ := ⟨hr, hc, hm, Nat.zero_le _, hl⟩
  have OK0 := Lib.hid hok0
  have ER := Lib.hid eR
  clear hr hc hm eR hok0
  have nl : ∀ w', Evs (w.heap.size ≤ ·) w' (.slice none 0 0) [] := fun w' => ⟨[], rfl, World.ownsRow_nil _ _ _ _, fun k e => (by cases e), fun i h => absurd h (by simp)⟩
  have NL := Lib.hid nl; clear nl
  rcases Int.lt_or_le ver 1 with v1 | v1
  · have hR : decR ver bs none = (0, [], 1) := by rw [decR, if_pos (.inl v1)]
    rw [ER.out] at hR
    injection hR with r1 r2
    injection r2 with r2 r3
    subst r1 r2 r3
    go_enter Try.func57, Try.ntmps57
    go_wp2_with (fail)
    go_ret3
    exact ⟨_, rfl, NL.out _, Below.refl _ _⟩
  rcases Int.lt_or_le 3 ver with v3 | v3
  · have hR : decR ver bs none = (0, [], 1) := by rw [decR, if_pos (.inr v3)]
    rw [ER.out] at hR
    injection hR with r1 r2
    injection r2 with r2 r3
    subst r1 r2 r3
    go_enter Try.func57, Try.ntmps57
    go_wp2_with (fail)
    go_ret3
    exact ⟨_, rfl, NL.out _, Below.refl _ _⟩
  have d1 : decide (ver < 1) = false := decide_eq_false (by omega)
  have d2 : decide (3 < ver) = false := decide_eq_false (by omega)
  obtain ⟨n, en⟩ : ∃ n, n = bs.length := ⟨_, rfl⟩
  rw [← en] at hl ⊢
  have EN := Lib.hid en; clear en
  obtain ⟨w2, ew2⟩ : ∃ w2, w2 = w.alloc (.cells #[.slice A n c, .int .i64 0, .int .i64 0] 142) := ⟨_, rfl⟩
  obtain ⟨g7, eg7⟩ : ∃ g7, g7 = w.heap.size := ⟨_, rfl⟩
  have hD2 : DrS w g7 A c ⟨bs, 0, 0, none⟩ (.slice none 0 0) [] w2 := by
    refine ⟨OK0.out, ?_, ⟨[], rfl, World.ownsRow_nil _ _ _ _, fun k e => (by cases e), fun i h => absurd h (by simp)⟩, ?_, by omega⟩
    · unfold RdB
      rw [ew2, eg7, heap_alloc_new, EN.out]
      rfl
    · rw [ew2]; exact (Below.refl _ _).alloc (Nat.le_refl _) _
  have HD2 := Lib.hid hD2
  have EW2 := Lib.hid ew2
  have EG7 := Lib.hid eg7
  clear hD2 ew2 eg7
  obtain ⟨B, s1, eB⟩ : ∃ B s1, getR (decide (ver = 1)) ⟨bs, 0, 0, none⟩ 8 = (B, s1) := ⟨_, _, rfl⟩
  obtain ⟨C, s2, eC⟩ : ∃ C s2, getR (decide (ver = 1)) s1 1 = (C, s2) := ⟨_, _, rfl⟩
  have hq := decR_eq (gA := none) v1 v3 rfl eB eC
  rw [ER.out] at hq
  have HQ := Lib.hid hq
  have EB := Lib.hid eB
  have EC := Lib.hid eC
  have hBu := getR_lt eB
  have hCu := getR_lt eC
  have OK1 := Lib.hid (getR_ok OK0.out eB).1
  have OK2 := Lib.hid (getR_ok OK1.out eC).1
  clear eB eC hq
  have rc := refRead_c ver A c ⟨bs, 0, 0, none⟩ s1 8 B w2 HD2.out.ok (by decide) EB.out
  unfold rsV at rc
  simp only [← EN.out] at rc
  have RC := Lib.hid rc; clear rc
  go_enter Try.func57, Try.ntmps57
  go_wp2_with (fail)
  rw [← EW2.out, ← EG7.out]
  refine RC.out.mono ?_
  rintro e w3 ⟨rfl, hb3⟩
  have HD3 := Lib.hid (HD2.out.below hb3)
  clear hb3 EW2 EG7 RC d1 d2 HD2
  obtain ⟨⟨x0, x1, x2⟩, xf0, xf1, xf2⟩ := HD3.out.b7.cells
  obtain ⟨w4, ew4⟩ : ∃ w4, w4 = set3 w3 g7 (.slice A s1.b.length c) (.int .i64 (s1.at_ : Int)) (.int .i64 (s1.err : Int)) := ⟨_, rfl⟩
  have HD4 := Lib.hid (ew4 ▸ HD3.out.setR OK1.out)
  unfold set3 at ew4
  have EW4 := Lib.hid ew4; clear ew4
  go_upto_region 5 with (fail)
  rw [← EW4.out]
  clear x0 x1 x2 xf0 xf1 xf2 EW4 HD3
  obtain ⟨⟨x0, x1, x2⟩, xf0, xf1, xf2⟩ := HD4.out.b7.cells
  go_wp2_with (fail)
  refine (refRead_c ver A c s1 s2 1 C w4 HD4.out.ok (by decide) EC.out).mono ?_
  rintro e w5 ⟨rfl, hb5⟩
  unfold rsV
  have HD5 := Lib.hid (HD4.out.below hb5)
  clear hb5 x0 x1 x2 xf0 xf1 xf2
  obtain ⟨⟨x0, x1, x2⟩, xf0, xf1, xf2⟩ := HD5.out.b7.cells
  obtain ⟨w6, ew6⟩ : ∃ w6, w6 = set3 w5 g7 (.slice A s2.b.length c) (.int .i64 (s2.at_ : Int)) (.int .i64 (s2.err : Int)) := ⟨_, rfl⟩
  have HD6 := Lib.hid (ew6 ▸ HD5.out.setR OK2.out)
  unfold set3 at ew6
  have EW6 := Lib.hid ew6; clear ew6
  go_upto_region 6 with (fail)
  rw [← EW6.out]
  clear x0 x1 x2 xf0 xf1 xf2 EW6 HD4 HD5
  obtain ⟨⟨x0, x1, x2⟩, xf0, xf1, xf2⟩ := HD6.out.b7.cells
  by_cases h2 : s2.err = 0
  · have h2e : ((s2.err : Int) != 0) = false := by rw [bne_eq_false_iff_eq]; omega
    have H2 := Lib.hid h2; clear h2
    by_cases hC : C = 0 ∨ 16 < C
    · have hR := HQ.out
      rw [if_neg (by simpa using H2.out), if_pos hC] at hR
      injection hR with r1 r2
      injection r2 with r2 r3
      subst r1 r2 r3
      rcases hC with rfl | hC
      · go_wp2_with (fail)
        go_ret3
        exact ⟨_, rfl, NL.out _, HD6.out.bel⟩
      · have z0 : ¬ ((C : Int) < 1) := by omega
        have z1 : (16 : Int) < (C : Int) := by omega
        go_wp2_with (fail)
        go_ret3
        exact ⟨_, rfl, NL.out _, HD6.out.bel⟩
    · have hC1 : 1 ≤ C := by omega
      have hC16 : C ≤ 16 := by omega
      obtain ⟨G, eG⟩ : ∃ G, G = goR (decide (ver = 1)) C s2 [] := ⟨_, rfl⟩
      have hR := HQ.out
      rw [if_neg (by simpa using H2.out), if_neg hC, ← eG] at hR
      have HG := Lib.hid hR
      have EG := Lib.hid eG
      clear hR eG hC
      have z0 : ¬ ((C : Int) < 1) := by omega
      have z1 : (C : Int) ≤ 16 := by omega
      have z2 : ¬ ((16 : Int) < (C : Int)) := by omega
      obtain ⟨w7, ew7⟩ : ∃ w7, w7 = w6.alloc (.cells #[] 36) := ⟨_, rfl⟩
      obtain ⟨g8, eg8⟩ : ∃ g8, g8 = w6.heap.size := ⟨_, rfl⟩
      have hD7 : DrS w g7 A c s2 (.slice (some ⟨g8, 0, none⟩) 0 0) [] w7 := by
        have hd := HD6.out.below (w' := w7) (by rw [ew7]; exact (Below.refl _ _).alloc (Nat.le_refl _) _)
        have h8 : w7.heap[g8]? = some (.cells #[] 36 (0, 0)) := by rw [ew7, eg8]; exact heap_alloc_new w6 _
        have hz := HD6.out.bel.size
        have h7 := heap_lt HD6.out.b7
        exact ⟨hd.ok0, hd.b7, ⟨[], rfl, ⟨rfl, .inr ⟨g8, 0, #[], rfl, Nat.zero_le _, h8, Nat.le_refl _, Nat.zero_le _, rfl, rfl⟩⟩, fun k e => by injection e with e; rw [← e]; exact ⟨by show w.heap.size ≤ g8; omega, by show g8 ≠ g7; omega⟩, fun i h => absurd h (by simp)⟩, hd.bel, hd.lo⟩
      have HD7 := Lib.hid hD7
      have EW7 := Lib.hid ew7
      have EG8 := Lib.hid eg8
      clear hD7 ew7 eg8
      go_upto_block 0 with (fail)
      rw [← EW7.out, ← EG8.out]
      clear EW7 EG8 HD6 x0 x1 x2 xf0 xf1 xf2
      go_wp2_with (fail)
      go_loopw [10, 11] (fun v i wr => ∃ (j : Nat) (s : RS) (acc : List Ev), j ≤ C ∧ i = .int .u64 j ∧ Hid (DrS w g7 A c s v acc wr) ∧ Hid (goR (decide (ver = 1)) (C - j) s acc = G) ∧ acc.length = j) (fun _ i _ => C - (intOf i).toNat)
      case atStart => exact ⟨0, s2, [], Nat.zero_le _, rfl, HD7, Lib.hid EG.out.symm, rfl⟩
      case round =>
        clear HD7
        obtain ⟨j, s, acc, hj, rfl, HD, HGo, hac⟩ := hrel
        have HAC := Lib.hid hac; clear hac
        obtain ⟨⟨x0, x1, x2⟩, xf0, xf1, xf2⟩ := HD.out.b7.cells
        rcases Nat.lt_or_ge j C with hlt | hge
        · have hlt' : (j : Int) < (C : Int) := by omega
          obtain ⟨ee, e1, s', eE⟩ : ∃ ee e1 s', evR (decide (ver = 1)) s = (ee, e1, s') := ⟨_, _, _, rfl⟩
          have hgo := HGo.out
          rw [show C - j = (C - j - 1) + 1 by omega, goR_succ eE] at hgo
          have HGO := Lib.hid hgo
          have OK' := Lib.hid (evR_ok HD.out.ok0 eE)
          have EE := Lib.hid eE
          clear hgo eE HGo
          go_wp2_with (fail)
          refine (refEvent_e ver A c s s' ee e1 wr HD.out.ok EE.out).mono ?_
          rintro e w8 ⟨⟨dk, dA, dn, dc, dx, dy, db⟩, s8, rfl, hd8, hb8⟩
          dsimp only
          have HD8 := Lib.hid (HD.out.below hb8)
          have ED8 : Hid (ee = 0 → EvO (fun j => w.heap.size ≤ j ∧ j ≠ g7) w8 ⟨dk, dA, dn, dc, dx, dy, db⟩ e1 ∧ s8 = s') := Lib.hid (fun h => ⟨(hd8 h).1.weak (fun k hk _ => by
            have h1 := HD.out.bel.size
            have h2 := heap_lt HD.out.b7
            exact ⟨Nat.le_trans h1 hk, by have : wr.heap.size ≤ k := hk; omega⟩), (hd8 h).2⟩)
          clear hd8 hb8 x0 x1 x2 xf0 xf1 xf2 HD
          by_cases he : ee = 0
          · subst he
            obtain ⟨hev, rfl⟩ := ED8.out rfl
            have hgo := HGO.out
            rw [if_neg (by simp)] at hgo
            have HGO2 := Lib.hid hgo
            clear hgo HGO
            obtain ⟨w9, ew9⟩ : ∃ w9, w9 = (w8.alloc (.cells #[.int .i64 dk, .slice dA dn dc, .int .i64 dx, .int .i64 dy, .int .i64 db] 36)).alloc (.cells #[.slice A s8.b.length c, .int .i64 (s8.at_ : Int), .int .i64 (s8.err : Int)] 142) := ⟨_, rfl⟩
            obtain ⟨g12, eg12⟩ : ∃ g12, g12 = w8.heap.size := ⟨_, rfl⟩
            obtain ⟨g13, eg13⟩ : ∃ g13, g13 = g12 + 1 := ⟨_, rfl⟩
            have b9 : Below w8.heap.size w8 w9 := by rw [ew9]; exact ((Below.refl _ _).alloc (Nat.le_refl _) _).alloc (by simp) _
            have hD9 := HD8.out.below b9
            have h12 : w9.heap[g12]? = some (.cells #[.int .i64 dk, .slice dA dn dc, .int .i64 dx, .int .i64 dy, .int .i64 db] 36 (0, 0)) := by rw [ew9, eg12]; exact heap2_old w8 _ _
            have h13 : RdB w9 g13 A c s8 := by unfold RdB; rw [ew9, eg13, eg12]; exact heap2_new w8 _ _
            have hE9 := hev.frame (w' := w9) (fun k _ hk => b9.block k hk)
            have hlt7 : g7 < g12 := by rw [eg12]; exact heap_lt HD8.out.b7
            obtain ⟨w10, ew10⟩ : ∃ w10, w10 = set3 w9 g7 (.slice A s8.b.length c) (.int .i64 (s8.at_ : Int)) (.int .i64 (s8.err : Int)) := ⟨_, rfl⟩
            have k10 : Keeps (fun j => j = g7) w9 w10 := by rw [ew10]; exact set3_keeps _ _ _ _ _
            have hD10 := hD9.setR OK'.out
            rw [← ew10] at hD10
            have h12b := (k10.block g12 (heap_lt h12) (by omega)).trans h12
            have hE10 := hE9.frame (w' := w10) (fun k hk hl => k10.block k hl hk.2)
            have b11 : Below w10.heap.size w10 (w10.alloc (.cells #[.int .i64 dk, .slice dA dn dc, .int .i64 dx, .int .i64 dy, .int .i64 db] 36)) := (Below.refl _ _).alloc (Nat.le_refl _) _
            have HD11 := Lib.hid (hD10.below b11)
            obtain ⟨ds, hds⟩ := HD11.out.ev
            have HS11 := Lib.hid hds
            have HE11 := Lib.hid (hE10.frame (fun k _ hk => b11.block k hk))
            have hdl : ds.length ≤ 16 := by rw [hds.len, HAC.out]; omega
            have HR11 := Lib.hid (Rd.lit w10 (cellsV [⟨dk, dA, dn, dc, dx, dy, db⟩]) 36)
            have wj : IntKind.u64.wrap ((j : Int) + 1) = ((j + 1 : Nat) : Int) := by
              rw [show (j : Int) + 1 = ((j + 1 : Nat) : Int) by omega]; exact u64_wrapN (by unfold U64; omega)
            obtain ⟨⟨x0, x1, x2⟩, xf0, xf1, xf2⟩ := hD9.b7.cells
            obtain ⟨⟨y0, y1, y2⟩, yf0, yf1, yf2⟩ := h13.cells
            obtain ⟨⟨p0, p1, p2, p3, p4⟩, -⟩ := five_cells h12b
            have EW9 := Lib.hid ew9
            have EG12 := Lib.hid eg12
            have EG13 := Lib.hid eg13
            unfold set3 at ew10
            have EW10 := Lib.hid ew10
            clear ew9 eg12 eg13 ew10 b9 b11 hD9 h12 h13 hE9 k10 hD10 h12b hE10 hds hev HD8 ED8 hlt7
            go_upto_region 17 with (fail)
            rw [← EW9.out, ← EG12.out, ← EG13.out]
            clear EW9 EG12 EG13
            go_upto_region 18 with (fail)
            rw [← EW10.out]
            clear EW10 x0 x1 x2 xf0 xf1 xf2 y0 y1 y2 yf0 yf1 yf2
            go_wp2_with (at_builtin; refine wpList_appV _ rfl (.tmp 63) (.tmp 65) rfl 0 _ ds rfl HS11.out.row (some ⟨w10.heap.size, 0, none⟩) 1 1 [⟨dk, dA, dn, dc, dx, dy, db⟩] rfl rfl HR11.out (by omega) (Nat.zero_le _) ?_; intro v12 w12 ho12 hg12 hv12; have HD12 := Lib.hid (HD11.out.more HS11.out HE11.out ho12 hg12 hv12); clear ho12 hg12 hv12)
            go_roundw
            case rel => exact ⟨j + 1, s8, acc ++ [e1], by omega, by go_num, HD12, Lib.hid (by rw [show C - (j + 1) = C - j - 1 by omega]; exact HGO2.out), by rw [List.length_append, HAC.out]; rfl⟩
            case measure => simp [intOf]; omega
          · have hgo := HGO.out
            rw [if_pos he] at hgo
            have hR := HG.out
            rw [← hgo, if_pos he] at hR
            injection hR with r1 r2
            injection r2 with r2 r3
            subst r1 r2 r3
            have e0 : ((er : Int) != 0) = true := by rw [bne_iff_ne]; omega
            have HB8 := Lib.hid HD8.out.bel
            clear he hgo
            go_wp2_with (fail)
            go_ret3
            exact ⟨_, rfl, NL.out _, (HB8.out.alloc HB8.out.size _).alloc (by have := HB8.out.size; simp; omega) _⟩
        · have hge' : (C : Int) ≤ (j : Int) := by omega
          have hgo := HGo.out
          rw [show C - j = 0 by omega, goR] at hgo
          have hR := HG.out
          rw [← hgo] at hR
          simp only at hR
          rw [if_neg (by simp)] at hR
          have HR2 := Lib.hid hR
          clear hR hgo HGo
          have hat : s.at_ ≤ s.b.length := HD.out.ok0.2.2.2.1
          obtain ⟨lf, elf⟩ : ∃ lf, lf = s.b.length - s.at_ := ⟨_, rfl⟩
          have hlf : lf ≤ 140737488355328 := by have := HD.out.ok0.2.2.2.2; omega
          have ELF := Lib.hid elf
          have rl := refLeft_c A c s wr HD.out.ok
          rw [← elf] at rl
          unfold rsV at rl
          have RL := Lib.hid rl
          clear elf rl
          go_wp2_with (fail)
          refine RL.out.mono ?_
          rintro e w7' ⟨rfl, hb7⟩
          have HD7 := Lib.hid (HD.out.below hb7)
          clear hb7 RL HD x0 x1 x2 xf0 xf1 xf2
          rcases Nat.eq_zero_or_pos lf with h0 | h0
          · have hR := HR2.out
            rw [if_neg (by have := ELF.out; omega)] at hR
            injection hR with r1 r2
            injection r2 with r2 r3
            subst r1 r2 r3
            have d0 : decide ((0 : Int) < (lf : Int)) = false := decide_eq_false (by omega)
            have d1 : decide (0 < lf) = false := decide_eq_false (by omega)
            clear h0
            go_wp2_with (fail)
            go_ret3
            exact ⟨_, rfl, by obtain ⟨ds, h⟩ := HD7.out.ev; exact ⟨ds, h.weak (fun k hk _ => hk.1)⟩, HD7.out.bel⟩
          · have hR := HR2.out
            rw [if_pos (by have := ELF.out; omega)] at hR
            injection hR with r1 r2
            injection r2 with r2 r3
            subst r1 r2 r3
            have d0 : decide ((0 : Int) < (lf : Int)) = true := decide_eq_true (by omega)
            have d1 : decide (0 < lf) = true := decide_eq_true (by omega)
            clear h0
            go_wp2_with (fail)
            go_ret3
            exact ⟨_, rfl, NL.out _, HD7.out.bel⟩
  · have hR := HQ.out
    rw [if_pos h2] at hR
    injection hR with r1 r2
    injection r2 with r2 r3
    subst r1 r2 r3
    have h2e : ((s2.err : Int) != 0) = true := by rw [bne_iff_ne]; omega
    clear h2
    go_upto_region 7 with (fail)
    go_region
    go_wp2_with (fail)
    go_ret3
    exact ⟨_, rfl, NL.out _, below_drewN HD6.out.bel 1⟩
end Go.Proofs.Ytgnciejbhaebeaa

/- Events read: how many there are at most. Conditions: none. -/
namespace Go.Proofs.Ytgnciejbhaebeaa
open Go Go.RowKit

theorem goR_len (f : Bool) : ∀ (n : Nat) (s : RS) (acc : List Ev), (goR f n s acc).2.1.length ≤ acc.length + n
  | 0, s, acc => Nat.le_refl _
  | n + 1, s, acc => by
    rw [goR]
    split
    · exact Nat.zero_le _
    · have := goR_len f n (evR f s).2.2 (acc ++ [(evR f s).2.1])
      rw [List.length_append, List.length_singleton] at this
      omega
theorem decR_len {ver : Int} {bs : List UInt8} {g : Option Addr} {N er : Nat} {l : List Ev} (h : decR ver bs g = (N, l, er)) : l.length ≤ 16 := by
  have h2 : (decR ver bs g).2.1.length ≤ 16 := by
    unfold decR
    split
    · exact Nat.zero_le _
    · simp only
      split
      · exact Nat.zero_le _
      · split
        · exact Nat.zero_le _
        · rename_i hc
          split
          · exact Nat.zero_le _
          · split
            · exact Nat.zero_le _
            · refine Nat.le_trans (goR_len _ _ _ _) ?_
              rw [List.length_nil]
              omega
  rw [h] at h2
  exact h2
theorem EvsO.rd2 {ok : Nat → Prop} {w : World} {A : Option Addr} {n c : Nat} {ds : List EvV} {es : List Ev} (h : EvsO ok w (.slice A n c) ds es) : EvsR ok w A ds es := by
  obtain ⟨A', c', e, -, -, hR⟩ := h.form
  injection e with e1 e2 e3
  subst e1
  exact hR
end Go.Proofs.Ytgnciejbhaebeaa
