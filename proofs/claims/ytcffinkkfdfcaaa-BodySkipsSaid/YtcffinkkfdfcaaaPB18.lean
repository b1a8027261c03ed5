/- Parts one behind the other: What the reference's PutHello lays; What bytes say as data, in the first version, as plain data; What bytes say as data, in the later versions, as plain data. Conditions: as told at each. -/
import Derived.Test.YtcffinkkfdfcaaaPB17
import Derived.Test.YtcffinkkfdfcaaaPB15
import Derived.Test.YtcffinkkfdfcaaaPB11
import Derived.Test.YtcffinkkfdfcaaaPB7
import Derived.Test.YtcffinkkfdfcaaaPB12

set_option linter.unusedVariables false
set_option linter.unusedSimpArgs false
/- What the reference's PutHello lays. Conditions: features of their kind; a nonce of sixteen bytes. -/
namespace Go.Proofs.Ytcffinkkfdfcaaa
open Go Go.RowKit

/-- Bytes to be read in a slice of n. -/
def Rl.txt (n : Nat) (bs : List UInt8) : Rl := ⟨fun w v => ∃ A c, v = .slice A n c ∧ bs.length = n ∧ Rd w A (bs.map bv) ∧ n ≤ c ∧ c ≤ maxLen, fun ⟨A, c, h, hn, r, q1, q2⟩ hb => ⟨A, c, h, hn, r.below hb, q1, q2⟩⟩
/-- A slice of n slices of bytes. -/
def Rl.sls (n : Nat) (bss : List (List UInt8)) : Rl := ⟨fun w v => ∃ A c, v = .slice A n c ∧ RdS w A bss, fun ⟨A, c, h, r⟩ hb => ⟨A, c, h, r.below hb⟩⟩
/-- Bytes in a row made from block B on. -/
def Rl.own (B : Nat) (bs : List UInt8) : Rl := ⟨fun w v => OwnB w B v bs, fun h hb => Own.below h hb⟩
theorem u8w2 {n : Nat} (h : n < 256) : IntKind.u8.wrap (n : Int) = (n : Int) := by
  unfold IntKind.wrap
  simp [IntKind.bits, IntKind.signed]
  omega
set_option maxRecDepth 100000 in
set_option maxHeartbeats 4000000 in
theorem refPutHello_c (mx : Int) (ft : Nat) (l : List UInt8) (hf : ft < 4294967296) (h : l.length = 16) (w : World) :
    Calls Try.prog 16 #[.agg (helI mx ft l)] w fun r w' => ∃ x, r = .returned (.tuple #[x, .int .i64 (putH mx ft l).1]) ∧ OwnB w' w.heap.size x (putH mx ft l).2 ∧ Below w.heap.size w w' := by
  obtain ⟨w1, ew1⟩ : ∃ w1, w1 = w.alloc (.cells (helI mx ft l) 44) := ⟨_, rfl⟩
  obtain ⟨gb, egb⟩ : ∃ gb, gb = w.heap.size := ⟨_, rfl⟩
  have b1 : Below w.heap.size w w1 := by rw [ew1]; exact (Below.refl _ _).alloc (Nat.le_refl _) _
  have HH1 : Hid (w1.heap[gb]? = some (.cells (helI mx ft l) 44 (0, 0))) := Lib.hid (by rw [ew1, egb]; exact heap_alloc_new w _)
  have x0 : w1.cell? ⟨gb, 0, none⟩ = some (.int .i64 mx) := (heap_cell HH1.out 0).trans rfl
  have x1 : w1.cell? ⟨gb, 1, none⟩ = some (.int .u32 (ft : Int)) := (heap_cell HH1.out 1).trans rfl
  have HB1 := Lib.hid b1
  have HL := Lib.hid h
  have HF := Lib.hid hf
  have EW1 := Lib.hid ew1
  have EGB := Lib.hid egb
  obtain ⟨E, eE⟩ : ∃ E, (putH mx ft l).1 = E := ⟨_, rfl⟩
  obtain ⟨L, eL⟩ : ∃ L, (putH mx ft l).2 = L := ⟨_, rfl⟩
  rw [eE, eL]
  have HE := Lib.hid eE
  have HLL := Lib.hid eL
  clear ew1 egb b1 h hf eE eL
  go_enter Try.func16, Try.ntmps16
  go_upto_region 1 with (fail)
  rw [← EW1.out, ← EGB.out]
  by_cases h1 : mx < 1
  · have eO : offI mx = false := decide_eq_false (by omega)
    have hE : E = 1 := by rw [← HE.out]; unfold putH; rw [eO]; rfl
    have hL : L = [] := by rw [← HLL.out]; unfold putH; rw [eO]; rfl
    have d1 : decide (mx < (1 : Int)) = true := decide_eq_true h1
    have EE := Lib.hid hE
    have EL := Lib.hid hL
    clear hE hL eO h1
    go_wp2_with (fail)
    go_ret2
    rw [EE.out, EL.out]
    exact ⟨_, rfl, Own.nil_ _ _ _, HB1.out⟩
  by_cases h3 : 3 < mx
  · have eO : offI mx = false := decide_eq_false (by omega)
    have hE : E = 1 := by rw [← HE.out]; unfold putH; rw [eO]; rfl
    have hL : L = [] := by rw [← HLL.out]; unfold putH; rw [eO]; rfl
    have d1 : decide (mx < (1 : Int)) = false := decide_eq_false h1
    have d3 : decide ((3 : Int) < mx) = true := decide_eq_true h3
    have EE := Lib.hid hE
    have EL := Lib.hid hL
    clear hE hL eO h1 h3
    go_wp2_with (fail)
    go_ret2
    rw [EE.out, EL.out]
    exact ⟨_, rfl, Own.nil_ _ _ _, HB1.out⟩
  have eO : offI mx = true := decide_eq_true (by omega)
  have hE : E = 0 := by rw [← HE.out]; unfold putH; rw [eO]; rfl
  have d1 : decide (mx < (1 : Int)) = false := decide_eq_false h1
  have d3 : decide ((3 : Int) < mx) = false := decide_eq_false h3
  obtain ⟨M, rfl⟩ : ∃ M : Nat, mx = (M : Int) := ⟨mx.toNat, by omega⟩
  have hL : L = encF (crF 0 [[lo M], numL ft 4, l]) := by rw [← HLL.out, ← numL_one]; unfold putH; rw [eO]; rfl
  have EE := Lib.hid hE
  have EL := Lib.hid hL
  have hM : M < 256 := by omega
  have hwM := u8w2 hM
  have HLM := Lib.hid (lo_bw hM)
  have VF : Hid (U64 ft) := Lib.hid (by have := HF.out; unfold U64; omega)
  have hwF := u32w HF.out
  have hgb : gb < w1.drew.heap.size := heap_lt HH1.out
  have HRB := Lib.hid (helI_rd HH1.out)
  clear hE hL h1 h3 eO
  go_upto_region 3 with (fail)
  refine wp_region_rw 28 [Rl.eq (.pointer (some ⟨gb, 0, none⟩)), Rl.eq (.pointer (some ⟨gb, 0, none⟩)), Rl.eq (.int .i64 (M : Int)), Rl.eq (.int .u8 (M : Int)), Rl.txt 1 [lo M], Rl.eq (.pointer (some ⟨gb, 0, none⟩)), Rl.eq (.pointer (some ⟨gb, 1, none⟩)), Rl.eq (.int .u32 (ft : Int)), Rl.eq (.int .u64 (ft : Int)), Rl.txt 4 (numL ft 4), Rl.eq (.pointer (some ⟨gb, 2, none⟩)), Rl.eq (.slice (some ⟨gb, 2, none⟩) 16 16), Rl.sls 3 [[lo M], numL ft 4, l], Rl.own w.heap.size (encF (crF 0 [[lo M], numL ft 4, l])), Rl.own w.heap.size (encF (crF 0 [[lo M], numL ft 4, l])), Rl.eq (.int .i64 0)] [14, 15, 16, 17, 18, 19, 20, 21, 22, 23, 24, 25, 26, 27, 2, 3] (by kernel_rfl) rfl (by kernel_rfl) (by kernel_rfl) ?_ ?_
  · repeat (first | exact AllFrom.nil_ | (refine AllFrom.cons_ (by rfl) ?_ ?_; rotate_left))
    · intro f w' g hF hD
      have h1 : f 1 = .pointer (some ⟨gb, 0, none⟩) := hF 1 (by kernel_rfl)
      rw [if_pos (wanted_none rfl)]
      clear hF hD
      exact gives_val (by simp only [execOp, evF, h1]; first | rfl | go_simp) ⟨Gr.refl _, rfl⟩
    · intro f w' g hF hD
      have h14 : f 14 = (.pointer (some ⟨gb, 0, none⟩)) := hD 0 14 (by kernel_rfl) rfl
      rw [if_pos (wanted_none rfl)]
      clear hF hD
      exact gives_val (by simp only [execOp, evF, h14]; first | rfl | go_simp) ⟨Gr.refl _, rfl⟩
    · intro f w' g hF hD
      have h15 : f 15 = (.pointer (some ⟨gb, 0, none⟩)) := hD 1 15 (by kernel_rfl) rfl
      rw [if_pos (wanted_none rfl)]
      clear hF hD
      have cl : w'.cell? ⟨gb, 0, none⟩ = some (.int .i64 (M : Int)) := (g.cell (p := ⟨gb, 0, none⟩) hgb).trans x0
      exact gives_val (by simp only [execOp, evF, h15]; go_simp) ⟨Gr.refl _, rfl⟩
    · intro f w' g hF hD
      have h16 : f 16 = (.int .i64 (M : Int)) := hD 2 16 (by kernel_rfl) rfl
      rw [if_pos (wanted_none rfl)]
      clear hF hD
      exact gives_val (by simp only [execOp, evF, h16]; first | rfl | go_simp) ⟨Gr.refl _, rfl⟩
    · intro f w' g hF hD
      have h17 : f 17 = (.int .u8 (M : Int)) := hD 3 17 (by kernel_rfl) rfl
      rw [if_pos (wanted_none rfl)]
      clear hF hD
      have r1 : Rd (w'.alloc (.cells #[.int .u8 (M : Int)] 5)) (some ⟨w'.heap.size, 0, none⟩) ([lo M].map bv) := by
        rw [HLM.out]; exact Rd.lit w' ([lo M].map bv) _
      exact gives_val (v := .slice (some ⟨w'.heap.size, 0, none⟩) 1 1) (by simp only [execOp, evF, h17]; first | rfl | go_simp) ⟨(Below.refl _ _).alloc (Nat.le_refl _) _, some ⟨w'.heap.size, 0, none⟩, 1, rfl, rfl, r1, Nat.le_refl _, by decide⟩
    · intro f w' g hF hD
      have h1 : f 1 = .pointer (some ⟨gb, 0, none⟩) := hF 1 (by kernel_rfl)
      rw [if_pos (wanted_none rfl)]
      clear hF hD
      exact gives_val (by simp only [execOp, evF, h1]; first | rfl | go_simp) ⟨Gr.refl _, rfl⟩
    · intro f w' g hF hD
      have h19 : f 19 = (.pointer (some ⟨gb, 0, none⟩)) := hD 5 19 (by kernel_rfl) rfl
      rw [if_pos (wanted_none rfl)]
      clear hF hD
      exact gives_val (by simp only [execOp, evF, h19]; first | rfl | go_simp) ⟨Gr.refl _, rfl⟩
    · intro f w' g hF hD
      have h20 : f 20 = (.pointer (some ⟨gb, 1, none⟩)) := hD 6 20 (by kernel_rfl) rfl
      rw [if_pos (wanted_none rfl)]
      clear hF hD
      have cl : w'.cell? ⟨gb, 1, none⟩ = some (.int .u32 (ft : Int)) := (g.cell (p := ⟨gb, 1, none⟩) hgb).trans x1
      exact gives_val (by simp only [execOp, evF, h20]; go_simp) ⟨Gr.refl _, rfl⟩
    · intro f w' g hF hD
      have h21 : f 21 = (.int .u32 (ft : Int)) := hD 7 21 (by kernel_rfl) rfl
      rw [if_pos (wanted_none rfl)]
      clear hF hD
      exact gives_val (by simp only [execOp, evF, h21]; first | rfl | go_simp) ⟨Gr.refl _, rfl⟩
    · intro f w' g hF hD
      have h22 : f 22 = (.int .u64 (ft : Int)) := hD 8 22 (by kernel_rfl) rfl
      rw [if_pos (wanted_none rfl)]
      clear hF hD
      refine gives_func rfl Try.func37 (by kernel_rfl) rfl (by simp only [List.map_toArray, List.map_cons, List.map_nil, evF, h22]) ((refNum_c ft 4 w' VF.out).mono ?_)
      rintro e w'' ⟨v, rfl, ho, hb⟩
      rw [nm4] at ho
      obtain ⟨A5, c5, rfl, hc5, hm5, r5, _⟩ := OwnB.form ho
      rw [numL_length] at hc5 ⊢
      exact ⟨_, rfl, hb, _, _, rfl, numL_length _ _, r5, hc5, hm5⟩
    · intro f w' g hF hD
      have h1 : f 1 = .pointer (some ⟨gb, 0, none⟩) := hF 1 (by kernel_rfl)
      rw [if_pos (wanted_none rfl)]
      clear hF hD
      exact gives_val (by simp only [execOp, evF, h1]; first | rfl | go_simp) ⟨Gr.refl _, rfl⟩
    · intro f w' g hF hD
      have h24 : f 24 = (.pointer (some ⟨gb, 2, none⟩)) := hD 10 24 (by kernel_rfl) rfl
      rw [if_pos (wanted_none rfl)]
      clear hF hD
      exact gives_val (by simp only [execOp, evF, h24]; first | rfl | go_simp) ⟨Gr.refl _, rfl⟩
    · intro f w' g hF hD
      have q18 := hD 4 18 (by kernel_rfl) rfl
      have q23 := hD 9 23 (by kernel_rfl) rfl
      have h25 : f 25 = (.slice (some ⟨gb, 2, none⟩) 16 16) := hD 11 25 (by kernel_rfl) rfl
      rw [if_pos (wanted_none rfl)]
      clear hF hD
      obtain ⟨A0, c0, h18, q0⟩ := q18
      obtain ⟨A1, c1, h23, q1⟩ := q23
      have kg : Below w1.heap.size w1 w' := (below_drewN (Below.refl _ _) 1).trans g
      have r3 := rds3 w' q0 q1 (A2 := some ⟨gb, 2, none⟩) (c2 := 16) ⟨HL.out, HRB.out.below kg, Nat.le_refl _, by decide⟩
      exact gives_val (v := .slice (some ⟨w'.heap.size, 0, none⟩) 3 3) (by simp only [execOp, evF, h25, h18, h23]; first | rfl | go_simp) ⟨(Below.refl _ _).alloc (Nat.le_refl _) _, some ⟨w'.heap.size, 0, none⟩, 3, rfl, r3⟩
    · intro f w' g hF hD
      have q26 := hD 12 26 (by kernel_rfl) rfl
      rw [if_pos (wanted_none rfl)]
      clear hF hD
      obtain ⟨A0, c0, h26, q0⟩ := q26
      have kg : Below w1.heap.size w1 w' := (below_drewN (Below.refl _ _) 1).trans g
      refine gives_func rfl Try.func44 (by kernel_rfl) rfl (by simp only [List.map_toArray, List.map_cons, List.map_nil, evF, h26]) ((critical_c A0 3 c0 [[lo M], numL ft 4, l] w' rfl q0 (by decide) ?_).mono ?_)
      · intro b hb; simp at hb; rcases hb with rfl | rfl | rfl; simp; (rw [numL_length]; decide); (rw [HL.out]; decide)
      rintro e w'' ⟨v, rfl, ho, hb⟩
      exact ⟨_, rfl, hb, Own.low ho (Nat.le_trans HB1.out.size kg.size)⟩
    · intro f w' g hF hD
      have q27 := hD 13 27 (by kernel_rfl) rfl
      rw [if_pos (wanted_none rfl)]
      clear hF hD
      exact gives_val (v := f 27) (by simp only [execOp, evF]; rfl) ⟨Gr.refl _, q27⟩
    · intro f w' g hF hD
      rw [if_pos (wanted_none rfl)]
      clear hF hD
      exact gives_val (by simp only [execOp, evF]; first | rfl | go_simp) ⟨Gr.refl _, rfl⟩
  intro f' w4 g hD
  have h2 : OwnB w4 w.heap.size (f' 2) (encF (crF 0 [[lo M], numL ft 4, l])) := hD 14 2 rfl
  have h3 : f' 3 = .int .i64 0 := hD 15 3 rfl
  have HO := Lib.hid h2
  have HB4 := Lib.hid (HB1.out.trans (((below_drewN (Below.refl _ _) 1).trans g).mono HB1.out.size))
  obtain ⟨v2, ev2⟩ : ∃ v2, v2 = f' 2 := ⟨_, rfl⟩
  rw [← ev2] at HO
  simp only [putAll, List.setIfInBounds_toArray, List.set_cons_zero, List.set_cons_succ, h3, ← ev2]
  clear h2 h3 hD g x0 x1 hwM hwF hgb hM d1 d3 ev2
  go_wp2_with (fail)
  go_ret2
  rw [EE.out, EL.out]
  exact ⟨_, rfl, HO.out, HB4.out⟩
end Go.Proofs.Ytcffinkkfdfcaaa

/- What bytes say as data, in the first version, as plain data. Conditions: none. -/
namespace Go.Proofs.Ytcffinkkfdfcaaa
open Go Go.RowKit

def dzD : DataD := ⟨0, 0, 0, 0, false, ⟨0, 0, 0, []⟩⟩
def fstD (bs : List UInt8) : DataD := ⟨beN (bs.take 2), beN ((bs.drop 2).take 2), beN ((bs.drop 4).take 8), beN ((bs.drop 12).take 8), false, ⟨0, 0, 0, []⟩⟩
def bAt (bs : List UInt8) (i : Nat) : Nat := beN ((bs.drop i).take 1)
/-- The first version's data: the error; the data. -/
def firE (bs : List UInt8) : Nat := if bs.length < 21 then 2 else if 1 < bAt bs 20 then 3 else if bAt bs 20 = 0 then (if 21 < bs.length then 6 else 0) else if bs.length < 27 then 2 else 0
def firD (bs : List UInt8) : DataD := if bAt bs 20 = 0 then fstD bs else { fstD bs with has := true, p := ⟨beN ((bs.drop 21).take 4), bAt bs 25, bAt bs 26, bs.drop 27⟩ }
/-- Data's nine cells. -/
def datC (d : DataD) (A : Option Addr) (n c : Nat) : Array Value := #[.int .u16 (d.st : Int), .int .u16 (d.ec : Int), .int .u64 (d.ak : Int), .int .u64 (d.th : Int), .bool d.has, .int .u32 (d.p.id : Int), .int .i64 d.p.ix, .int .i64 d.p.ct, .slice A n c]
/-- What a call answers: nine cells; where there is no error, they are the data, its bytes the call's own. -/
def DatE (ok : Nat → Prop) (w : World) (cs : Array Value) (e : Nat) (d : DataD) : Prop := cs.size = 9 ∧ cs.all (·.oneCell') = true ∧ (e = 0 → ∃ A n c, cs = datC d A n c ∧ TxtO ok w A n c d.p.bs)
/-- The same, its bytes to be read. -/
def DatR (w : World) (cs : Array Value) (e : Nat) (d : DataD) : Prop := cs.size = 9 ∧ cs.all (·.oneCell') = true ∧ (e = 0 → ∃ A n c, cs = datC d A n c ∧ TxtR (fun _ => True) w A n c d.p.bs)
theorem datC_size (d : DataD) (A : Option Addr) (n c : Nat) : (datC d A n c).size = 9 := rfl
theorem datC_one (d : DataD) (A : Option Addr) (n c : Nat) : (datC d A n c).all (·.oneCell') = true := by simp [datC, Value.oneCell']
theorem numR_two {s : RS} {z : Nat} (h1 : 1 ≤ z) (h8 : z ≤ 8) (h : s.err = 0 ∨ s.err = 2) (ha : s.at_ ≤ s.b.length) :
    (numR s (z : Int)).2.b = s.b ∧ (numR s (z : Int)).2.at_ ≤ s.b.length ∧ (((numR s (z : Int)).2.err = 0 ∧ (numR s (z : Int)).2.at_ = s.at_ + z ∧ s.err = 0 ∧ (numR s (z : Int)).1 = beN ((s.b.drop s.at_).take z)) ∨ (numR s (z : Int)).2.err = 2) := by
  unfold numR
  rcases h with h | h
  · rw [if_neg (by simp [h]), if_neg (by omega)]
    split
    · exact ⟨rfl, ha, .inr rfl⟩
    · exact ⟨rfl, by simp; omega, .inl ⟨h, by simp, h, by simp⟩⟩
  · rw [if_pos (by simp [h])]
    exact ⟨rfl, ha, .inr h⟩
theorem numR_lt (s : RS) (z : Nat) (h1 : 1 ≤ z) : (numR s (z : Int)).1 < 256 ^ z := by
  have hp : 0 < 256 ^ z := Nat.pow_pos (by decide)
  unfold numR
  split
  · exact hp
  · split
    · exact hp
    · split
      · exact hp
      · have := beN_lt ((s.b.drop s.at_).take z)
        have hl : ((s.b.drop s.at_).take z).length ≤ z := by rw [List.length_take]; omega
        exact Nat.lt_of_lt_of_le this (Nat.pow_le_pow_right (by decide) hl)
/-- A step of a reader over bs: it stands at place k and is right, or it has run short. -/
def AtR (bs : List UInt8) (s : RS) (k : Nat) : Prop := s.b = bs ∧ s.at_ ≤ bs.length ∧ ((s.err = 0 ∧ s.at_ = k) ∨ (s.err = 2 ∧ bs.length < k))
theorem AtR.num {bs : List UInt8} {s : RS} {k : Nat} (h : AtR bs s k) (z : Nat) (h1 : 1 ≤ z) (h8 : z ≤ 8) : AtR bs (numR s (z : Int)).2 (k + z) ∧ ((numR s (z : Int)).2.err = 0 → (numR s (z : Int)).1 = beN ((bs.drop k).take z)) := by
  obtain ⟨hb, ha, h⟩ := h
  unfold numR
  rcases h with ⟨h0, hk⟩ | ⟨h2, hk⟩
  · rw [if_neg (by simp [h0]), if_neg (by omega)]
    split
    · next hl => exact ⟨⟨hb, ha, .inr ⟨rfl, by rw [hb] at hl; omega⟩⟩, fun e => by cases e⟩
    · next hl => exact ⟨⟨hb, by simp; rw [hb] at hl; omega, .inl ⟨h0, by simp [hk]⟩⟩, fun _ => by simp [hb, hk]⟩
  · rw [if_pos (by simp [h2])]
    exact ⟨⟨hb, ha, .inr ⟨h2, by omega⟩⟩, fun e => by rw [h2] at e; cases e⟩
theorem AtR.err {bs : List UInt8} {s : RS} {k : Nat} (h : AtR bs s k) : s.err = if bs.length < k then 2 else 0 := by
  obtain ⟨hb, ha, ⟨h0, hk⟩ | ⟨h2, hk⟩⟩ := h
  · rw [if_neg (by omega), h0]
  · rw [if_pos hk, h2]
theorem AtR.at_eq {bs : List UInt8} {s : RS} {k : Nat} (h : AtR bs s k) (hk : k ≤ bs.length) : s.err = 0 ∧ s.at_ = k := by
  obtain ⟨hb, ha, ⟨h0, hk'⟩ | ⟨h2, hk'⟩⟩ := h
  · exact ⟨h0, hk'⟩
  · omega
end Go.Proofs.Ytcffinkkfdfcaaa

/- What bytes say as data, in the later versions, as plain data. Conditions: none. -/
namespace Go.Proofs.Ytcffinkkfdfcaaa
open Go Go.RowKit

def echN (I : Fo) : Nat := (numR ⟨itB I, 0, 0, none⟩ 2).1
def itA1 (bs : List UInt8) : FS := opS bs 5
def itSt (bs : List UInt8) : Nat := beN (byB (itA1 bs) 2)
def itA2 (bs : List UInt8) : FS := byS (itA1 bs) 2
def ecS (s : FS) : FS := if nxB s = true then badS (badS (nxS s false) (itL (nxI s) || !decide ((itB (nxI s)).length = 2))) (decide (echN (nxI s) = 65535)) else nxS s false
def ecN (s : FS) : Nat := if nxB s = true then echN (nxI s) else 65535
def itA3 (bs : List UInt8) : FS := ecS (itA2 bs)
def itEc (bs : List UInt8) : Nat := ecN (itA2 bs)
def itA4 (bs : List UInt8) : FS := nuS (itA3 bs) false
def itAk (bs : List UInt8) : Nat := nuN (itA3 bs)
def itA5 (bs : List UInt8) : FS := nuS (itA4 bs) false
def itTh (bs : List UInt8) : Nat := nuN (itA4 bs)
def itI5 (bs : List UInt8) : Fo := nxI (itA5 bs)
def itA6 (bs : List UInt8) : FS := nxS (itA5 bs) false
def itA7 (bs : List UInt8) : FS := badS (itA6 bs) (!itL (itI5 bs))
/-- The part's items: its three numbers, its bytes. -/
def ptP1 (l : Fo) (e : Nat) : FS := knS l 4 e
def ptP2 (l : Fo) (e : Nat) : FS := nuS (ptP1 l e) true
def ptP3 (l : Fo) (e : Nat) : FS := nuS (ptP2 l e) true
def ptP4 (l : Fo) (e : Nat) : FS := nuS (ptP3 l e) true
def ptY (l : Fo) (e : Nat) : Fo := nxI (ptP4 l e)
def ptBad (y : Fo) (id ix ct : Nat) : Bool := itL y || (decide (4294967295 < id) || (decide (128 ≤ ix) || decide (128 < ct)))
def ptP5 (l : Fo) (e : Nat) : FS := badS (nxS (ptP4 l e) true) (ptBad (ptY l e) (nuN (ptP1 l e)) (nuN (ptP2 l e)) (nuN (ptP3 l e)))
def ptD (l : Fo) (e : Nat) : PartD := ⟨nuN (ptP1 l e), nuN (ptP2 l e), nuN (ptP3 l e), itB (ptY l e)⟩
def itmE (bs : List UInt8) : Nat := if nxB (itA5 bs) = true then (ptP5 (itS (itI5 bs)) (itA7 bs).err).err else (itA6 bs).err
def itmD (bs : List UInt8) : DataD := if nxB (itA5 bs) = true then ⟨itSt bs, itEc bs, itAk bs, itTh bs, true, ptD (itS (itI5 bs)) (itA7 bs).err⟩ else ⟨itSt bs, itEc bs, itAk bs, itTh bs, false, ⟨0, 0, 0, []⟩⟩
theorem ecS_l (s : FS) : (ecS s).l = s.l := by
  unfold ecS; split
  · rw [badS_l, badS_l]; rfl
  · rfl
theorem ecS_at (s : FS) : (ecS s).at_ = s.at_ + 1 := by
  unfold ecS; split
  · rw [badS_at, badS_at]; rfl
  · rfl
theorem ecS_sticks {s : FS} (h : s.err ≠ 0) : (ecS s).err = s.err := by
  have hb : nxB s = false := by simp [nxB, h]
  simp [ecS, hb, nxS_sticks h]
theorem opS_at5 (bs : List UInt8) (k : Nat) : (opS bs k).at_ = 0 := by unfold opS knS; split <;> rfl
theorem itA1_at (bs : List UInt8) : (itA1 bs).at_ = 0 := opS_at5 bs 5
theorem itA2_at (bs : List UInt8) : (itA2 bs).at_ = 1 := by rw [itA2, byS_at, itA1_at]
theorem itA3_at (bs : List UInt8) : (itA3 bs).at_ = 2 := by rw [itA3, ecS_at, itA2_at]
theorem itA4_at (bs : List UInt8) : (itA4 bs).at_ = 3 := by rw [itA4, nuS_at, itA3_at]
theorem itA5_at (bs : List UInt8) : (itA5 bs).at_ = 4 := by rw [itA5, nuS_at, itA4_at]
theorem itA2_l (bs : List UInt8) : (itA2 bs).l = (itA1 bs).l := by rw [itA2, byS_l]
theorem itA3_l (bs : List UInt8) : (itA3 bs).l = (itA1 bs).l := by rw [itA3, ecS_l, itA2_l]
theorem itA4_l (bs : List UInt8) : (itA4 bs).l = (itA1 bs).l := by rw [itA4, nuS_l, itA3_l]
theorem itA5_l (bs : List UInt8) : (itA5 bs).l = (itA1 bs).l := by rw [itA5, nuS_l, itA4_l]
theorem ptP1_at (l : Fo) (e : Nat) : (ptP1 l e).at_ = 0 := by unfold ptP1 knS; split <;> rfl
theorem ptP2_at (l : Fo) (e : Nat) : (ptP2 l e).at_ = 1 := by rw [ptP2, nuS_at, ptP1_at]
theorem ptP3_at (l : Fo) (e : Nat) : (ptP3 l e).at_ = 2 := by rw [ptP3, nuS_at, ptP2_at]
theorem ptP4_at (l : Fo) (e : Nat) : (ptP4 l e).at_ = 3 := by rw [ptP4, nuS_at, ptP3_at]
theorem itA7_l (bs : List UInt8) : (itA7 bs).l = (itA1 bs).l := by rw [itA7, badS_l, itA6, nxS_l, itA5_l]
/-- Where nothing is wrong, the part's numbers fit. -/
theorem badS_err0 {s : FS} {b : Bool} (h : (badS s b).err = 0) : s.err = 0 ∧ b = false := by
  unfold badS at h
  split at h
  · cases h
  · next hn =>
    refine ⟨h, ?_⟩
    cases b with
    | false => rfl
    | true => exact absurd ⟨h, rfl⟩ hn
theorem pt_fit {l : Fo} {e : Nat} (h : (ptP5 l e).err = 0) : nuN (ptP1 l e) ≤ 4294967295 ∧ nuN (ptP2 l e) < 128 ∧ nuN (ptP3 l e) ≤ 128 := by
  have := (badS_err0 h).2
  unfold ptBad at this
  simp only [Bool.or_eq_false_iff, decide_eq_false_iff_not] at this
  omega
/-- The world of a walk over fields: the walk's block p, the result's block gr, the data's block g5. -/
structure ItQ (w w2 : World) (p gr g5 : Nat) : Prop where
  h1 : gr ≠ p
  h2 : gr < w2.heap.size
  h3 : p < w2.heap.size
  h4 : g5 = w2.heap.size
  h5 : w.heap.size ≤ gr
  h6 : w.heap.size ≤ p
structure ItW (w w2 wx : World) (p gr g5 : Nat) (A : Option Addr) (n c : Nat) (L : Fo) (S : FS) (zs cs : Array Value) : Prop where
  f : Flds wx p A n c S
  l : S.l = L
  k : Keeps (fun j => j = p) w2 wx
  g : wx.heap[gr]? = some (.cells zs 29 (0, 0))
  h : wx.heap[g5]? = some (.cells cs 29 (0, 0))
  b : Below w.heap.size w wx
section
variable {w w2 wx wy : World} {p gr g5 : Nat} {A : Option Addr} {n c : Nat} {L : Fo} {S S' : FS} {zs cs cs' : Array Value}
theorem ItW.call (Q : ItQ w w2 p gr g5) (h : ItW w w2 wx p gr g5 A n c L S zs cs) (hf : Flds wy p A n c S') (hl : S'.l = S.l) (hk : Keeps (fun j => j = p) wx wy) : ItW w w2 wy p gr g5 A n c L S' zs cs :=
  ⟨hf, hl.trans h.l, h.k.trans hk, (hk.block gr (heap_lt h.g) Q.h1).trans h.g, (hk.block g5 (heap_lt h.h) (by have := Q.h3; have := Q.h4; omega)).trans h.h, keepsP_b h.b hk Q.h6 (Nat.le_refl _)⟩
theorem ItW.below (h : ItW w w2 wx p gr g5 A n c L S zs cs) (hb : Below wx.heap.size wx wy) : ItW w w2 wy p gr g5 A n c L S zs cs :=
  ⟨h.f.below hb, h.l, h.k.trans (Keeps.of_below hb _ (fun k hk _ => hk)), (hb.block gr (heap_lt h.g)).trans h.g, (hb.block g5 (heap_lt h.h)).trans h.h, h.b.trans (hb.mono h.b.size)⟩
theorem ItW.drewN (h : ItW w w2 wx p gr g5 A n c L S zs cs) (q : Nat) : ItW w w2 (wx.drewN q) p gr g5 A n c L S zs cs := h.below (below_drewN (Below.refl _ _) q)
theorem ItW.other {S0 : FS} (Q : ItQ w w2 p gr g5) (h0 : Flds w2 p A n c S0) (hl0 : S0.l = L) {r : Nat} (h : ItW w w2 wx p gr g5 A n c L S zs cs) (hr : g5 < r) (hk : Keeps (fun j => j = r) wx wy) : ItW w w2 wy p gr g5 A n c L S zs cs := by
  have h1 := Q.h1; have h2 := Q.h2; have h3 := Q.h3; have h4 := Q.h4; have h5 := Q.h5; have h6 := Q.h6
  have k' : Keeps (fun j => w2.heap.size ≤ j) wx wy := hk.mono (fun j e => by rw [e]; omega)
  exact ⟨h0.far2 h.f h.k (h.l.trans hl0.symm) k' (hk.block p h.f.lt (by omega)), h.l, h.k.over k', (hk.block gr (heap_lt h.g) (by omega)).trans h.g, (hk.block g5 (heap_lt h.h) (by omega)).trans h.h, keepsP_b h.b hk (by omega) (Nat.le_refl _)⟩
theorem ItW.set {S0 : FS} (Q : ItQ w w2 p gr g5) (h0 : Flds w2 p A n c S0) (hl0 : S0.l = L) (h : ItW w w2 wx p gr g5 A n c L S zs cs) (hk : Keeps (fun j => j = g5) wx wy) (hh : wy.heap[g5]? = some (.cells cs' 29 (0, 0))) : ItW w w2 wy p gr g5 A n c L S zs cs' := by
  have h1 := Q.h1; have h2 := Q.h2; have h3 := Q.h3; have h4 := Q.h4; have h5 := Q.h5; have h6 := Q.h6
  have k' : Keeps (fun j => w2.heap.size ≤ j) wx wy := hk.mono (fun j e => by rw [e]; omega)
  exact ⟨h0.far2 h.f h.k (h.l.trans hl0.symm) k' (hk.block p h.f.lt (by omega)), h.l, h.k.over k', (hk.block gr (heap_lt h.g) (by omega)).trans h.g, hh, keepsP_b h.b hk (by omega) (Nat.le_refl _)⟩
end
end Go.Proofs.Ytcffinkkfdfcaaa
