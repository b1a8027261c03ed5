/- Parts one behind the other: What PutSelect lays; What the reference's PutSelect lays; How a law's argument is opened: an event by value; a slice of events; How a law's argument is opened: a list of items; How a law's argument is opened: data with a part, by value; An array of 32 bytes by value, opened: its bytes; How a law's arguments are opened: a Hello and a Select, by value; The walk of the law BodyPuts: it returns true. Conditions: as told at each. -/
import Derived.Test.YtcffinkkfdfcaaaPBodyPuts9
import Derived.Test.YtcffinkkfdfcaaaPBodyPuts1
import Derived.Test.YtcffinkkfdfcaaaPBodyPuts6
import Derived.Deep.Fields
import Derived.WideKeyArr2
import Derived.Test.YtcffinkkfdfcaaaPBodyPuts8

/- What PutSelect lays. Conditions: features of their kind; arrays of sixteen and of thirty-two bytes. -/
namespace Go.Proofs.Ytcffinkkfdfcaaa
open Go Go.RowKit

def selI (v : Int) (f1 : Nat) (mx : Int) (f2 : Nat) (l1 l2 : List UInt8) : Array Value := (.int .i64 v :: .int .u32 (f1 : Int) :: .int .i64 mx :: .int .u32 (f2 : Int) :: (l1.map bv ++ l2.map bv)).toArray
def selL (v : Int) (f1 : Nat) (mx : Int) (f2 : Nat) (l1 l2 : List UInt8) : List (List UInt8) := [numL v.toNat 1, numL f1 4, numL mx.toNat 1, numL f2 4, l1, l2]
def putS (v : Int) (f1 : Nat) (mx : Int) (f2 : Nat) (l1 l2 : List UInt8) : Int × List UInt8 := if (mayF v f1 && offI mx) = true then (0, encF (crF 0 (selL v f1 mx f2 l1 l2))) else (1, [])
theorem mayF_in {v : Int} {f : Nat} (h : mayF v f = true) : 1 ≤ v ∧ v ≤ 3 := ⟨(of_decide_eq_true h).1, (of_decide_eq_true h).2.1⟩
theorem selI_rd1 {w : World} {g f1 f2 : Nat} {v mx : Int} {l1 l2 : List UInt8} {t : TypeId} (h : w.heap[g]? = some (.cells (selI v f1 mx f2 l1 l2) t (0, 0))) : Rd w (some ⟨g, 4, none⟩) (l1.map bv) := by
  refine .inr ⟨g, 4, rfl, heap_lt h, fun k hk => ?_⟩
  rw [heap_cell h, selI, List.getElem?_toArray, show 4 + k = k + 1 + 1 + 1 + 1 by omega, List.getElem?_cons_succ, List.getElem?_cons_succ, List.getElem?_cons_succ, List.getElem?_cons_succ, List.getElem?_append_left hk, List.getElem?_eq_getElem hk]
theorem selI_rd2 {w : World} {g f1 f2 : Nat} {v mx : Int} {l1 l2 : List UInt8} {t : TypeId} (hl : l1.length = 16) (h : w.heap[g]? = some (.cells (selI v f1 mx f2 l1 l2) t (0, 0))) : Rd w (some ⟨g, 20, none⟩) (l2.map bv) := by
  refine .inr ⟨g, 20, rfl, heap_lt h, fun k hk => ?_⟩
  rw [heap_cell h, selI, List.getElem?_toArray, show 20 + k = (k + 16) + 1 + 1 + 1 + 1 by omega, List.getElem?_cons_succ, List.getElem?_cons_succ, List.getElem?_cons_succ, List.getElem?_cons_succ, List.getElem?_append_right (by rw [List.length_map]; omega), List.length_map, hl, show k + 16 - 16 = k by omega, List.getElem?_eq_getElem hk]
theorem rds6 (w : World) {A0 A1 A2 A3 A4 A5 : Option Addr} {n0 n1 n2 n3 n4 n5 c0 c1 c2 c3 c4 c5 : Nat} {b0 b1 b2 b3 b4 b5 : List UInt8} (h0 : b0.length = n0 ∧ Rd w A0 (b0.map bv) ∧ n0 ≤ c0 ∧ c0 ≤ maxLen) (h1 : b1.length = n1 ∧ Rd w A1 (b1.map bv) ∧ n1 ≤ c1 ∧ c1 ≤ maxLen) (h2 : b2.length = n2 ∧ Rd w A2 (b2.map bv) ∧ n2 ≤ c2 ∧ c2 ≤ maxLen) (h3 : b3.length = n3 ∧ Rd w A3 (b3.map bv) ∧ n3 ≤ c3 ∧ c3 ≤ maxLen) (h4 : b4.length = n4 ∧ Rd w A4 (b4.map bv) ∧ n4 ≤ c4 ∧ c4 ≤ maxLen) (h5 : b5.length = n5 ∧ Rd w A5 (b5.map bv) ∧ n5 ≤ c5 ∧ c5 ≤ maxLen) :
    RdS (w.alloc (.cells #[.slice A0 n0 c0, .slice A1 n1 c1, .slice A2 n2 c2, .slice A3 n3 c3, .slice A4 n4 c4, .slice A5 n5 c5] 25)) (some ⟨w.heap.size, 0, none⟩) [b0, b1, b2, b3, b4, b5] :=
  RdS_lit w [(A0, n0, c0), (A1, n1, c1), (A2, n2, c2), (A3, n3, c3), (A4, n4, c4), (A5, n5, c5)] [b0, b1, b2, b3, b4, b5] _ rfl (fun x hx => by
    simp at hx
    rcases hx with rfl | rfl | rfl | rfl | rfl | rfl
    · exact h0
    · exact h1
    · exact h2
    · exact h3
    · exact h4
    · exact h5)
set_option maxRecDepth 100000 in
set_option maxHeartbeats 4000000 in
theorem PutSelect_c (v : Int) (f1 : Nat) (mx : Int) (f2 : Nat) (l1 l2 : List UInt8) (hf1 : f1 < 4294967296) (hf2 : f2 < 4294967296) (h1 : l1.length = 16) (h2 : l2.length = 32) (w : World) :
    Calls Try.prog 17 #[.agg (selI v f1 mx f2 l1 l2)] w fun r w' => ∃ x, r = .returned (.tuple #[x, .int .i64 (putS v f1 mx f2 l1 l2).1]) ∧ OwnB w' w.heap.size x (putS v f1 mx f2 l1 l2).2 ∧ Below w.heap.size w w' := by
  obtain ⟨w1, ew1⟩ : ∃ w1, w1 = w.alloc (.cells (selI v f1 mx f2 l1 l2) 49) := ⟨_, rfl⟩
  obtain ⟨gb, egb⟩ : ∃ gb, gb = w.heap.size := ⟨_, rfl⟩
  have b1 : Below w.heap.size w w1 := by rw [ew1]; exact (Below.refl _ _).alloc (Nat.le_refl _) _
  have HH1 : Hid (w1.heap[gb]? = some (.cells (selI v f1 mx f2 l1 l2) 49 (0, 0))) := Lib.hid (by rw [ew1, egb]; exact heap_alloc_new w _)
  have x0 : w1.cell? ⟨gb, 0, none⟩ = some (.int .i64 v) := (heap_cell HH1.out 0).trans rfl
  have x1 : w1.cell? ⟨gb, 1, none⟩ = some (.int .u32 (f1 : Int)) := (heap_cell HH1.out 1).trans rfl
  have HB1 := Lib.hid b1
  have HL1 := Lib.hid h1
  have HL2 := Lib.hid h2
  have HF1 := Lib.hid hf1
  have HF2 := Lib.hid hf2
  have EW1 := Lib.hid ew1
  have EGB := Lib.hid egb
  obtain ⟨E, eE⟩ : ∃ E, (putS v f1 mx f2 l1 l2).1 = E := ⟨_, rfl⟩
  obtain ⟨L, eL⟩ : ∃ L, (putS v f1 mx f2 l1 l2).2 = L := ⟨_, rfl⟩
  rw [eE, eL]
  have HE := Lib.hid eE
  have HLL := Lib.hid eL
  clear ew1 egb b1 h1 h2 hf1 hf2 eE eL
  go_enter Try.func17, Try.ntmps17
  go_upto_region 1 with (fail)
  rw [← EW1.out, ← EGB.out]
  go_wp2_with (fail)
  refine (featMay_c v f1 HF1.out w1).mono ?_
  rintro _ w2 ⟨rfl, hb2⟩
  obtain ⟨O1, eO1⟩ : ∃ O, mayF v f1 = O := ⟨_, rfl⟩
  rw [eO1]
  have HO1 := Lib.hid eO1
  have HB2 := Lib.hid (HB1.out.trans (hb2.mono HB1.out.size))
  have HH2 := Lib.hid ((hb2.block gb (heap_lt HH1.out)).trans HH1.out)
  clear hb2 eO1 x0 x1
  cases O1 with
  | false =>
    have hE : E = 1 := by rw [← HE.out]; unfold putS; rw [HO1.out]; rfl
    have hL : L = [] := by rw [← HLL.out]; unfold putS; rw [HO1.out]; rfl
    have EE := Lib.hid hE
    have EL := Lib.hid hL
    clear hE hL
    go_wp2_with (fail)
    go_ret2
    rw [EE.out, EL.out]
    exact ⟨_, rfl, Own.nil_ _ _ _, HB2.out⟩
  | true =>
  have z0 : w2.cell? ⟨gb, 0, none⟩ = some (.int .i64 v) := (heap_cell HH2.out 0).trans rfl
  have z1 : w2.cell? ⟨gb, 1, none⟩ = some (.int .u32 (f1 : Int)) := (heap_cell HH2.out 1).trans rfl
  have z2 : w2.cell? ⟨gb, 2, none⟩ = some (.int .i64 mx) := (heap_cell HH2.out 2).trans rfl
  have z3 : w2.cell? ⟨gb, 3, none⟩ = some (.int .u32 (f2 : Int)) := (heap_cell HH2.out 3).trans rfl
  go_wp2_with (fail)
  refine (offerMayI_c mx f2 w2).mono ?_
  rintro _ w3 ⟨rfl, hb3⟩
  obtain ⟨O, eO⟩ : ∃ O, offI mx = O := ⟨_, rfl⟩
  rw [eO]
  have HO := Lib.hid eO
  have HB3 := Lib.hid (HB2.out.trans (hb3.mono HB2.out.size))
  have HH3 := Lib.hid ((hb3.block gb (heap_lt HH2.out)).trans HH2.out)
  clear hb3 eO z0 z1 z2 z3
  cases O with
  | false =>
    have hE : E = 1 := by rw [← HE.out]; unfold putS; rw [HO1.out, HO.out]; rfl
    have hL : L = [] := by rw [← HLL.out]; unfold putS; rw [HO1.out, HO.out]; rfl
    have EE := Lib.hid hE
    have EL := Lib.hid hL
    clear hE hL
    go_wp2_with (fail)
    go_ret2
    rw [EE.out, EL.out]
    exact ⟨_, rfl, Own.nil_ _ _ _, HB3.out⟩
  | true =>
  clear HH1 HB1 HB2 HH2
  have z0 : w3.cell? ⟨gb, 0, none⟩ = some (.int .i64 v) := (heap_cell HH3.out 0).trans rfl
  have z1 : w3.cell? ⟨gb, 1, none⟩ = some (.int .u32 (f1 : Int)) := (heap_cell HH3.out 1).trans rfl
  have z2 : w3.cell? ⟨gb, 2, none⟩ = some (.int .i64 mx) := (heap_cell HH3.out 2).trans rfl
  have z3 : w3.cell? ⟨gb, 3, none⟩ = some (.int .u32 (f2 : Int)) := (heap_cell HH3.out 3).trans rfl
  have eO := HO.out
  obtain ⟨m1, m3⟩ : 1 ≤ mx ∧ mx ≤ 3 := of_decide_eq_true eO
  obtain ⟨hv1, hv3⟩ := mayF_in HO1.out
  obtain ⟨V, rfl⟩ : ∃ V : Nat, v = (V : Int) := ⟨v.toNat, by omega⟩
  obtain ⟨M, rfl⟩ : ∃ M : Nat, mx = (M : Int) := ⟨mx.toNat, by omega⟩
  have hE : E = 0 := by rw [← HE.out]; unfold putS; rw [HO1.out, eO]; rfl
  have hL : L = encF (crF 0 [numL V 1, numL f1 4, numL M 1, numL f2 4, l1, l2]) := by rw [← HLL.out]; unfold putS; rw [HO1.out, eO]; rfl
  have EE := Lib.hid hE
  have EL := Lib.hid hL
  have hV : V < 256 := by omega
  have hM : M < 256 := by omega
  have VF1 : Hid (U64 f1) := Lib.hid (by have := HF1.out; unfold U64; omega)
  have VF2 : Hid (U64 f2) := Lib.hid (by have := HF2.out; unfold U64; omega)
  have hwF1 := u32w HF1.out
  have hwF2 := u32w HF2.out
  have hwV := u64w (n := V) (by omega)
  have hwM := u64w (n := M) (by omega)
  have VV : Hid (U64 V) := Lib.hid (by unfold U64; omega)
  have VM : Hid (U64 M) := Lib.hid (by unfold U64; omega)
  have hgb : gb < w3.heap.size := heap_lt HH3.out
  have HR1 := Lib.hid (selI_rd1 HH3.out)
  have HR2 := Lib.hid (selI_rd2 HL1.out HH3.out)
  have hbs : ∀ b ∈ [numL V 1, numL f1 4, numL M 1, numL f2 4, l1, l2], b.length ≤ 4096 := by
    intro b hb
    simp at hb
    rcases hb with rfl | rfl | rfl | rfl | rfl | rfl
    · rw [numL_length]; decide
    · rw [numL_length]; decide
    · rw [numL_length]; decide
    · rw [numL_length]; decide
    · rw [HL1.out]; decide
    · rw [HL2.out]; decide
  have HBS := Lib.hid hbs
  clear hE hL hv1 hv3 eO hbs m1 m3 HO
  go_upto_region 3 with (fail)
  refine wp_region_rw 40 [Rl.eq (.pointer (some ⟨gb, 0, none⟩)), Rl.eq (.pointer (some ⟨gb, 0, none⟩)), Rl.eq (.int .i64 (V : Int)), Rl.eq (.int .u64 (V : Int)), Rl.txt 1 (numL V 1), Rl.eq (.pointer (some ⟨gb, 0, none⟩)), Rl.eq (.pointer (some ⟨gb, 1, none⟩)), Rl.eq (.int .u32 (f1 : Int)), Rl.eq (.int .u64 (f1 : Int)), Rl.txt 4 (numL f1 4), Rl.eq (.pointer (some ⟨gb, 2, none⟩)), Rl.eq (.pointer (some ⟨gb, 2, none⟩)), Rl.eq (.int .i64 (M : Int)), Rl.eq (.int .u64 (M : Int)), Rl.txt 1 (numL M 1), Rl.eq (.pointer (some ⟨gb, 2, none⟩)), Rl.eq (.pointer (some ⟨gb, 3, none⟩)), Rl.eq (.int .u32 (f2 : Int)), Rl.eq (.int .u64 (f2 : Int)), Rl.txt 4 (numL f2 4), Rl.eq (.pointer (some ⟨gb, 4, none⟩)), Rl.eq (.slice (some ⟨gb, 4, none⟩) 16 16), Rl.eq (.pointer (some ⟨gb, 20, none⟩)), Rl.eq (.slice (some ⟨gb, 20, none⟩) 32 32), Rl.sls 6 [numL V 1, numL f1 4, numL M 1, numL f2 4, l1, l2], Rl.own w.heap.size (encF (crF 0 [numL V 1, numL f1 4, numL M 1, numL f2 4, l1, l2])), Rl.own w.heap.size (encF (crF 0 [numL V 1, numL f1 4, numL M 1, numL f2 4, l1, l2])), Rl.eq (.int .i64 0)] [14, 15, 16, 17, 18, 19, 20, 21, 22, 23, 24, 25, 26, 27, 28, 29, 30, 31, 32, 33, 34, 35, 36, 37, 38, 39, 2, 3] (by kernel_rfl) rfl (by kernel_rfl) (by kernel_rfl) ?_ ?_
  · repeat (first | exact AllFrom.nil_ | (refine AllFrom.cons_ (by rfl) ?_ ?_; rotate_left))
    · intro f w' g hF hD
      have h1 : f 1 = .pointer (some ⟨gb, 0, none⟩) := hF 1 (by kernel_rfl)
      rw [if_pos (wanted_none rfl)]
      clear hF hD
      exact gives_val (by simp only [execOp, evF, h1]; first | rfl | go_simp) ⟨Gr.refl _, rfl⟩
    · intro f w' g hF hD
      have h14 : f 14 = (.pointer (some ⟨gb, 0, none⟩)) := hD 0 14 (by kernel_rfl) rfl
      rw [if_pos (wanted_none rfl)]
      clear hF hD
      exact gives_val (by simp only [execOp, evF, h14]; first | rfl | go_simp) ⟨Gr.refl _, rfl⟩
    · intro f w' g hF hD
      have h15 : f 15 = (.pointer (some ⟨gb, 0, none⟩)) := hD 1 15 (by kernel_rfl) rfl
      rw [if_pos (wanted_none rfl)]
      clear hF hD
      have cl : w'.cell? ⟨gb, 0, none⟩ = some (.int .i64 (V : Int)) := (g.cell (p := ⟨gb, 0, none⟩) hgb).trans z0
      exact gives_val (by simp only [execOp, evF, h15]; go_simp) ⟨Gr.refl _, rfl⟩
    · intro f w' g hF hD
      have h16 : f 16 = (.int .i64 (V : Int)) := hD 2 16 (by kernel_rfl) rfl
      rw [if_pos (wanted_none rfl)]
      clear hF hD
      exact gives_val (by simp only [execOp, evF, h16]; first | rfl | go_simp) ⟨Gr.refl _, rfl⟩
    · intro f w' g hF hD
      have h17 : f 17 = (.int .u64 (V : Int)) := hD 3 17 (by kernel_rfl) rfl
      rw [if_pos (wanted_none rfl)]
      clear hF hD
      refine gives_func rfl Try.func34 (by kernel_rfl) rfl (by simp only [List.map_toArray, List.map_cons, List.map_nil, evF, h17]) ((Num_c V 1 w' VV.out).mono ?_)
      rintro e w'' ⟨x, rfl, ho, hb⟩
      rw [nm1] at ho
      obtain ⟨A5, c5, rfl, hc5, hm5, r5, _⟩ := OwnB.form ho
      rw [numL_length] at hc5 ⊢
      exact ⟨_, rfl, hb, _, _, rfl, numL_length _ _, r5, hc5, hm5⟩
    · intro f w' g hF hD
      have h1 : f 1 = .pointer (some ⟨gb, 0, none⟩) := hF 1 (by kernel_rfl)
      rw [if_pos (wanted_none rfl)]
      clear hF hD
      exact gives_val (by simp only [execOp, evF, h1]; first | rfl | go_simp) ⟨Gr.refl _, rfl⟩
    · intro f w' g hF hD
      have h19 : f 19 = (.pointer (some ⟨gb, 0, none⟩)) := hD 5 19 (by kernel_rfl) rfl
      rw [if_pos (wanted_none rfl)]
      clear hF hD
      exact gives_val (by simp only [execOp, evF, h19]; first | rfl | go_simp) ⟨Gr.refl _, rfl⟩
    · intro f w' g hF hD
      have h20 : f 20 = (.pointer (some ⟨gb, 1, none⟩)) := hD 6 20 (by kernel_rfl) rfl
      rw [if_pos (wanted_none rfl)]
      clear hF hD
      have cl : w'.cell? ⟨gb, 1, none⟩ = some (.int .u32 (f1 : Int)) := (g.cell (p := ⟨gb, 1, none⟩) hgb).trans z1
      exact gives_val (by simp only [execOp, evF, h20]; go_simp) ⟨Gr.refl _, rfl⟩
    · intro f w' g hF hD
      have h21 : f 21 = (.int .u32 (f1 : Int)) := hD 7 21 (by kernel_rfl) rfl
      rw [if_pos (wanted_none rfl)]
      clear hF hD
      exact gives_val (by simp only [execOp, evF, h21]; first | rfl | go_simp) ⟨Gr.refl _, rfl⟩
    · intro f w' g hF hD
      have h22 : f 22 = (.int .u64 (f1 : Int)) := hD 8 22 (by kernel_rfl) rfl
      rw [if_pos (wanted_none rfl)]
      clear hF hD
      refine gives_func rfl Try.func34 (by kernel_rfl) rfl (by simp only [List.map_toArray, List.map_cons, List.map_nil, evF, h22]) ((Num_c f1 4 w' VF1.out).mono ?_)
      rintro e w'' ⟨x, rfl, ho, hb⟩
      rw [nm4] at ho
      obtain ⟨A5, c5, rfl, hc5, hm5, r5, _⟩ := OwnB.form ho
      rw [numL_length] at hc5 ⊢
      exact ⟨_, rfl, hb, _, _, rfl, numL_length _ _, r5, hc5, hm5⟩
    · intro f w' g hF hD
      have h1 : f 1 = .pointer (some ⟨gb, 0, none⟩) := hF 1 (by kernel_rfl)
      rw [if_pos (wanted_none rfl)]
      clear hF hD
      exact gives_val (by simp only [execOp, evF, h1]; first | rfl | go_simp) ⟨Gr.refl _, rfl⟩
    · intro f w' g hF hD
      have h24 : f 24 = (.pointer (some ⟨gb, 2, none⟩)) := hD 10 24 (by kernel_rfl) rfl
      rw [if_pos (wanted_none rfl)]
      clear hF hD
      exact gives_val (by simp only [execOp, evF, h24]; first | rfl | go_simp) ⟨Gr.refl _, rfl⟩
    · intro f w' g hF hD
      have h25 : f 25 = (.pointer (some ⟨gb, 2, none⟩)) := hD 11 25 (by kernel_rfl) rfl
      rw [if_pos (wanted_none rfl)]
      clear hF hD
      have cl : w'.cell? ⟨gb, 2, none⟩ = some (.int .i64 (M : Int)) := (g.cell (p := ⟨gb, 2, none⟩) hgb).trans z2
      exact gives_val (by simp only [execOp, evF, h25]; go_simp) ⟨Gr.refl _, rfl⟩
    · intro f w' g hF hD
      have h26 : f 26 = (.int .i64 (M : Int)) := hD 12 26 (by kernel_rfl) rfl
      rw [if_pos (wanted_none rfl)]
      clear hF hD
      exact gives_val (by simp only [execOp, evF, h26]; first | rfl | go_simp) ⟨Gr.refl _, rfl⟩
    · intro f w' g hF hD
      have h27 : f 27 = (.int .u64 (M : Int)) := hD 13 27 (by kernel_rfl) rfl
      rw [if_pos (wanted_none rfl)]
      clear hF hD
      refine gives_func rfl Try.func34 (by kernel_rfl) rfl (by simp only [List.map_toArray, List.map_cons, List.map_nil, evF, h27]) ((Num_c M 1 w' VM.out).mono ?_)
      rintro e w'' ⟨x, rfl, ho, hb⟩
      rw [nm1] at ho
      obtain ⟨A5, c5, rfl, hc5, hm5, r5, _⟩ := OwnB.form ho
      rw [numL_length] at hc5 ⊢
      exact ⟨_, rfl, hb, _, _, rfl, numL_length _ _, r5, hc5, hm5⟩
    · intro f w' g hF hD
      have h1 : f 1 = .pointer (some ⟨gb, 0, none⟩) := hF 1 (by kernel_rfl)
      rw [if_pos (wanted_none rfl)]
      clear hF hD
      exact gives_val (by simp only [execOp, evF, h1]; first | rfl | go_simp) ⟨Gr.refl _, rfl⟩
    · intro f w' g hF hD
      have h29 : f 29 = (.pointer (some ⟨gb, 2, none⟩)) := hD 15 29 (by kernel_rfl) rfl
      rw [if_pos (wanted_none rfl)]
      clear hF hD
      exact gives_val (by simp only [execOp, evF, h29]; first | rfl | go_simp) ⟨Gr.refl _, rfl⟩
    · intro f w' g hF hD
      have h30 : f 30 = (.pointer (some ⟨gb, 3, none⟩)) := hD 16 30 (by kernel_rfl) rfl
      rw [if_pos (wanted_none rfl)]
      clear hF hD
      have cl : w'.cell? ⟨gb, 3, none⟩ = some (.int .u32 (f2 : Int)) := (g.cell (p := ⟨gb, 3, none⟩) hgb).trans z3
      exact gives_val (by simp only [execOp, evF, h30]; go_simp) ⟨Gr.refl _, rfl⟩
    · intro f w' g hF hD
      have h31 : f 31 = (.int .u32 (f2 : Int)) := hD 17 31 (by kernel_rfl) rfl
      rw [if_pos (wanted_none rfl)]
      clear hF hD
      exact gives_val (by simp only [execOp, evF, h31]; first | rfl | go_simp) ⟨Gr.refl _, rfl⟩
    · intro f w' g hF hD
      have h32 : f 32 = (.int .u64 (f2 : Int)) := hD 18 32 (by kernel_rfl) rfl
      rw [if_pos (wanted_none rfl)]
      clear hF hD
      refine gives_func rfl Try.func34 (by kernel_rfl) rfl (by simp only [List.map_toArray, List.map_cons, List.map_nil, evF, h32]) ((Num_c f2 4 w' VF2.out).mono ?_)
      rintro e w'' ⟨x, rfl, ho, hb⟩
      rw [nm4] at ho
      obtain ⟨A5, c5, rfl, hc5, hm5, r5, _⟩ := OwnB.form ho
      rw [numL_length] at hc5 ⊢
      exact ⟨_, rfl, hb, _, _, rfl, numL_length _ _, r5, hc5, hm5⟩
    · intro f w' g hF hD
      have h1 : f 1 = .pointer (some ⟨gb, 0, none⟩) := hF 1 (by kernel_rfl)
      rw [if_pos (wanted_none rfl)]
      clear hF hD
      exact gives_val (by simp only [execOp, evF, h1]; first | rfl | go_simp) ⟨Gr.refl _, rfl⟩
    · intro f w' g hF hD
      have h34 : f 34 = (.pointer (some ⟨gb, 4, none⟩)) := hD 20 34 (by kernel_rfl) rfl
      rw [if_pos (wanted_none rfl)]
      clear hF hD
      exact gives_val (by simp only [execOp, evF, h34]; first | rfl | go_simp) ⟨Gr.refl _, rfl⟩
    · intro f w' g hF hD
      have h1 : f 1 = .pointer (some ⟨gb, 0, none⟩) := hF 1 (by kernel_rfl)
      rw [if_pos (wanted_none rfl)]
      clear hF hD
      exact gives_val (by simp only [execOp, evF, h1]; first | rfl | go_simp) ⟨Gr.refl _, rfl⟩
    · intro f w' g hF hD
      have h36 : f 36 = (.pointer (some ⟨gb, 20, none⟩)) := hD 22 36 (by kernel_rfl) rfl
      rw [if_pos (wanted_none rfl)]
      clear hF hD
      exact gives_val (by simp only [execOp, evF, h36]; first | rfl | go_simp) ⟨Gr.refl _, rfl⟩
    · intro f w' g hF hD
      have q18 := hD 4 18 (by kernel_rfl) rfl
      have q23 := hD 9 23 (by kernel_rfl) rfl
      have q28 := hD 14 28 (by kernel_rfl) rfl
      have q33 := hD 19 33 (by kernel_rfl) rfl
      have h35 : f 35 = (.slice (some ⟨gb, 4, none⟩) 16 16) := hD 21 35 (by kernel_rfl) rfl
      have h37 : f 37 = (.slice (some ⟨gb, 20, none⟩) 32 32) := hD 23 37 (by kernel_rfl) rfl
      rw [if_pos (wanted_none rfl)]
      clear hF hD
      obtain ⟨A0, c0, h18, q0⟩ := q18
      obtain ⟨A1, c1, h23, q1⟩ := q23
      obtain ⟨A2, c2, h28, q2⟩ := q28
      obtain ⟨A3, c3, h33, q3⟩ := q33
      have kg : Below w3.heap.size w3 w' := (below_drewN (Below.refl _ _) 1).trans g
      have r3 := rds6 w' q0 q1 q2 q3 (A4 := some ⟨gb, 4, none⟩) (c4 := 16) ⟨HL1.out, HR1.out.below kg, Nat.le_refl _, by decide⟩ (A5 := some ⟨gb, 20, none⟩) (c5 := 32) ⟨HL2.out, HR2.out.below kg, Nat.le_refl _, by decide⟩
      exact gives_val (v := .slice (some ⟨w'.heap.size, 0, none⟩) 6 6) (by simp only [execOp, evF, h35, h37, h18, h23, h28, h33]; first | rfl | go_simp) ⟨(Below.refl _ _).alloc (Nat.le_refl _) _, some ⟨w'.heap.size, 0, none⟩, 6, rfl, r3⟩
    · intro f w' g hF hD
      have q38 := hD 24 38 (by kernel_rfl) rfl
      rw [if_pos (wanted_none rfl)]
      clear hF hD
      obtain ⟨A0, c0, h38, q0⟩ := q38
      have kg : Below w3.heap.size w3 w' := (below_drewN (Below.refl _ _) 1).trans g
      refine gives_func rfl Try.func43 (by kernel_rfl) rfl (by simp only [List.map_toArray, List.map_cons, List.map_nil, evF, h38]) ((listB_c A0 6 c0 [numL V 1, numL f1 4, numL M 1, numL f2 4, l1, l2] w' rfl q0 (by decide) HBS.out).mono ?_)
      rintro e w'' ⟨x, rfl, ho, hb⟩
      exact ⟨_, rfl, hb, Own.low ho (Nat.le_trans HB3.out.size kg.size)⟩
    · intro f w' g hF hD
      have q39 := hD 25 39 (by kernel_rfl) rfl
      rw [if_pos (wanted_none rfl)]
      clear hF hD
      exact gives_val (v := f 39) (by simp only [execOp, evF]; rfl) ⟨Gr.refl _, q39⟩
    · intro f w' g hF hD
      rw [if_pos (wanted_none rfl)]
      clear hF hD
      exact gives_val (by simp only [execOp, evF]; first | rfl | go_simp) ⟨Gr.refl _, rfl⟩
  intro f' w4 g hD
  have h2 : OwnB w4 w.heap.size (f' 2) (encF (crF 0 [numL V 1, numL f1 4, numL M 1, numL f2 4, l1, l2])) := hD 26 2 rfl
  have h3 : f' 3 = .int .i64 0 := hD 27 3 rfl
  have HO := Lib.hid h2
  have HB4 := Lib.hid (HB3.out.trans (((below_drewN (Below.refl _ _) 1).trans g).mono HB3.out.size))
  obtain ⟨v2, ev2⟩ : ∃ v2, v2 = f' 2 := ⟨_, rfl⟩
  rw [← ev2] at HO
  simp only [putAll, List.setIfInBounds_toArray, List.set_cons_zero, List.set_cons_succ, h3, ← ev2]
  clear h2 h3 hD g z0 z1 z2 z3 hwF1 hwF2 hwV hwM hgb hM hV ev2
  go_wp2_with (fail)
  go_ret2
  rw [EE.out, EL.out]
  exact ⟨_, rfl, HO.out, HB4.out⟩
end Go.Proofs.Ytcffinkkfdfcaaa

/- What the reference's PutSelect lays. Conditions: features of their kind; arrays of sixteen and of thirty-two bytes. -/
namespace Go.Proofs.Ytcffinkkfdfcaaa
open Go Go.RowKit

set_option maxRecDepth 100000 in
set_option maxHeartbeats 4000000 in
theorem refPutSelect_c (v : Int) (f1 : Nat) (mx : Int) (f2 : Nat) (l1 l2 : List UInt8) (hf1 : f1 < 4294967296) (hf2 : f2 < 4294967296) (h1 : l1.length = 16) (h2 : l2.length = 32) (w : World) :
    Calls Try.prog 18 #[.agg (selI v f1 mx f2 l1 l2)] w fun r w' => ∃ x, r = .returned (.tuple #[x, .int .i64 (putS v f1 mx f2 l1 l2).1]) ∧ OwnB w' w.heap.size x (putS v f1 mx f2 l1 l2).2 ∧ Below w.heap.size w w' := by
  obtain ⟨w1, ew1⟩ : ∃ w1, w1 = w.alloc (.cells (selI v f1 mx f2 l1 l2) 49) := ⟨_, rfl⟩
  obtain ⟨gb, egb⟩ : ∃ gb, gb = w.heap.size := ⟨_, rfl⟩
  have b1 : Below w.heap.size w w1 := by rw [ew1]; exact (Below.refl _ _).alloc (Nat.le_refl _) _
  have HH1 : Hid (w1.heap[gb]? = some (.cells (selI v f1 mx f2 l1 l2) 49 (0, 0))) := Lib.hid (by rw [ew1, egb]; exact heap_alloc_new w _)
  have x0 : w1.cell? ⟨gb, 0, none⟩ = some (.int .i64 v) := (heap_cell HH1.out 0).trans rfl
  have x1 : w1.cell? ⟨gb, 1, none⟩ = some (.int .u32 (f1 : Int)) := (heap_cell HH1.out 1).trans rfl
  have HB1 := Lib.hid b1
  have HL1 := Lib.hid h1
  have HL2 := Lib.hid h2
  have HF1 := Lib.hid hf1
  have HF2 := Lib.hid hf2
  have EW1 := Lib.hid ew1
  have EGB := Lib.hid egb
  obtain ⟨E, eE⟩ : ∃ E, (putS v f1 mx f2 l1 l2).1 = E := ⟨_, rfl⟩
  obtain ⟨L, eL⟩ : ∃ L, (putS v f1 mx f2 l1 l2).2 = L := ⟨_, rfl⟩
  rw [eE, eL]
  have HE := Lib.hid eE
  have HLL := Lib.hid eL
  clear ew1 egb b1 h1 h2 hf1 hf2 eE eL
  go_enter Try.func18, Try.ntmps18
  go_upto_region 1 with (fail)
  rw [← EW1.out, ← EGB.out]
  go_wp2_with (fail)
  refine (refMay14_c v f1 HF1.out w1).mono ?_
  rintro _ w2 ⟨rfl, hb2⟩
  obtain ⟨O1, eO1⟩ : ∃ O, mayF v f1 = O := ⟨_, rfl⟩
  rw [eO1]
  have HO1 := Lib.hid eO1
  have HB2 := Lib.hid (HB1.out.trans (hb2.mono HB1.out.size))
  have HH2 := Lib.hid ((hb2.block gb (heap_lt HH1.out)).trans HH1.out)
  clear hb2 eO1 x0 x1
  cases O1 with
  | false =>
    have hE : E = 1 := by rw [← HE.out]; unfold putS; rw [HO1.out]; rfl
    have hL : L = [] := by rw [← HLL.out]; unfold putS; rw [HO1.out]; rfl
    have EE := Lib.hid hE
    have EL := Lib.hid hL
    clear hE hL
    go_wp2_with (fail)
    go_ret2
    rw [EE.out, EL.out]
    exact ⟨_, rfl, Own.nil_ _ _ _, HB2.out⟩
  | true =>
  have z0 : w2.cell? ⟨gb, 0, none⟩ = some (.int .i64 v) := (heap_cell HH2.out 0).trans rfl
  have z1 : w2.cell? ⟨gb, 1, none⟩ = some (.int .u32 (f1 : Int)) := (heap_cell HH2.out 1).trans rfl
  have z2 : w2.cell? ⟨gb, 2, none⟩ = some (.int .i64 mx) := (heap_cell HH2.out 2).trans rfl
  have z3 : w2.cell? ⟨gb, 3, none⟩ = some (.int .u32 (f2 : Int)) := (heap_cell HH2.out 3).trans rfl
  by_cases h1 : mx < 1
  · have eO : offI mx = false := decide_eq_false (by omega)
    have hE : E = 1 := by rw [← HE.out]; unfold putS; rw [HO1.out, eO]; rfl
    have hL : L = [] := by rw [← HLL.out]; unfold putS; rw [HO1.out, eO]; rfl
    have d1 : decide (mx < (1 : Int)) = true := decide_eq_true h1
    have EE := Lib.hid hE
    have EL := Lib.hid hL
    clear hE hL eO h1
    go_wp2_with (fail)
    go_ret2
    rw [EE.out, EL.out]
    exact ⟨_, rfl, Own.nil_ _ _ _, HB2.out⟩
  by_cases h3 : 3 < mx
  · have eO : offI mx = false := decide_eq_false (by omega)
    have hE : E = 1 := by rw [← HE.out]; unfold putS; rw [HO1.out, eO]; rfl
    have hL : L = [] := by rw [← HLL.out]; unfold putS; rw [HO1.out, eO]; rfl
    have d1 : decide (mx < (1 : Int)) = false := decide_eq_false h1
    have d3 : decide ((3 : Int) < mx) = true := decide_eq_true h3
    have EE := Lib.hid hE
    have EL := Lib.hid hL
    clear hE hL eO h1 h3
    go_wp2_with (fail)
    go_ret2
    rw [EE.out, EL.out]
    exact ⟨_, rfl, Own.nil_ _ _ _, HB2.out⟩
  have eO : offI mx = true := decide_eq_true (by omega)
  have d1 : decide (mx < (1 : Int)) = false := decide_eq_false h1
  have d3 : decide ((3 : Int) < mx) = false := decide_eq_false h3
  obtain ⟨hv1, hv3⟩ := mayF_in HO1.out
  obtain ⟨V, rfl⟩ : ∃ V : Nat, v = (V : Int) := ⟨v.toNat, by omega⟩
  obtain ⟨M, rfl⟩ : ∃ M : Nat, mx = (M : Int) := ⟨mx.toNat, by omega⟩
  have hE : E = 0 := by rw [← HE.out]; unfold putS; rw [HO1.out, eO]; rfl
  have hL : L = encF (crF 0 [[lo V], numL f1 4, [lo M], numL f2 4, l1, l2]) := by rw [← HLL.out, ← numL_one, ← numL_one]; unfold putS; rw [HO1.out, eO]; rfl
  have EE := Lib.hid hE
  have EL := Lib.hid hL
  have hV : V < 256 := by omega
  have hM : M < 256 := by omega
  have VF1 : Hid (U64 f1) := Lib.hid (by have := HF1.out; unfold U64; omega)
  have VF2 : Hid (U64 f2) := Lib.hid (by have := HF2.out; unfold U64; omega)
  have hwF1 := u32w HF1.out
  have hwF2 := u32w HF2.out
  have hwV := u8w2 hV
  have hwM := u8w2 hM
  have HLV := Lib.hid (lo_bw hV)
  have HLM := Lib.hid (lo_bw hM)
  have hgb : gb < w2.heap.size := heap_lt HH2.out
  have HR1 := Lib.hid (selI_rd1 HH2.out)
  have HR2 := Lib.hid (selI_rd2 HL1.out HH2.out)
  have hbs : ∀ b ∈ [[lo V], numL f1 4, [lo M], numL f2 4, l1, l2], b.length ≤ 4096 := by
    intro b hb
    simp at hb
    rcases hb with rfl | rfl | rfl | rfl | rfl | rfl
    · simp
    · rw [numL_length]; decide
    · simp
    · rw [numL_length]; decide
    · rw [HL1.out]; decide
    · rw [HL2.out]; decide
  have HBS := Lib.hid hbs
  clear hE hL hv1 hv3 eO hbs h1 h3
  go_upto_region 3 with (fail)
  refine wp_region_rw 46 [Rl.eq (.pointer (some ⟨gb, 0, none⟩)), Rl.eq (.pointer (some ⟨gb, 0, none⟩)), Rl.eq (.int .i64 (V : Int)), Rl.eq (.int .u8 (V : Int)), Rl.txt 1 ([lo V]), Rl.eq (.pointer (some ⟨gb, 0, none⟩)), Rl.eq (.pointer (some ⟨gb, 1, none⟩)), Rl.eq (.int .u32 (f1 : Int)), Rl.eq (.int .u64 (f1 : Int)), Rl.txt 4 (numL f1 4), Rl.eq (.pointer (some ⟨gb, 2, none⟩)), Rl.eq (.pointer (some ⟨gb, 2, none⟩)), Rl.eq (.int .i64 (M : Int)), Rl.eq (.int .u8 (M : Int)), Rl.txt 1 ([lo M]), Rl.eq (.pointer (some ⟨gb, 2, none⟩)), Rl.eq (.pointer (some ⟨gb, 3, none⟩)), Rl.eq (.int .u32 (f2 : Int)), Rl.eq (.int .u64 (f2 : Int)), Rl.txt 4 (numL f2 4), Rl.eq (.pointer (some ⟨gb, 4, none⟩)), Rl.eq (.slice (some ⟨gb, 4, none⟩) 16 16), Rl.eq (.pointer (some ⟨gb, 20, none⟩)), Rl.eq (.slice (some ⟨gb, 20, none⟩) 32 32), Rl.sls 6 [[lo V], numL f1 4, [lo M], numL f2 4, l1, l2], Rl.own w.heap.size (encF (crF 0 [[lo V], numL f1 4, [lo M], numL f2 4, l1, l2])), Rl.own w.heap.size (encF (crF 0 [[lo V], numL f1 4, [lo M], numL f2 4, l1, l2])), Rl.eq (.int .i64 0)] [20, 21, 22, 23, 24, 25, 26, 27, 28, 29, 30, 31, 32, 33, 34, 35, 36, 37, 38, 39, 40, 41, 42, 43, 44, 45, 2, 3] (by kernel_rfl) rfl (by kernel_rfl) (by kernel_rfl) ?_ ?_
  · repeat (first | exact AllFrom.nil_ | (refine AllFrom.cons_ (by rfl) ?_ ?_; rotate_left))
    · intro f w' g hF hD
      have h1 : f 1 = .pointer (some ⟨gb, 0, none⟩) := hF 1 (by kernel_rfl)
      rw [if_pos (wanted_none rfl)]
      clear hF hD
      exact gives_val (by simp only [execOp, evF, h1]; first | rfl | go_simp) ⟨Gr.refl _, rfl⟩
    · intro f w' g hF hD
      have h20 : f 20 = (.pointer (some ⟨gb, 0, none⟩)) := hD 0 20 (by kernel_rfl) rfl
      rw [if_pos (wanted_none rfl)]
      clear hF hD
      exact gives_val (by simp only [execOp, evF, h20]; first | rfl | go_simp) ⟨Gr.refl _, rfl⟩
    · intro f w' g hF hD
      have h21 : f 21 = (.pointer (some ⟨gb, 0, none⟩)) := hD 1 21 (by kernel_rfl) rfl
      rw [if_pos (wanted_none rfl)]
      clear hF hD
      have cl : w'.cell? ⟨gb, 0, none⟩ = some (.int .i64 (V : Int)) := (g.cell (p := ⟨gb, 0, none⟩) hgb).trans z0
      exact gives_val (by simp only [execOp, evF, h21]; go_simp) ⟨Gr.refl _, rfl⟩
    · intro f w' g hF hD
      have h22 : f 22 = (.int .i64 (V : Int)) := hD 2 22 (by kernel_rfl) rfl
      rw [if_pos (wanted_none rfl)]
      clear hF hD
      exact gives_val (by simp only [execOp, evF, h22]; first | rfl | go_simp) ⟨Gr.refl _, rfl⟩
    · intro f w' g hF hD
      have h23 : f 23 = (.int .u8 (V : Int)) := hD 3 23 (by kernel_rfl) rfl
      rw [if_pos (wanted_none rfl)]
      clear hF hD
      have r1 : Rd (w'.alloc (.cells #[.int .u8 (V : Int)] 5)) (some ⟨w'.heap.size, 0, none⟩) ([lo V].map bv) := by
        rw [HLV.out]; exact Rd.lit w' ([lo V].map bv) _
      exact gives_val (v := .slice (some ⟨w'.heap.size, 0, none⟩) 1 1) (by simp only [execOp, evF, h23]; first | rfl | go_simp) ⟨(Below.refl _ _).alloc (Nat.le_refl _) _, some ⟨w'.heap.size, 0, none⟩, 1, rfl, rfl, r1, Nat.le_refl _, by decide⟩
    · intro f w' g hF hD
      have h1 : f 1 = .pointer (some ⟨gb, 0, none⟩) := hF 1 (by kernel_rfl)
      rw [if_pos (wanted_none rfl)]
      clear hF hD
      exact gives_val (by simp only [execOp, evF, h1]; first | rfl | go_simp) ⟨Gr.refl _, rfl⟩
    · intro f w' g hF hD
      have h25 : f 25 = (.pointer (some ⟨gb, 0, none⟩)) := hD 5 25 (by kernel_rfl) rfl
      rw [if_pos (wanted_none rfl)]
      clear hF hD
      exact gives_val (by simp only [execOp, evF, h25]; first | rfl | go_simp) ⟨Gr.refl _, rfl⟩
    · intro f w' g hF hD
      have h26 : f 26 = (.pointer (some ⟨gb, 1, none⟩)) := hD 6 26 (by kernel_rfl) rfl
      rw [if_pos (wanted_none rfl)]
      clear hF hD
      have cl : w'.cell? ⟨gb, 1, none⟩ = some (.int .u32 (f1 : Int)) := (g.cell (p := ⟨gb, 1, none⟩) hgb).trans z1
      exact gives_val (by simp only [execOp, evF, h26]; go_simp) ⟨Gr.refl _, rfl⟩
    · intro f w' g hF hD
      have h27 : f 27 = (.int .u32 (f1 : Int)) := hD 7 27 (by kernel_rfl) rfl
      rw [if_pos (wanted_none rfl)]
      clear hF hD
      exact gives_val (by simp only [execOp, evF, h27]; first | rfl | go_simp) ⟨Gr.refl _, rfl⟩
    · intro f w' g hF hD
      have h28 : f 28 = (.int .u64 (f1 : Int)) := hD 8 28 (by kernel_rfl) rfl
      rw [if_pos (wanted_none rfl)]
      clear hF hD
      refine gives_func rfl Try.func37 (by kernel_rfl) rfl (by simp only [List.map_toArray, List.map_cons, List.map_nil, evF, h28]) ((refNum_c f1 4 w' VF1.out).mono ?_)
      rintro e w'' ⟨x, rfl, ho, hb⟩
      rw [nm4] at ho
      obtain ⟨A5, c5, rfl, hc5, hm5, r5, _⟩ := OwnB.form ho
      rw [numL_length] at hc5 ⊢
      exact ⟨_, rfl, hb, _, _, rfl, numL_length _ _, r5, hc5, hm5⟩
    · intro f w' g hF hD
      have h1 : f 1 = .pointer (some ⟨gb, 0, none⟩) := hF 1 (by kernel_rfl)
      rw [if_pos (wanted_none rfl)]
      clear hF hD
      exact gives_val (by simp only [execOp, evF, h1]; first | rfl | go_simp) ⟨Gr.refl _, rfl⟩
    · intro f w' g hF hD
      have h30 : f 30 = (.pointer (some ⟨gb, 2, none⟩)) := hD 10 30 (by kernel_rfl) rfl
      rw [if_pos (wanted_none rfl)]
      clear hF hD
      exact gives_val (by simp only [execOp, evF, h30]; first | rfl | go_simp) ⟨Gr.refl _, rfl⟩
    · intro f w' g hF hD
      have h31 : f 31 = (.pointer (some ⟨gb, 2, none⟩)) := hD 11 31 (by kernel_rfl) rfl
      rw [if_pos (wanted_none rfl)]
      clear hF hD
      have cl : w'.cell? ⟨gb, 2, none⟩ = some (.int .i64 (M : Int)) := (g.cell (p := ⟨gb, 2, none⟩) hgb).trans z2
      exact gives_val (by simp only [execOp, evF, h31]; go_simp) ⟨Gr.refl _, rfl⟩
    · intro f w' g hF hD
      have h32 : f 32 = (.int .i64 (M : Int)) := hD 12 32 (by kernel_rfl) rfl
      rw [if_pos (wanted_none rfl)]
      clear hF hD
      exact gives_val (by simp only [execOp, evF, h32]; first | rfl | go_simp) ⟨Gr.refl _, rfl⟩
    · intro f w' g hF hD
      have h33 : f 33 = (.int .u8 (M : Int)) := hD 13 33 (by kernel_rfl) rfl
      rw [if_pos (wanted_none rfl)]
      clear hF hD
      have r1 : Rd (w'.alloc (.cells #[.int .u8 (M : Int)] 5)) (some ⟨w'.heap.size, 0, none⟩) ([lo M].map bv) := by
        rw [HLM.out]; exact Rd.lit w' ([lo M].map bv) _
      exact gives_val (v := .slice (some ⟨w'.heap.size, 0, none⟩) 1 1) (by simp only [execOp, evF, h33]; first | rfl | go_simp) ⟨(Below.refl _ _).alloc (Nat.le_refl _) _, some ⟨w'.heap.size, 0, none⟩, 1, rfl, rfl, r1, Nat.le_refl _, by decide⟩
    · intro f w' g hF hD
      have h1 : f 1 = .pointer (some ⟨gb, 0, none⟩) := hF 1 (by kernel_rfl)
      rw [if_pos (wanted_none rfl)]
      clear hF hD
      exact gives_val (by simp only [execOp, evF, h1]; first | rfl | go_simp) ⟨Gr.refl _, rfl⟩
    · intro f w' g hF hD
      have h35 : f 35 = (.pointer (some ⟨gb, 2, none⟩)) := hD 15 35 (by kernel_rfl) rfl
      rw [if_pos (wanted_none rfl)]
      clear hF hD
      exact gives_val (by simp only [execOp, evF, h35]; first | rfl | go_simp) ⟨Gr.refl _, rfl⟩
    · intro f w' g hF hD
      have h36 : f 36 = (.pointer (some ⟨gb, 3, none⟩)) := hD 16 36 (by kernel_rfl) rfl
      rw [if_pos (wanted_none rfl)]
      clear hF hD
      have cl : w'.cell? ⟨gb, 3, none⟩ = some (.int .u32 (f2 : Int)) := (g.cell (p := ⟨gb, 3, none⟩) hgb).trans z3
      exact gives_val (by simp only [execOp, evF, h36]; go_simp) ⟨Gr.refl _, rfl⟩
    · intro f w' g hF hD
      have h37 : f 37 = (.int .u32 (f2 : Int)) := hD 17 37 (by kernel_rfl) rfl
      rw [if_pos (wanted_none rfl)]
      clear hF hD
      exact gives_val (by simp only [execOp, evF, h37]; first | rfl | go_simp) ⟨Gr.refl _, rfl⟩
    · intro f w' g hF hD
      have h38 : f 38 = (.int .u64 (f2 : Int)) := hD 18 38 (by kernel_rfl) rfl
      rw [if_pos (wanted_none rfl)]
      clear hF hD
      refine gives_func rfl Try.func37 (by kernel_rfl) rfl (by simp only [List.map_toArray, List.map_cons, List.map_nil, evF, h38]) ((refNum_c f2 4 w' VF2.out).mono ?_)
      rintro e w'' ⟨x, rfl, ho, hb⟩
      rw [nm4] at ho
      obtain ⟨A5, c5, rfl, hc5, hm5, r5, _⟩ := OwnB.form ho
      rw [numL_length] at hc5 ⊢
      exact ⟨_, rfl, hb, _, _, rfl, numL_length _ _, r5, hc5, hm5⟩
    · intro f w' g hF hD
      have h1 : f 1 = .pointer (some ⟨gb, 0, none⟩) := hF 1 (by kernel_rfl)
      rw [if_pos (wanted_none rfl)]
      clear hF hD
      exact gives_val (by simp only [execOp, evF, h1]; first | rfl | go_simp) ⟨Gr.refl _, rfl⟩
    · intro f w' g hF hD
      have h40 : f 40 = (.pointer (some ⟨gb, 4, none⟩)) := hD 20 40 (by kernel_rfl) rfl
      rw [if_pos (wanted_none rfl)]
      clear hF hD
      exact gives_val (by simp only [execOp, evF, h40]; first | rfl | go_simp) ⟨Gr.refl _, rfl⟩
    · intro f w' g hF hD
      have h1 : f 1 = .pointer (some ⟨gb, 0, none⟩) := hF 1 (by kernel_rfl)
      rw [if_pos (wanted_none rfl)]
      clear hF hD
      exact gives_val (by simp only [execOp, evF, h1]; first | rfl | go_simp) ⟨Gr.refl _, rfl⟩
    · intro f w' g hF hD
      have h42 : f 42 = (.pointer (some ⟨gb, 20, none⟩)) := hD 22 42 (by kernel_rfl) rfl
      rw [if_pos (wanted_none rfl)]
      clear hF hD
      exact gives_val (by simp only [execOp, evF, h42]; first | rfl | go_simp) ⟨Gr.refl _, rfl⟩
    · intro f w' g hF hD
      have q24 := hD 4 24 (by kernel_rfl) rfl
      have q29 := hD 9 29 (by kernel_rfl) rfl
      have q34 := hD 14 34 (by kernel_rfl) rfl
      have q39 := hD 19 39 (by kernel_rfl) rfl
      have h41 : f 41 = (.slice (some ⟨gb, 4, none⟩) 16 16) := hD 21 41 (by kernel_rfl) rfl
      have h43 : f 43 = (.slice (some ⟨gb, 20, none⟩) 32 32) := hD 23 43 (by kernel_rfl) rfl
      rw [if_pos (wanted_none rfl)]
      clear hF hD
      obtain ⟨A0, c0, h24, q0⟩ := q24
      obtain ⟨A1, c1, h29, q1⟩ := q29
      obtain ⟨A2, c2, h34, q2⟩ := q34
      obtain ⟨A3, c3, h39, q3⟩ := q39
      have kg : Below w2.heap.size w2 w' := (below_drewN (Below.refl _ _) 1).trans g
      have r3 := rds6 w' q0 q1 q2 q3 (A4 := some ⟨gb, 4, none⟩) (c4 := 16) ⟨HL1.out, HR1.out.below kg, Nat.le_refl _, by decide⟩ (A5 := some ⟨gb, 20, none⟩) (c5 := 32) ⟨HL2.out, HR2.out.below kg, Nat.le_refl _, by decide⟩
      exact gives_val (v := .slice (some ⟨w'.heap.size, 0, none⟩) 6 6) (by simp only [execOp, evF, h41, h43, h24, h29, h34, h39]; first | rfl | go_simp) ⟨(Below.refl _ _).alloc (Nat.le_refl _) _, some ⟨w'.heap.size, 0, none⟩, 6, rfl, r3⟩
    · intro f w' g hF hD
      have q44 := hD 24 44 (by kernel_rfl) rfl
      rw [if_pos (wanted_none rfl)]
      clear hF hD
      obtain ⟨A0, c0, h44, q0⟩ := q44
      have kg : Below w2.heap.size w2 w' := (below_drewN (Below.refl _ _) 1).trans g
      refine gives_func rfl Try.func44 (by kernel_rfl) rfl (by simp only [List.map_toArray, List.map_cons, List.map_nil, evF, h44]) ((critical_c A0 6 c0 [[lo V], numL f1 4, [lo M], numL f2 4, l1, l2] w' rfl q0 (by decide) HBS.out).mono ?_)
      rintro e w'' ⟨x, rfl, ho, hb⟩
      exact ⟨_, rfl, hb, Own.low ho (Nat.le_trans HB2.out.size kg.size)⟩
    · intro f w' g hF hD
      have q45 := hD 25 45 (by kernel_rfl) rfl
      rw [if_pos (wanted_none rfl)]
      clear hF hD
      exact gives_val (v := f 45) (by simp only [execOp, evF]; rfl) ⟨Gr.refl _, q45⟩
    · intro f w' g hF hD
      rw [if_pos (wanted_none rfl)]
      clear hF hD
      exact gives_val (by simp only [execOp, evF]; first | rfl | go_simp) ⟨Gr.refl _, rfl⟩
  intro f' w4 g hD
  have h2 : OwnB w4 w.heap.size (f' 2) (encF (crF 0 [[lo V], numL f1 4, [lo M], numL f2 4, l1, l2])) := hD 26 2 rfl
  have h3 : f' 3 = .int .i64 0 := hD 27 3 rfl
  have HO := Lib.hid h2
  have HB4 := Lib.hid (HB2.out.trans (((below_drewN (Below.refl _ _) 1).trans g).mono HB2.out.size))
  obtain ⟨v2, ev2⟩ : ∃ v2, v2 = f' 2 := ⟨_, rfl⟩
  rw [← ev2] at HO
  simp only [putAll, List.setIfInBounds_toArray, List.set_cons_zero, List.set_cons_succ, h3, ← ev2]
  clear h2 h3 hD g d1 d3 z0 z1 z2 z3 hwF1 hwF2 hwV hwM hgb hM hV ev2
  go_wp2_with (fail)
  go_ret2
  rw [EE.out, EL.out]
  exact ⟨_, rfl, HO.out, HB4.out⟩
end Go.Proofs.Ytcffinkkfdfcaaa

/- How a law's argument is opened: an event by value; a slice of events. Conditions: none. -/
namespace Go.Proofs.Ytcffinkkfdfcaaa
open Go Go.RowKit Go.ChangeShapes Go.WideShapes

/-- The fields of an event's type. -/
structure EvT (P : Program) (t : TypeId) (f0 f1 f2 f3 f4 : Field) (e : TypeId) : Prop where
  hs : P.underlying t = some (.struct #[f0, f1, f2, f3, f4])
  hone : Deep.oneCellFields P #[f0, f1, f2, f3, f4] = true
  hC : P.cellsOf t = 5
  h0 : P.underlying f0.type = some (.int .i64)
  h1 : P.underlying f1.type = some (.slice e)
  h2 : P.underlying f2.type = some (.int .i64)
  h3 : P.underlying f3.type = some (.int .i64)
  h4 : P.underlying f4.type = some (.int .i64)
  he : P.underlying e = some (.int .u8)
  hc : P.cellsOf e = 1
  hb : P.bytesOf e = 1

theorem open_txt {H : Type} {enc : TypeId × Value → H} {P : Program} {W : World} {t e fuel : Nat} {u : Value} {y : DataW H × List MemPlace} (ht : P.underlying t = some (.slice e)) (he : P.underlying e = some (.int .u8)) (hc : P.cellsOf e = 1) (hb : P.bytesOf e = 1)
    (hf : DataW.trod enc P W 0 (fun _ => true) true fuel t [u] = some y) :
    ∃ (A : Option Addr) (m c : Nat) (bs : List UInt8), u = .slice A m c ∧ bs.length = m ∧ Rd W A (bs.map bv) ∧ m ≤ c ∧ c ≤ maxLen ∧ ((∀ n ∈ y.1.weights P t, n ≤ reachBytes) → m ≤ 140737488351232) := by
  rcases open_ints ht he hc hf with ⟨hcs, _⟩ | ⟨x, l, c, zs, hcs, _, hl, hm, hz, hx, hcell, hwz⟩
  · injection hcs with hcs _
    subst hcs
    exact ⟨none, 0, 0, [], rfl, rfl, .inl rfl, Nat.le_refl _, Nat.zero_le _, fun _ => by decide⟩
  · injection hcs with hcs _
    subst hcs
    subst hx
    simp only [if_true] at hz
    obtain ⟨bs, g1, g2⟩ := rd_of_ints (len := l) (by omega) hcell hwz
    refine ⟨some x, l, c, bs, rfl, g1, g2, hl, hm, fun hw => ?_⟩
    have h := hw ((zs.take l).length + (zs.drop l).length) (by
      simp only [DataW.weights, ht, List.mem_cons]
      left
      rw [hb]
      simp [lits])
    simp only [List.length_take, List.length_drop, reachBytes] at h
    omega

theorem open_ev {H : Type} {enc : TypeId × Value → H} {P : Program} {W : World} {t e fuel : Nat} {f0 f1 f2 f3 f4 : Field} (T : EvT P t f0 f1 f2 f3 f4 e) {cs : List Value} {x : DataW H × List MemPlace} (hf : DataW.trod enc P W 0 (fun _ => true) true fuel t cs = some x) :
    ∃ (k : Int) (A : Option Addr) (m c : Nat) (X Y b : Int) (bs : List UInt8), cs = [.int .i64 k, .slice A m c, .int .i64 X, .int .i64 Y, .int .i64 b] ∧ bs.length = m ∧ Rd W A (bs.map bv) ∧ m ≤ c ∧ c ≤ maxLen ∧ ((∀ n ∈ x.1.weights P t, n ≤ reachBytes) → m ≤ 140737488351232) := by
  obtain ⟨ys, n, _, rfl, hl, hlen, hg⟩ := DataW.trod_struct T.hs hf
  rw [T.hC] at hl
  obtain ⟨o0, k0⟩ := Deep.hone_of T.hone 0 f0 rfl
  obtain ⟨o1, k1⟩ := Deep.hone_of T.hone 1 f1 rfl
  obtain ⟨o2, k2⟩ := Deep.hone_of T.hone 2 f2 rfl
  obtain ⟨o3, k3⟩ := Deep.hone_of T.hone 3 f3 rfl
  obtain ⟨o4, k4⟩ := Deep.hone_of T.hone 4 f4 rfl
  match cs, hl, ys, hlen with
  | [u0, u1, u2, u3, u4], _, [y0, y1, y2, y3, y4], _ =>
    have g0 := hg 0 f0 rfl
    have g1 := hg 1 f1 rfl
    have g2 := hg 2 f2 rfl
    have g3 := hg 3 f3 rfl
    have g4 := hg 4 f4 rfl
    rw [o0, k0] at g0
    rw [o1, k1] at g1
    rw [o2, k2] at g2
    rw [o3, k3] at g3
    rw [o4, k4] at g4
    obtain ⟨a0, e0, _, _⟩ := DataW.trod_int T.h0 g0
    obtain ⟨a2, e2, _, _⟩ := DataW.trod_int T.h2 g2
    obtain ⟨a3, e3, _, _⟩ := DataW.trod_int T.h3 g3
    obtain ⟨a4, e4, _, _⟩ := DataW.trod_int T.h4 g4
    obtain ⟨A, m, c, bs, eu, q1, q2, q3, q4, q5⟩ := open_txt T.h1 T.he T.hc T.hb g1
    simp at e0 e2 e3 e4
    subst e0 e2 e3 e4 eu
    refine ⟨a0, A, m, c, a2, a3, a4, bs, rfl, q1, q2, q3, q4, fun hw => q5 (fun n hn => hw n ?_)⟩
    simp only [DataW.weights, T.hs]
    exact DataW.weights_mem_each (j := 1) (t := f1.type) (d := y1.1) (by simp) (by simp) n hn

theorem opn_ev {H : Type} {enc : TypeId × Value → H} {P : Program} {W : World} {base t e j : Nat} {f0 f1 f2 f3 f4 : Field} (T : EvT P t f0 f1 f2 f3 f4 e) {v : Value} {d : DataW H} {p : List MemPlace} {ts : List TypeId} {ds : List (DataW H)}
    (hv : Value.okWide P W .any base t v) (hj : DataW.Trod enc P W 0 (fun _ => true) true t v d p) (hsz : (DataW.weightsEach P ts ds).all (· ≤ reachBytes) = true) (k1 : ts[j]? = some t) (k2 : ds[j]? = some d) :
    ∃ (k : Int) (A : Option Addr) (n c : Nat) (x y b : Int) (bs : List UInt8), v = .agg #[.int .i64 k, .slice A n c, .int .i64 x, .int .i64 y, .int .i64 b] ∧ (bs.length = n ∧ Rd W A (bs.map bv) ∧ n ≤ c ∧ c ≤ maxLen ∧ n ≤ 140737488351232) := by
  obtain ⟨cs, rfl, hsz2⟩ := okWide_struct T.hs hv
  obtain ⟨fuel, hf⟩ := hj
  obtain ⟨k, A, m, c, x, y, b, bs, hcs, q1, q2, q3, q4, q5⟩ := open_ev T hf
  refine ⟨k, A, m, c, x, y, b, bs, ?_, q1, q2, q3, q4, q5 (fun n hn => ?_)⟩
  · congr 1
    apply Array.ext'
    simpa [Value.cells] using hcs
  · exact of_decide_eq_true (List.all_eq_true.1 hsz n (DataW.weights_mem_each k1 k2 n hn))

theorem opn_evs {H : Type} {enc : TypeId × Value → H} {P : Program} {W : World} {base t et e j : Nat} {f0 f1 f2 f3 f4 : Field} (ht : P.underlying t = some (.slice et)) (hB : P.bytesOf et = 56) (T : EvT P et f0 f1 f2 f3 f4 e) {v : Value} {d : DataW H} {p : List MemPlace} {ts : List TypeId} {ds : List (DataW H)}
    (hv : Value.okWide P W .any base t v) (hj : DataW.Trod enc P W 0 (fun _ => true) true t v d p) (hsz : (DataW.weightsEach P ts ds).all (· ≤ reachBytes) = true) (k1 : ts[j]? = some t) (k2 : ds[j]? = some d) :
    ∃ (A : Option Addr) (n c : Nat) (dv : List EvV) (es : List Ev), v = .slice A n c ∧ (es.length = n ∧ EvsR (· < W.heap.size) W A dv es ∧ n ≤ c ∧ c ≤ maxLen ∧ n ≤ 2513169434843) := by
  obtain ⟨a0, len, cap, rfl⟩ := okWide_slice ht hv
  obtain ⟨fuel, hf⟩ := hj
  rcases Deep.open_slice ht hf with ⟨hcs, _⟩ | ⟨a, l, c, m, n, D, Pl, hcs, _, hl, hm, hmm, hx, hcell⟩
  · simp [Value.cells] at hcs
    obtain ⟨rfl, rfl, rfl⟩ := hcs
    exact ⟨none, 0, 0, [], [], rfl, rfl, ⟨rfl, .inl rfl, fun _ a e => (by cases e), fun i h => absurd h (by simp)⟩, Nat.le_refl _, Nat.zero_le _, by decide⟩
  · simp [Value.cells] at hcs
    obtain ⟨rfl, rfl, rfl⟩ := hcs
    simp only [if_true] at hmm
    subst hmm
    simp only [Prod.mk.injEq] at hx
    obtain ⟨rfl, _⟩ := hx
    have hb := sized_slice hsz k1 k2 ht
    rw [hB] at hb
    simp only [List.length_map, List.length_range, reachBytes] at hb
    have each : ∀ i, i < len → ∃ z : EvV × Ev, (∀ q (hq : q < 5), W.cell? (a.add (i * 5 + q)) = (z.1.cells)[q]?) ∧ EvR (· < W.heap.size) W z.1 z.2 := by
      intro i hi
      obtain ⟨cs', g1, g2⟩ := hcell i (by omega)
      rw [T.hC] at g1
      obtain ⟨_, hlen, hg⟩ := World.cells?_some g1
      obtain ⟨k, A, m', c', x, y, b, bs, hcs, q1, q2, q3, q4, q5⟩ := open_ev T g2
      have hm' : m' ≤ 140737488351232 := q5 (fun n hn => of_decide_eq_true (List.all_eq_true.1 hsz n (DataW.weights_mem_each k1 k2 n (by
        simp only [DataW.weights, ht, List.mem_cons, List.mem_append]
        exact Or.inr (Or.inl (weightsAll_mem (List.mem_map.2 ⟨i, List.mem_range.2 hi, rfl⟩) n hn))))))
      refine ⟨(⟨k, A, m', c', x, y, b⟩, ⟨k, bs, x, y, b⟩), fun q hq => ?_, rfl, rfl, rfl, rfl, q1, q2, q3, q4, fun h0 a' e => ?_, (show m' ≤ 140737488355328 by omega)⟩
      · rw [← Deep.add_add]
        subst hcs
        have := hg q (by simpa using hq)
        rw [this]
        rfl
      · rcases q2 with h | ⟨b', off, rfl, hb', _⟩
        · have h0' : 0 < m' := h0
          have : bs = [] := by simpa using h
          rw [this, List.length_nil] at q1
          omega
        · injection e with e; subst e; exact hb'
    obtain ⟨zs, hz1, hz2⟩ := list_of_all len each
    have hcellz : ∀ i (hi : i < zs.length) q, q < 5 → W.cell? (a.add (i * 5 + q)) = (cellsV (zs.map (·.1)))[i * 5 + q]? := by
      intro i hi q hq
      rw [cellsV_get _ i (by simpa using hi) q hq, (hz2 i hi).1 q hq]
      simp
    have hblk : 0 < len → a.spot = none ∧ a.block < W.heap.size := by
      intro h0
      have h := hcellz 0 (by omega) 0 (by decide)
      have hc0 : (cellsV (zs.map (·.1)))[0 * 5 + 0]? ≠ none := by
        rw [List.getElem?_eq_getElem (by rw [cellsV_length, List.length_map]; omega)]
        simp
      have h2 : ∃ u, W.cell? a = some u := by
        have e1 : a.add (0 * 5 + 0) = a := by simp [Addr.add]
        rw [e1] at h
        rw [← h] at hc0
        exact Option.ne_none_iff_exists'.1 hc0
      obtain ⟨u, hu⟩ := h2
      exact ⟨World.cell?_spot hu, World.block_lt_of_cell? W a hu⟩
    refine ⟨some a, len, _, zs.map (·.1), zs.map (·.2), rfl, by simpa using hz1, ⟨by simp, ?_, fun h0 a' e => ?_, fun i h1 h2 => ?_⟩, hl, hm, by omega⟩
    · rcases Nat.eq_zero_or_pos len with h0 | h0
      · left
        have : zs = [] := List.eq_nil_of_length_eq_zero (by omega)
        rw [this]; rfl
      · obtain ⟨hsp, hlt⟩ := hblk h0
        obtain ⟨b, off, spot⟩ := a
        simp only at hsp
        subst hsp
        refine .inr ⟨b, off, rfl, hlt, fun k hk => ?_⟩
        have hk' : k < zs.length * 5 := by rw [cellsV_length] at hk; simpa using hk
        have h := hcellz (k / 5) (by omega) (k % 5) (Nat.mod_lt _ (by decide))
        rw [show k / 5 * 5 + k % 5 = k by omega, Addr.add_lit, List.getElem?_eq_getElem hk] at h
        exact h
    · injection e with e
      subst e
      exact (hblk (by rw [List.length_map] at h0; omega)).2
    · simp only [List.getElem_map]
      exact (hz2 i (by simpa using h1)).2
end Go.Proofs.Ytcffinkkfdfcaaa

/- How a law's argument is opened: a list of items. Conditions: none. -/
namespace Go.Proofs.Ytcffinkkfdfcaaa
open Go Go.RowKit Go.ChangeShapes Go.WideShapes

/-- The fields of an item's type (t: the type of a list of items). -/
structure ItT (P : Program) (t it : TypeId) (f0 f1 f2 f3 f4 : Field) (et e : TypeId) : Prop where
  ht : P.underlying t = some (.slice it)
  hs : P.underlying it = some (.struct #[f0, f1, f2, f3, f4])
  hone : Deep.oneCellFields P #[f0, f1, f2, f3, f4] = true
  hC : P.cellsOf it = 5
  hB : P.bytesOf it = 64
  h0 : P.underlying f0.type = some (.int .i64)
  h1 : P.underlying f1.type = some .bool
  h2 : P.underlying f2.type = some .bool
  h3 : f3.type = et
  h3' : P.underlying et = some (.slice e)
  h4 : f4.type = t
  he : P.underlying e = some (.int .u8)
  hc : P.cellsOf e = 1
  hb : P.bytesOf e = 1

/-- Items built from what is known at each place. -/
theorem fo_of_all {ok : Nat → Prop} {W : World} {b off len : Nat} (hb : b < W.heap.size) (hok : ok b)
    (h : ∀ i, i < len → ∃ (k : Int) (cr li : Bool) (At : Option Addr) (n c : Nat) (bs : List UInt8) (As : Option Addr) (d : Nat) (sub : Fo),
      (W.cell? ⟨b, off + i * 5, none⟩ = some (.int .i64 k) ∧ W.cell? ⟨b, off + i * 5 + 1, none⟩ = some (.bool cr) ∧ W.cell? ⟨b, off + i * 5 + 2, none⟩ = some (.bool li) ∧
       W.cell? ⟨b, off + i * 5 + 3, none⟩ = some (.slice At n c) ∧ W.cell? ⟨b, off + i * 5 + 4, none⟩ = some (.slice As sub.len d)) ∧
      TxtR ok W At n c bs ∧ FoR ok W As 0 sub ∧ sub.len ≤ d ∧ d ≤ maxLen ∧ sub.len ≤ 2199023255488) : ∀ (r i : Nat), i + r = len → ∃ f : Fo, f.len = r ∧ FoR ok W (some ⟨b, off, none⟩) i f
  | 0, i, _ => ⟨.nil, rfl, trivial⟩
  | r + 1, i, hi => by
    obtain ⟨k, cr, li, At, n, c, bs, As, d, sub, hc, ht, hsub, h1, h2, h3⟩ := h i (by omega)
    obtain ⟨f, e, hf⟩ := fo_of_all hb hok h r (i + 1) (by omega)
    exact ⟨.cons k cr li bs sub f, by rw [Fo.len, e], ⟨b, off, At, n, c, As, d, rfl, hb, hok, hc, ht, hsub, h1, h2, h3⟩, hf⟩

theorem open_fo {H : Type} {enc : TypeId × Value → H} {P : Program} {W : World} {t it et e : TypeId} {f0 f1 f2 f3 f4 : Field} (T : ItT P t it f0 f1 f2 f3 f4 et e) : ∀ (fuel : Nat) (u : Value) (x : DataW H × List MemPlace),
    DataW.trod enc P W 0 (fun _ => true) true fuel t [u] = some x → (∀ n ∈ x.1.weights P t, n ≤ reachBytes) →
    ∃ (A : Option Addr) (n c : Nat) (f : Fo), u = .slice A n c ∧ FoR (· < W.heap.size) W A 0 f ∧ f.len = n ∧ n ≤ c ∧ c ≤ maxLen ∧ n ≤ 2199023255488 := by
  intro fuel
  induction fuel using Nat.strongRecOn with
  | _ fuel ih =>
    intro u x hf hw
    rcases DataW.trod_slice T.ht hf with ⟨hcs, _⟩ | ⟨a, len, cap, elems, rest, n, hfu, hcs, hx, _, hl, hm, hlen, hel, hsp, _⟩
    · injection hcs with hcs _
      subst hcs
      exact ⟨none, 0, 0, .nil, rfl, trivial, rfl, Nat.le_refl _, Nat.zero_le _, by decide⟩
    · injection hcs with hcs _
      subst hcs
      subst hx
      obtain ⟨hrl, _⟩ := hsp rfl
      have hbd := hw _ (by simp only [DataW.weights, T.ht, List.mem_cons]; exact Or.inl rfl)
      rw [T.hB] at hbd
      simp only [List.length_map, reachBytes] at hbd
      have each : ∀ i, i < len → ∃ (k : Int) (cr li : Bool) (At : Option Addr) (n c : Nat) (bs : List UInt8) (As : Option Addr) (d : Nat) (sub : Fo),
          (W.cell? (a.add (i * 5 + 0)) = some (.int .i64 k) ∧ W.cell? (a.add (i * 5 + 1)) = some (.bool cr) ∧ W.cell? (a.add (i * 5 + 2)) = some (.bool li) ∧
           W.cell? (a.add (i * 5 + 3)) = some (.slice At n c) ∧ W.cell? (a.add (i * 5 + 4)) = some (.slice As sub.len d)) ∧
          TxtR (· < W.heap.size) W At n c bs ∧ FoR (· < W.heap.size) W As 0 sub ∧ sub.len ≤ d ∧ d ≤ maxLen ∧ sub.len ≤ 2199023255488 := by
        intro i hi
        have he := hel i hi
        have hi' : i < elems.length := by omega
        rw [List.getElem?_eq_getElem hi', T.hC, Option.bind_eq_some_iff] at he
        obtain ⟨cs', g1, g2⟩ := he
        obtain ⟨_, hlen5, hg⟩ := World.cells?_some g1
        obtain ⟨ys, n', hfu', hy, hl5, hlen', hgs⟩ := DataW.trod_struct T.hs g2
        rw [T.hC] at hl5
        obtain ⟨o0, k0⟩ := Deep.hone_of T.hone 0 f0 rfl
        obtain ⟨o1, k1⟩ := Deep.hone_of T.hone 1 f1 rfl
        obtain ⟨o2, k2⟩ := Deep.hone_of T.hone 2 f2 rfl
        obtain ⟨o3, k3⟩ := Deep.hone_of T.hone 3 f3 rfl
        obtain ⟨o4, k4⟩ := Deep.hone_of T.hone 4 f4 rfl
        match cs', hl5, ys, hlen' with
        | [u0, u1, u2, u3, u4], _, [y0, y1, y2, y3, y4], _ =>
          have q0 := hgs 0 f0 rfl
          have q1 := hgs 1 f1 rfl
          have q2 := hgs 2 f2 rfl
          have q3 := hgs 3 f3 rfl
          have q4 := hgs 4 f4 rfl
          rw [o0, k0] at q0
          rw [o1, k1] at q1
          rw [o2, k2] at q2
          rw [o3, k3, T.h3] at q3
          rw [o4, k4, T.h4] at q4
          have hwe : ∀ n ∈ (elems[i]).1.weights P it, n ≤ reachBytes := fun n hn => hw n (by
            simp only [DataW.weights, T.ht, List.mem_cons, List.mem_append]
            exact Or.inr (Or.inl (weightsAll_mem (List.mem_map.2 ⟨elems[i], List.getElem_mem _, rfl⟩) n hn)))
          rw [hy] at hwe
          have hwf : ∀ (j : Nat) (f : Field) (y : DataW H × List MemPlace), (#[f0, f1, f2, f3, f4] : Array Field)[j]? = some f → ([y0, y1, y2, y3, y4] : List (DataW H × List MemPlace))[j]? = some y → ∀ n ∈ y.1.weights P f.type, n ≤ reachBytes := by
            intro j f y hj hy' n hn
            refine hwe n ?_
            simp only [DataW.weights, T.hs]
            refine DataW.weights_mem_each (j := j) (t := f.type) (d := y.1) ?_ ?_ n hn
            · rw [List.getElem?_map]
              have : ([f0, f1, f2, f3, f4] : List Field)[j]? = some f := by simpa using hj
              show Option.map _ (([f0, f1, f2, f3, f4] : List Field)[j]?) = _
              rw [this]; rfl
            · rw [List.getElem?_map, hy']; rfl
          obtain ⟨a0, e0, _, _⟩ := DataW.trod_int T.h0 q0
          obtain ⟨a1, e1, _⟩ := DataW.trod_bool T.h1 q1
          obtain ⟨a2, e2, _⟩ := DataW.trod_bool T.h2 q2
          obtain ⟨At, m, c', bs, eu, r1, r2, r3, r4, r5⟩ := open_txt T.h3' T.he T.hc T.hb (show DataW.trod enc P W 0 (fun _ => true) true n' et [u3] = some y3 from q3)
          have hm' : m ≤ 140737488351232 := r5 (fun n hn => hwf 3 f3 y3 rfl rfl n (by rw [T.h3]; exact hn))
          obtain ⟨As, m2, d, sub, es, s1, s2, s3, s4, s5⟩ := ih n' (by omega) u4 y4 (show DataW.trod enc P W 0 (fun _ => true) true n' t [u4] = some y4 from q4) (fun n hn => hwf 4 f4 y4 rfl rfl n (by rw [T.h4]; exact hn))
          simp at e0 e1 e2
          subst e0 e1 e2 eu es s2
          have g : ∀ q (hq : q < 5), W.cell? (a.add (i * 5 + q)) = [Value.int .i64 a0, .bool a1, .bool a2, .slice At m c', .slice As sub.len d][q]? := fun q hq => by
            rw [← Deep.add_add]
            exact hg q (by simpa using hq)
          refine ⟨a0, a1, a2, At, m, c', bs, As, d, sub, ⟨g 0 (by decide), g 1 (by decide), g 2 (by decide), g 3 (by decide), g 4 (by decide)⟩, ⟨r1, r2, r3, r4, fun h0 a' e' => ?_, by omega⟩, s1, s3, s4, s5⟩
          rcases r2 with h | ⟨b', off, rfl, hb', _⟩
          · have h0' : 0 < m := h0
            have : bs = [] := by simpa using h
            rw [this, List.length_nil] at r1
            omega
          · injection e' with e'; subst e'; exact hb'
      rcases Nat.eq_zero_or_pos len with h0 | h0
      · subst h0
        exact ⟨some a, 0, cap, .nil, rfl, trivial, rfl, Nat.zero_le _, hm, Nat.zero_le _⟩
      · obtain ⟨k, _, _, _, _, _, _, _, _, _, ⟨hc0, _⟩, _⟩ := each 0 h0
        have e1 : a.add (0 * 5 + 0) = a := by simp [Addr.add]
        rw [e1] at hc0
        have hsp' := World.cell?_spot hc0
        have hlt := World.block_lt_of_cell? W a hc0
        obtain ⟨b, off, spot⟩ := a
        simp only at hsp' hlt
        subst hsp'
        have each' : ∀ i, i < len → ∃ (k : Int) (cr li : Bool) (At : Option Addr) (n c : Nat) (bs : List UInt8) (As : Option Addr) (d : Nat) (sub : Fo),
            (W.cell? ⟨b, off + i * 5, none⟩ = some (.int .i64 k) ∧ W.cell? ⟨b, off + i * 5 + 1, none⟩ = some (.bool cr) ∧ W.cell? ⟨b, off + i * 5 + 2, none⟩ = some (.bool li) ∧
             W.cell? ⟨b, off + i * 5 + 3, none⟩ = some (.slice At n c) ∧ W.cell? ⟨b, off + i * 5 + 4, none⟩ = some (.slice As sub.len d)) ∧
            TxtR (· < W.heap.size) W At n c bs ∧ FoR (· < W.heap.size) W As 0 sub ∧ sub.len ≤ d ∧ d ≤ maxLen ∧ sub.len ≤ 2199023255488 := by
          intro i hi
          obtain ⟨k, cr, li, At, n, c, bs, As, d, sub, ⟨g0, g1, g2, g3, g4⟩, r⟩ := each i hi
          rw [Addr.add_lit] at g0 g1 g2 g3 g4
          exact ⟨k, cr, li, At, n, c, bs, As, d, sub, ⟨g0, g1, g2, g3, g4⟩, r⟩
        obtain ⟨f, hf1, hf2⟩ := fo_of_all (ok := (· < W.heap.size)) hlt hlt each' len 0 (by omega)
        exact ⟨some ⟨b, off, none⟩, len, cap, f, rfl, hf2, hf1, hl, hm, by omega⟩
theorem opn_fo {H : Type} {enc : TypeId × Value → H} {P : Program} {W : World} {base t it et e j : Nat} {f0 f1 f2 f3 f4 : Field} (T : ItT P t it f0 f1 f2 f3 f4 et e) {v : Value} {d : DataW H} {p : List MemPlace} {ts : List TypeId} {ds : List (DataW H)}
    (hv : Value.okWide P W .any base t v) (hj : DataW.Trod enc P W 0 (fun _ => true) true t v d p) (hsz : (DataW.weightsEach P ts ds).all (· ≤ reachBytes) = true) (k1 : ts[j]? = some t) (k2 : ds[j]? = some d) :
    ∃ (A : Option Addr) (n c : Nat) (f : Fo), v = .slice A n c ∧ (FoR (· < W.heap.size) W A 0 f ∧ f.len = n ∧ n ≤ c ∧ c ≤ maxLen ∧ n ≤ 2199023255488) := by
  obtain ⟨a0, len, cap, rfl⟩ := okWide_slice T.ht hv
  obtain ⟨fuel, hf⟩ := hj
  have hf' : DataW.trod enc P W 0 (fun _ => true) true fuel t [.slice a0 len cap] = some (d, p) := by
    simpa [Value.cells] using hf
  obtain ⟨A, n, c, f, e1, r⟩ := open_fo T fuel _ _ hf' (fun n hn => of_decide_eq_true (List.all_eq_true.1 hsz n (DataW.weights_mem_each k1 k2 n hn)))
  exact ⟨A, n, c, f, e1, r⟩
end Go.Proofs.Ytcffinkkfdfcaaa

/- How a law's argument is opened: data with a part, by value. Conditions: none. -/
namespace Go.Proofs.Ytcffinkkfdfcaaa
open Go Go.RowKit Go.ChangeShapes Go.WideShapes

/-- The fields of a part's type. -/
structure PaT (P : Program) (t : TypeId) (f0 f1 f2 f3 : Field) (e : TypeId) : Prop where
  hs : P.underlying t = some (.struct #[f0, f1, f2, f3])
  hC : P.cellsOf t = 4
  hone : Deep.oneCellFields P #[f0, f1, f2, f3] = true
  h0 : P.underlying f0.type = some (.int .u32)
  h1 : P.underlying f1.type = some (.int .i64)
  h2 : P.underlying f2.type = some (.int .i64)
  h3 : P.underlying f3.type = some (.slice e)
  he : P.underlying e = some (.int .u8)
  hc : P.cellsOf e = 1
  hb : P.bytesOf e = 1
/-- The fields of data's type. -/
structure DaT (P : Program) (t : TypeId) (f0 f1 f2 f3 f4 f5 : Field) (pt : TypeId) (g0 g1 g2 g3 : Field) (e : TypeId) : Prop where
  hs : P.underlying t = some (.struct #[f0, f1, f2, f3, f4, f5])
  hC : P.cellsOf t = 9
  o0 : f0.offset = 0
  o1 : f1.offset = 1
  o2 : f2.offset = 2
  o3 : f3.offset = 3
  o4 : f4.offset = 4
  o5 : f5.offset = 5
  k0 : P.cellsOf f0.type = 1
  k1 : P.cellsOf f1.type = 1
  k2 : P.cellsOf f2.type = 1
  k3 : P.cellsOf f3.type = 1
  k4 : P.cellsOf f4.type = 1
  h0 : P.underlying f0.type = some (.int .u16)
  h1 : P.underlying f1.type = some (.int .u16)
  h2 : P.underlying f2.type = some (.int .u64)
  h3 : P.underlying f3.type = some (.int .u64)
  h4 : P.underlying f4.type = some .bool
  h5 : f5.type = pt
  T : PaT P pt g0 g1 g2 g3 e
theorem nat_u16 {a : Int} (w : (Lit.int .u16 a).wf = true) : ∃ n : Nat, a = (n : Int) ∧ n < 65536 := by
  simp only [Lit.wf, IntKind.min, IntKind.max, IntKind.signed, IntKind.bits, Bool.and_eq_true, decide_eq_true_eq] at w
  have v1 : (0 : Int) ≤ a := by simpa using w.1
  have v2 : a ≤ 65535 := by simpa using w.2
  exact ⟨a.toNat, by omega, by omega⟩
theorem nat_u32 {a : Int} (w : (Lit.int .u32 a).wf = true) : ∃ n : Nat, a = (n : Int) ∧ n < 4294967296 := by
  simp only [Lit.wf, IntKind.min, IntKind.max, IntKind.signed, IntKind.bits, Bool.and_eq_true, decide_eq_true_eq] at w
  have v1 : (0 : Int) ≤ a := by simpa using w.1
  have v2 : a ≤ 4294967295 := by simpa using w.2
  exact ⟨a.toNat, by omega, by omega⟩
theorem nat_u64 {a : Int} (w : (Lit.int .u64 a).wf = true) : ∃ n : Nat, a = (n : Int) ∧ n < 18446744073709551616 := by
  simp only [Lit.wf, IntKind.min, IntKind.max, IntKind.signed, IntKind.bits, Bool.and_eq_true, decide_eq_true_eq] at w
  have v1 : (0 : Int) ≤ a := by simpa using w.1
  have v2 : a ≤ 18446744073709551615 := by simpa using w.2
  exact ⟨a.toNat, by omega, by omega⟩
theorem open_part {H : Type} {enc : TypeId × Value → H} {P : Program} {W : World} {t e fuel : Nat} {f0 f1 f2 f3 : Field} (T : PaT P t f0 f1 f2 f3 e) {cs : List Value} {x : DataW H × List MemPlace}
    (hf : DataW.trod enc P W 0 (fun _ => true) true fuel t cs = some x) (hw : ∀ n ∈ x.1.weights P t, n ≤ reachBytes) :
    ∃ (id : Nat) (ix ct : Int) (A : Option Addr) (n c : Nat) (bs : List UInt8), cs = [.int .u32 (id : Int), .int .i64 ix, .int .i64 ct, .slice A n c] ∧ id < 4294967296 ∧ (Lit.int .i64 ix).wf = true ∧ (Lit.int .i64 ct).wf = true ∧ TxtR (· < W.heap.size) W A n c bs ∧ n ≤ 140737488351232 := by
  obtain ⟨ys, n', _, hy, hl4, hlen', hgs⟩ := DataW.trod_struct T.hs hf
  rw [T.hC] at hl4
  obtain ⟨o0, k0⟩ := Deep.hone_of T.hone 0 f0 rfl
  obtain ⟨o1, k1⟩ := Deep.hone_of T.hone 1 f1 rfl
  obtain ⟨o2, k2⟩ := Deep.hone_of T.hone 2 f2 rfl
  obtain ⟨o3, k3⟩ := Deep.hone_of T.hone 3 f3 rfl
  match cs, hl4, ys, hlen' with
  | [u0, u1, u2, u3], _, [y0, y1, y2, y3], _ =>
    have q0 := hgs 0 f0 rfl
    have q1 := hgs 1 f1 rfl
    have q2 := hgs 2 f2 rfl
    have q3 := hgs 3 f3 rfl
    rw [o0, k0] at q0
    rw [o1, k1] at q1
    rw [o2, k2] at q2
    rw [o3, k3] at q3
    rw [hy] at hw
    have hwf : ∀ (j : Nat) (f : Field) (y : DataW H × List MemPlace), (#[f0, f1, f2, f3] : Array Field)[j]? = some f → ([y0, y1, y2, y3] : List (DataW H × List MemPlace))[j]? = some y → ∀ n ∈ y.1.weights P f.type, n ≤ reachBytes := by
      intro j f y hj hy' n hn
      refine hw n ?_
      simp only [DataW.weights, T.hs]
      refine DataW.weights_mem_each (j := j) (t := f.type) (d := y.1) ?_ ?_ n hn
      · rw [List.getElem?_map]
        have : ([f0, f1, f2, f3] : List Field)[j]? = some f := by simpa using hj
        show Option.map _ (([f0, f1, f2, f3] : List Field)[j]?) = _
        rw [this]; rfl
      · rw [List.getElem?_map, hy']; rfl
    obtain ⟨a0, e0, _, w0⟩ := DataW.trod_int T.h0 q0
    obtain ⟨a1, e1, _, w1⟩ := DataW.trod_int T.h1 q1
    obtain ⟨a2, e2, _, w2⟩ := DataW.trod_int T.h2 q2
    obtain ⟨At, m, c', bs, eu, r1, r2, r3, r4, r5⟩ := open_txt T.h3 T.he T.hc T.hb (show DataW.trod enc P W 0 (fun _ => true) true n' f3.type [u3] = some y3 from q3)
    have hm' : m ≤ 140737488351232 := r5 (fun n hn => hwf 3 f3 y3 rfl rfl n hn)
    obtain ⟨b0, rfl, h0⟩ := nat_u32 w0
    simp at e0 e1 e2
    subst e0 e1 e2 eu
    refine ⟨b0, a1, a2, At, m, c', bs, rfl, h0, w1, w2, ⟨r1, r2, r3, r4, fun h0 a' e' => ?_, by omega⟩, hm'⟩
    rcases r2 with h | ⟨b', off, rfl, hb', _⟩
    · have h0' : 0 < m := h0
      have : bs = [] := by simpa using h
      rw [this, List.length_nil] at r1
      omega
    · injection e' with e'; subst e'; exact hb'
theorem open_dat {H : Type} {enc : TypeId × Value → H} {P : Program} {W : World} {t pt e fuel : Nat} {f0 f1 f2 f3 f4 f5 g0 g1 g2 g3 : Field} (T : DaT P t f0 f1 f2 f3 f4 f5 pt g0 g1 g2 g3 e) {cs : List Value} {x : DataW H × List MemPlace}
    (hf : DataW.trod enc P W 0 (fun _ => true) true fuel t cs = some x) (hw : ∀ n ∈ x.1.weights P t, n ≤ reachBytes) :
    ∃ (st ec ak th : Nat) (has : Bool) (id : Nat) (ix ct : Int) (A : Option Addr) (n c : Nat) (bs : List UInt8), cs = [.int .u16 (st : Int), .int .u16 (ec : Int), .int .u64 (ak : Int), .int .u64 (th : Int), .bool has, .int .u32 (id : Int), .int .i64 ix, .int .i64 ct, .slice A n c] ∧
      st < 65536 ∧ ec < 65536 ∧ ak < 18446744073709551616 ∧ th < 18446744073709551616 ∧ id < 4294967296 ∧ (Lit.int .i64 ix).wf = true ∧ (Lit.int .i64 ct).wf = true ∧ TxtR (· < W.heap.size) W A n c bs ∧ n ≤ 140737488351232 := by
  obtain ⟨ys, n, _, rfl, hl, hlen, hg⟩ := DataW.trod_struct T.hs hf
  rw [T.hC] at hl
  match cs, hl, ys, hlen with
  | [u0, u1, u2, u3, u4, u5, u6, u7, u8], _, [y0, y1, y2, y3, y4, y5], _ =>
    have q0 := hg 0 f0 rfl
    have q1 := hg 1 f1 rfl
    have q2 := hg 2 f2 rfl
    have q3 := hg 3 f3 rfl
    have q4 := hg 4 f4 rfl
    have q5 := hg 5 f5 rfl
    rw [T.o0, T.k0] at q0
    rw [T.o1, T.k1] at q1
    rw [T.o2, T.k2] at q2
    rw [T.o3, T.k3] at q3
    rw [T.o4, T.k4] at q4
    rw [T.o5, T.h5, T.T.hC] at q5
    have hwe : ∀ (j : Nat) (f : Field) (y : DataW H × List MemPlace), (#[f0, f1, f2, f3, f4, f5] : Array Field)[j]? = some f → ([y0, y1, y2, y3, y4, y5] : List (DataW H × List MemPlace))[j]? = some y → ∀ n ∈ y.1.weights P f.type, n ≤ reachBytes := by
      intro j f y hj hy n hn
      refine hw n ?_
      simp only [DataW.weights, T.hs]
      refine DataW.weights_mem_each (j := j) (t := f.type) (d := y.1) ?_ ?_ n hn
      · rw [List.getElem?_map]
        have : ([f0, f1, f2, f3, f4, f5] : List Field)[j]? = some f := by simpa using hj
        show Option.map _ (([f0, f1, f2, f3, f4, f5] : List Field)[j]?) = _
        rw [this]; rfl
      · rw [List.getElem?_map, hy]; rfl
    obtain ⟨a0, e0, _, w0⟩ := DataW.trod_int T.h0 q0
    obtain ⟨a1, e1, _, w1⟩ := DataW.trod_int T.h1 q1
    obtain ⟨a2, e2, _, w2⟩ := DataW.trod_int T.h2 q2
    obtain ⟨a3, e3, _, w3⟩ := DataW.trod_int T.h3 q3
    obtain ⟨a4, e4, _⟩ := DataW.trod_bool T.h4 q4
    obtain ⟨id, ix, ct, A, m, c, bs, ecs, r⟩ := open_part T.T q5 (fun n hn => hwe 5 f5 y5 rfl rfl n (by rw [T.h5]; exact hn))
    obtain ⟨b0, rfl, h0⟩ := nat_u16 w0
    obtain ⟨b1, rfl, h1⟩ := nat_u16 w1
    obtain ⟨b2, rfl, h2⟩ := nat_u64 w2
    obtain ⟨b3, rfl, h3⟩ := nat_u64 w3
    simp at e0 e1 e2 e3 e4 ecs
    obtain ⟨z1, z2, z3, z4⟩ := ecs
    subst e0 e1 e2 e3 e4 z1 z2 z3 z4
    exact ⟨b0, b1, b2, b3, a4, id, ix, ct, A, m, c, bs, rfl, h0, h1, h2, h3, r⟩
theorem opn_dat {H : Type} {enc : TypeId × Value → H} {P : Program} {W : World} {base t pt e j : Nat} {f0 f1 f2 f3 f4 f5 g0 g1 g2 g3 : Field} (T : DaT P t f0 f1 f2 f3 f4 f5 pt g0 g1 g2 g3 e) {v : Value} {d : DataW H} {p : List MemPlace} {ts : List TypeId} {ds : List (DataW H)}
    (hv : Value.okWide P W .any base t v) (hj : DataW.Trod enc P W 0 (fun _ => true) true t v d p) (hsz : (DataW.weightsEach P ts ds).all (· ≤ reachBytes) = true) (k1 : ts[j]? = some t) (k2 : ds[j]? = some d) :
    ∃ (st ec ak th : Nat) (has : Bool) (id : Nat) (ix ct : Int) (A : Option Addr) (n c : Nat) (bs : List UInt8), v = .agg #[.int .u16 (st : Int), .int .u16 (ec : Int), .int .u64 (ak : Int), .int .u64 (th : Int), .bool has, .int .u32 (id : Int), .int .i64 ix, .int .i64 ct, .slice A n c] ∧
      (st < 65536 ∧ ec < 65536 ∧ ak < 18446744073709551616 ∧ th < 18446744073709551616 ∧ id < 4294967296 ∧ (Lit.int .i64 ix).wf = true ∧ (Lit.int .i64 ct).wf = true ∧ TxtR (· < W.heap.size) W A n c bs ∧ n ≤ 140737488351232) := by
  obtain ⟨cs, rfl, hsz2⟩ := okWide_struct T.hs hv
  obtain ⟨fuel, hf⟩ := hj
  obtain ⟨st, ec, ak, th, has, id, ix, ct, A, m, c, bs, hcs, r⟩ := open_dat T hf (fun n hn => of_decide_eq_true (List.all_eq_true.1 hsz n (DataW.weights_mem_each k1 k2 n hn)))
  refine ⟨st, ec, ak, th, has, id, ix, ct, A, m, c, bs, ?_, r⟩
  congr 1
  apply Array.ext'
  simpa [Value.cells] using hcs
end Go.Proofs.Ytcffinkkfdfcaaa

/- An array of 32 bytes by value, opened: its bytes. Conditions: none. -/
namespace Go.Proofs.Ytcffinkkfdfcaaa
open Go Go.RowKit

theorem mapM_mem {α β : Type} (f : α → Option β) : ∀ (L : List α) (ys : List β), L.mapM f = some ys → ∀ i ∈ L, ∃ y, f i = some y
  | [], _, _, i, hi => by cases hi
  | x :: L, ys, h, i, hi => by
    rw [List.mapM_cons] at h
    simp only [bind, Option.bind_eq_some_iff, pure, Option.some.injEq] at h
    obtain ⟨y, hy, ys', hys, _⟩ := h
    rcases List.mem_cons.1 hi with rfl | hi
    · exact ⟨y, hy⟩
    · exact mapM_mem f L ys' hys i hi
theorem list_bytes : ∀ (l : List Value), (∀ u ∈ l, ∃ b : UInt8, u = bv b) → ∃ bs : List UInt8, l = bs.map bv
  | [], _ => ⟨[], rfl⟩
  | u :: l, h => by
    obtain ⟨b, hb⟩ := h u List.mem_cons_self
    obtain ⟨bs, hbs⟩ := list_bytes l (fun v hv => h v (List.mem_cons_of_mem _ hv))
    exact ⟨b :: bs, by rw [hb, hbs]; rfl⟩
theorem opn_arr8 {H : Type} {enc : TypeId × Value → H} {P : Program} {W : World} {base t e n : Nat} {v : Value} {d : DataW H} {p : List MemPlace} (ht : P.underlying t = some (.array n e)) (hpl : P.plainKey e = true) (he : P.underlying e = some (.int .u8)) (h1 : P.cellsOf e = 1) (hC : P.cellsOf t = n)
    (hv : Value.okWide P W .any base t v) (hj : DataW.Trod enc P W 0 (fun _ => true) true t v d p) : ∃ l : List UInt8, v = .agg (l.map bv).toArray ∧ l.length = n := by
  obtain ⟨xs, rfl, hn⟩ := WideMaps.okWide_arr (A := (⟨ht, hpl, h1, hC⟩ : WideMaps.ArrKey P t e n)) hv
  obtain ⟨fuel, hf⟩ := hj
  have hall : ∀ u ∈ xs.toList, ∃ b : UInt8, u = bv b := by
    cases fuel with
    | zero => simp [DataW.trod] at hf
    | succ m =>
      rw [DataW.trod_step] at hf
      unfold DataW.trodStep at hf
      simp only [ht, Value.cells] at hf
      rw [if_pos (by rw [hC]; simpa using hn)] at hf
      simp only [Option.map_eq_some_iff] at hf
      obtain ⟨ys, hy, _⟩ := hf
      intro u hu
      obtain ⟨i, hi, rfl⟩ := List.mem_iff_getElem.1 hu
      have hi' : i < n := by rw [← hn]; simpa using hi
      obtain ⟨y, hyi⟩ := mapM_mem _ _ _ hy i (List.mem_range.2 hi')
      obtain ⟨a, ea, _, wa⟩ := DataW.trod_int he hyi
      rw [h1, Nat.mul_one, List.drop_eq_getElem_cons hi, List.take_succ_cons, List.take_zero] at ea
      injection ea with ea _
      rw [ea]
      simp only [Lit.wf, IntKind.min, IntKind.max, IntKind.signed, IntKind.bits, Bool.and_eq_true, decide_eq_true_eq] at wa
      have w1 : (0 : Int) ≤ a := by simpa using wa.1
      have w2 : a ≤ 255 := by simpa using wa.2
      refine ⟨UInt8.ofNat a.toNat, ?_⟩
      unfold bv
      rw [UInt8.toNat_ofNat']
      congr 1
      omega
  obtain ⟨l, hl⟩ := list_bytes xs.toList hall
  refine ⟨l, ?_, ?_⟩
  · rw [← hl]
  · rw [← hn, ← List.length_map bv, ← hl]; simp
end Go.Proofs.Ytcffinkkfdfcaaa

/- How a law's arguments are opened: a Hello and a Select, by value. Conditions: none. -/
namespace Go.Proofs.Ytcffinkkfdfcaaa
open Go Go.RowKit Go.ChangeShapes Go.WideShapes

/-- A type of two fields: a number and features. -/
structure OfT (P : Program) (t : TypeId) (f0 f1 : Field) : Prop where
  hs : P.underlying t = some (.struct #[f0, f1])
  hC : P.cellsOf t = 2
  hone : Deep.oneCellFields P #[f0, f1] = true
  h0 : P.underlying f0.type = some (.int .i64)
  h1 : P.underlying f1.type = some (.int .u32)
/-- A type of n bytes. -/
structure ByT (P : Program) (t n e : TypeId) : Prop where
  ht : P.underlying t = some (.array n e)
  he : P.underlying e = some (.int .u8)
  h1 : P.cellsOf e = 1
  hC : P.cellsOf t = n
theorem open_two {H : Type} {enc : TypeId × Value → H} {P : Program} {W : World} {t fuel : Nat} {f0 f1 : Field} (T : OfT P t f0 f1) {cs : List Value} {x : DataW H × List MemPlace}
    (hf : DataW.trod enc P W 0 (fun _ => true) true fuel t cs = some x) : ∃ (a : Int) (n : Nat), cs = [.int .i64 a, .int .u32 (n : Int)] ∧ n < 4294967296 ∧ (Lit.int .i64 a).wf = true := by
  obtain ⟨ys, n', _, hy, hl4, hlen', hgs⟩ := DataW.trod_struct T.hs hf
  rw [T.hC] at hl4
  obtain ⟨o0, k0⟩ := Deep.hone_of T.hone 0 f0 rfl
  obtain ⟨o1, k1⟩ := Deep.hone_of T.hone 1 f1 rfl
  match cs, hl4, ys, hlen' with
  | [u0, u1], _, [y0, y1], _ =>
    have q0 := hgs 0 f0 rfl
    have q1 := hgs 1 f1 rfl
    rw [o0, k0] at q0
    rw [o1, k1] at q1
    obtain ⟨a0, e0, _, w0⟩ := DataW.trod_int T.h0 q0
    obtain ⟨a1, e1, _, w1⟩ := DataW.trod_int T.h1 q1
    obtain ⟨b1, rfl, h1⟩ := nat_u32 w1
    simp at e0 e1
    subst e0 e1
    exact ⟨a0, b1, rfl, h1, w0⟩
theorem open_arr {H : Type} {enc : TypeId × Value → H} {P : Program} {W : World} {t n e fuel : Nat} (T : ByT P t n e) {cs : List Value} {x : DataW H × List MemPlace} (hn : cs.length = n)
    (hf : DataW.trod enc P W 0 (fun _ => true) true fuel t cs = some x) : ∃ l : List UInt8, cs = l.map bv ∧ l.length = n := by
  have hall : ∀ u ∈ cs, ∃ b : UInt8, u = bv b := by
    cases fuel with
    | zero => simp [DataW.trod] at hf
    | succ m =>
      rw [DataW.trod_step] at hf
      unfold DataW.trodStep at hf
      simp only [T.ht] at hf
      rw [if_pos (by rw [T.hC]; simpa using hn)] at hf
      simp only [Option.map_eq_some_iff] at hf
      obtain ⟨ys, hy, _⟩ := hf
      intro u hu
      obtain ⟨i, hi, rfl⟩ := List.mem_iff_getElem.1 hu
      have hi' : i < n := by rw [← hn]; exact hi
      obtain ⟨y, hyi⟩ := mapM_mem _ _ _ hy i (List.mem_range.2 hi')
      obtain ⟨a, ea, _, wa⟩ := DataW.trod_int T.he hyi
      rw [T.h1, Nat.mul_one, List.drop_eq_getElem_cons hi, List.take_succ_cons, List.take_zero] at ea
      injection ea with ea _
      rw [ea]
      simp only [Lit.wf, IntKind.min, IntKind.max, IntKind.signed, IntKind.bits, Bool.and_eq_true, decide_eq_true_eq] at wa
      have w1 : (0 : Int) ≤ a := by simpa using wa.1
      have w2 : a ≤ 255 := by simpa using wa.2
      refine ⟨UInt8.ofNat a.toNat, ?_⟩
      unfold bv
      rw [UInt8.toNat_ofNat']
      congr 1
      omega
  obtain ⟨l, hl⟩ := list_bytes cs hall
  exact ⟨l, hl, by rw [← hn, hl, List.length_map]⟩
/-- The fields of a Hello's type. -/
structure HeT (P : Program) (t : TypeId) (f0 f1 g0 g1 : Field) (e : TypeId) : Prop where
  hs : P.underlying t = some (.struct #[f0, f1])
  hC : P.cellsOf t = 18
  o0 : f0.offset = 0
  o1 : f1.offset = 2
  T0 : OfT P f0.type g0 g1
  T1 : ByT P f1.type 16 e
/-- The fields of a Select's type. -/
structure SeT (P : Program) (t : TypeId) (f0 f1 f2 f3 g0 g1 h0 h1 : Field) (e1 e2 : TypeId) : Prop where
  hs : P.underlying t = some (.struct #[f0, f1, f2, f3])
  hC : P.cellsOf t = 52
  o0 : f0.offset = 0
  o1 : f1.offset = 2
  o2 : f2.offset = 4
  o3 : f3.offset = 20
  T0 : OfT P f0.type g0 g1
  T1 : OfT P f1.type h0 h1
  T2 : ByT P f2.type 16 e1
  T3 : ByT P f3.type 32 e2
theorem list_parts2 (cs : List Value) (h : cs.length = 18) : cs = cs.take 2 ++ (cs.drop 2).take 16 := by
  have e : (cs.drop 2).take 16 = cs.drop 2 := List.take_of_length_le (by rw [List.length_drop]; omega)
  rw [e, List.take_append_drop]
theorem list_parts4 (cs : List Value) (h : cs.length = 52) : cs = cs.take 2 ++ ((cs.drop 2).take 2 ++ ((cs.drop 4).take 16 ++ (cs.drop 20).take 32)) := by
  have e : (cs.drop 20).take 32 = cs.drop 20 := List.take_of_length_le (by rw [List.length_drop]; omega)
  rw [e, show cs.drop 20 = (cs.drop 4).drop 16 by rw [List.drop_drop], List.take_append_drop, show cs.drop 4 = (cs.drop 2).drop 2 by rw [List.drop_drop], List.take_append_drop, List.take_append_drop]
theorem opn_hel {H : Type} {enc : TypeId × Value → H} {P : Program} {W : World} {base t e : Nat} {f0 f1 g0 g1 : Field} (T : HeT P t f0 f1 g0 g1 e) {v : Value} {d : DataW H} {p : List MemPlace}
    (hv : Value.okWide P W .any base t v) (hj : DataW.Trod enc P W 0 (fun _ => true) true t v d p) : ∃ (a : Int) (f : Nat) (l : List UInt8), v = .agg (helI a f l) ∧ f < 4294967296 ∧ l.length = 16 := by
  obtain ⟨cs, rfl, hsz2⟩ := okWide_struct T.hs hv
  obtain ⟨fuel, hf⟩ := hj
  obtain ⟨ys, n, _, _, hl, hlen, hg⟩ := DataW.trod_struct T.hs hf
  rw [T.hC] at hl
  match ys, hlen with
  | [y0, y1], _ =>
    have q0 := hg 0 f0 rfl
    have q1 := hg 1 f1 rfl
    rw [T.o0, T.T0.hC] at q0
    rw [T.o1, T.T1.hC] at q1
    obtain ⟨a, f, e0, hf0, _⟩ := open_two T.T0 q0
    obtain ⟨l, e1, hl1⟩ := open_arr T.T1 (by rw [List.length_take, List.length_drop, hl]; decide) q1
    refine ⟨a, f, l, ?_, hf0, hl1⟩
    congr 1
    apply Array.ext'
    simp only [Value.cells] at hl e0 e1
    rw [list_parts2 cs.toList (by simpa using hl), show cs.toList.take 2 = _ from e0, e1]
    rfl
theorem opn_sel {H : Type} {enc : TypeId × Value → H} {P : Program} {W : World} {base t e1 e2 : Nat} {f0 f1 f2 f3 g0 g1 h0 h1 : Field} (T : SeT P t f0 f1 f2 f3 g0 g1 h0 h1 e1 e2) {v : Value} {d : DataW H} {p : List MemPlace}
    (hv : Value.okWide P W .any base t v) (hj : DataW.Trod enc P W 0 (fun _ => true) true t v d p) : ∃ (a : Int) (f : Nat) (b : Int) (k : Nat) (l m : List UInt8), v = .agg (selI a f b k l m) ∧ f < 4294967296 ∧ k < 4294967296 ∧ l.length = 16 ∧ m.length = 32 := by
  obtain ⟨cs, rfl, hsz2⟩ := okWide_struct T.hs hv
  obtain ⟨fuel, hf⟩ := hj
  obtain ⟨ys, n, _, _, hl, hlen, hg⟩ := DataW.trod_struct T.hs hf
  rw [T.hC] at hl
  match ys, hlen with
  | [y0, y1, y2, y3], _ =>
    have q0 := hg 0 f0 rfl
    have q1 := hg 1 f1 rfl
    have q2 := hg 2 f2 rfl
    have q3 := hg 3 f3 rfl
    rw [T.o0, T.T0.hC] at q0
    rw [T.o1, T.T1.hC] at q1
    rw [T.o2, T.T2.hC] at q2
    rw [T.o3, T.T3.hC] at q3
    obtain ⟨a, f, e0, hf0, _⟩ := open_two T.T0 q0
    obtain ⟨b, k, e1, hf1, _⟩ := open_two T.T1 q1
    obtain ⟨l, e2, hl1⟩ := open_arr T.T2 (by rw [List.length_take, List.length_drop, hl]; decide) q2
    obtain ⟨m, e3, hl2⟩ := open_arr T.T3 (by rw [List.length_take, List.length_drop, hl]; decide) q3
    refine ⟨a, f, b, k, l, m, ?_, hf0, hf1, hl1, hl2⟩
    congr 1
    apply Array.ext'
    simp only [Value.cells] at hl e0 e1 e2 e3
    rw [list_parts4 cs.toList (by simpa using hl), show cs.toList.take 2 = _ from e0, e1, e2, e3]
    rfl
end Go.Proofs.Ytcffinkkfdfcaaa

/- The walk of the law BodyPuts: it returns true. Conditions: the row's own. -/
namespace Go.Proofs.Ytcffinkkfdfcaaa
open Go Go.RowKit

theorem info_sel52 : (Try.prog.info? 49).map (·.size) = some 52 := by kernel_rfl
theorem info_heli {mx : Int} {ft : Nat} {l : List UInt8} (h : l.length = 16) : (Try.prog.info? 44).map (·.size) = some (helI mx ft l).size := info_hel.trans (congrArg some (by simp [helI, h]))
theorem info_seli {v mx : Int} {f1 f2 : Nat} {l1 l2 : List UInt8} (h1 : l1.length = 16) (h2 : l2.length = 32) : (Try.prog.info? 49).map (·.size) = some (selI v f1 mx f2 l1 l2).size := info_sel52.trans (congrArg some (by simp [selI, h1, h2]))
set_option maxRecDepth 100000 in
set_option maxHeartbeats 8000000 in
theorem BodyPuts_walk (w : World) (mx : Int) (ft : Nat) (l : List UInt8) (hh : ft < 4294967296 ∧ l.length = 16) (v : Int) (f1 : Nat) (b : Int) (f2 : Nat) (l1 l2 : List UInt8) (hs : f1 < 4294967296 ∧ f2 < 4294967296 ∧ l1.length = 16 ∧ l2.length = 32) (l3 : List UInt8) (h3 : l3.length = 32) :
    Calls Try.prog 4 #[.agg (helI mx ft l), .agg (selI v f1 b f2 l1 l2), .agg (l3.map bv).toArray] w fun r w' => r = .returned (.bool true) ∧ Below w.heap.size w w' := by
  obtain ⟨a1, a2⟩ := hh
  obtain ⟨b1, b2, b3, b4⟩ := hs
  have HF := Lib.hid a1
  have HL := Lib.hid a2
  have HF1 := Lib.hid b1
  have HF2 := Lib.hid b2
  have HL1 := Lib.hid b3
  have HL2 := Lib.hid b4
  have HL3 := Lib.hid h3
  obtain ⟨u1, eu1⟩ : ∃ u, u = w.alloc (.cells (helI mx ft l) 44) := ⟨_, rfl⟩
  obtain ⟨u2, eu2⟩ : ∃ u, u = u1.alloc (.cells (selI v f1 b f2 l1 l2) 49) := ⟨_, rfl⟩
  obtain ⟨u3, eu3⟩ : ∃ u, u = u2.alloc (.cells (a32C l3) 47) := ⟨_, rfl⟩
  obtain ⟨gh, egh⟩ : ∃ g, g = w.heap.size := ⟨_, rfl⟩
  have z1 : u1.heap.size = w.heap.size + 1 := by rw [eu1]; simp
  have z2 : u2.heap.size = w.heap.size + 2 := by rw [eu2]; simp [z1]
  have k1 : Below w.heap.size w u1 := by rw [eu1]; exact (Below.refl _ _).alloc (Nat.le_refl _) _
  have k2 : Below u1.heap.size u1 u2 := by rw [eu2]; exact (Below.refl _ _).alloc (Nat.le_refl _) _
  have k3 : Below u2.heap.size u2 u3 := by rw [eu3]; exact (Below.refl _ _).alloc (Nat.le_refl _) _
  have y1 : u1.heap[w.heap.size]? = some (.cells (helI mx ft l) 44 (0, 0)) := by rw [eu1]; exact heap_alloc_new _ _
  have y2 : u2.heap[w.heap.size + 1]? = some (.cells (selI v f1 b f2 l1 l2) 49 (0, 0)) := by rw [← z1, eu2]; exact heap_alloc_new _ _
  have y3 : u3.heap[w.heap.size + 2]? = some (.cells (a32C l3) 47 (0, 0)) := by rw [← z2, eu3]; exact heap_alloc_new _ _
  have HH := Lib.hid ((k3.block _ (by omega)).trans ((k2.block _ (by omega)).trans y1))
  have HS := Lib.hid ((k3.block _ (by omega)).trans y2)
  have HA := Lib.hid y3
  have HB := Lib.hid (k1.trans ((k2.trans (k3.mono (by omega))).mono (by omega)))
  have EU : Hid (u3 = ((w.alloc (.cells (helI mx ft l) 44)).alloc (.cells (selI v f1 b f2 l1 l2) 49)).alloc (.cells (a32C l3) 47)) := Lib.hid (by rw [eu3, eu2, eu1])
  clear a1 a2 b1 b2 b3 b4 h3 eu1 eu2 eu3 z1 z2 k1 k2 k3 y1 y2 y3 egh
  have eA : (l3.map bv).toArray = a32C l3 := rfl
  rw [eA]
  clear eA
  go_enter Try.func4, Try.ntmps4
  go_upto_region 1 with (fail)
  rw [← EU.out]
  obtain ⟨E1, eE1⟩ : ∃ E, (putH mx ft l).1 = E := ⟨_, rfl⟩
  obtain ⟨K1, eK1⟩ : ∃ L, (putH mx ft l).2 = L := ⟨_, rfl⟩
  obtain ⟨E2, eE2⟩ : ∃ E, (putS v f1 b f2 l1 l2).1 = E := ⟨_, rfl⟩
  obtain ⟨K2, eK2⟩ : ∃ L, (putS v f1 b f2 l1 l2).2 = L := ⟨_, rfl⟩
  obtain ⟨n1, en1⟩ : ∃ n, K1.length = n := ⟨_, rfl⟩
  obtain ⟨n2, en2⟩ : ∃ n, K2.length = n := ⟨_, rfl⟩
  have QE1 := Lib.hid eE1
  have QK1 := Lib.hid eK1
  have QE2 := Lib.hid eE2
  have QK2 := Lib.hid eK2
  have QN1 := Lib.hid en1
  have QN2 := Lib.hid en2
  clear eE1 eK1 eE2 eK2 en1 en2
  go_wp2_with (refine wpList_load_row rfl 44 (.tmp 3) rfl (w.heap.size) rfl 44 _ (0, 0) _ HH.out Try.underlying44 rfl (info_heli HL.out) ?_)
  refine (PutHello_c mx ft l HF.out HL.out u3).mono ?_
  rintro _ w1 ⟨x, rfl, ho, hb⟩
  rw [QE1.out]
  rw [QK1.out] at ho
  obtain ⟨A1, c1, rfl, hc, hm, r, _⟩ := OwnB.form ho
  rw [QN1.out] at hc ⊢
  have M1 : Hid (n1 ≤ c1 ∧ c1 ≤ maxLen) := Lib.hid ⟨hc, hm⟩
  have R1_1 := Lib.hid r
  have HH1 := Lib.hid ((hb.block _ (heap_lt HH.out)).trans HH.out)
  have HS1 := Lib.hid ((hb.block _ (heap_lt HS.out)).trans HS.out)
  have HA1 := Lib.hid ((hb.block _ (heap_lt HA.out)).trans HA.out)
  have HB1 := Lib.hid (HB.out.trans (hb.mono HB.out.size))
  clear ho hb hc hm r HH HS HA HB
  go_wp2_with (refine wpList_load_row rfl 44 (.tmp 3) rfl (w.heap.size) rfl 44 _ (0, 0) _ HH1.out Try.underlying44 rfl (info_heli HL.out) ?_)
  refine (refPutHello_c mx ft l HF.out HL.out w1).mono ?_
  rintro _ w2 ⟨x, rfl, ho, hb⟩
  rw [QE1.out]
  rw [QK1.out] at ho
  obtain ⟨A2, c2, rfl, hc, hm, r, _⟩ := OwnB.form ho
  rw [QN1.out] at hc ⊢
  have M2 : Hid (n1 ≤ c2 ∧ c2 ≤ maxLen) := Lib.hid ⟨hc, hm⟩
  have R2_2 := Lib.hid r
  have R1_2 := Lib.hid (R1_1.out.below hb)
  have HH2 := Lib.hid ((hb.block _ (heap_lt HH1.out)).trans HH1.out)
  have HS2 := Lib.hid ((hb.block _ (heap_lt HS1.out)).trans HS1.out)
  have HA2 := Lib.hid ((hb.block _ (heap_lt HA1.out)).trans HA1.out)
  have HB2 := Lib.hid (HB1.out.trans (hb.mono HB1.out.size))
  clear ho hb hc hm r HH1 HS1 HA1 HB1 R1_1
  go_wp2_with (refine wpList_load_row rfl 49 (.tmp 4) rfl (w.heap.size + 1) rfl 49 _ (0, 0) _ HS2.out Try.underlying49 rfl (info_seli HL1.out HL2.out) ?_)
  refine (PutSelect_c v f1 b f2 l1 l2 HF1.out HF2.out HL1.out HL2.out w2).mono ?_
  rintro _ w3 ⟨x, rfl, ho, hb⟩
  rw [QE2.out]
  rw [QK2.out] at ho
  obtain ⟨A3, c3, rfl, hc, hm, r, _⟩ := OwnB.form ho
  rw [QN2.out] at hc ⊢
  have M3 : Hid (n2 ≤ c3 ∧ c3 ≤ maxLen) := Lib.hid ⟨hc, hm⟩
  have R3_3 := Lib.hid r
  have R1_3 := Lib.hid (R1_2.out.below hb)
  have R2_3 := Lib.hid (R2_2.out.below hb)
  have HH3 := Lib.hid ((hb.block _ (heap_lt HH2.out)).trans HH2.out)
  have HS3 := Lib.hid ((hb.block _ (heap_lt HS2.out)).trans HS2.out)
  have HA3 := Lib.hid ((hb.block _ (heap_lt HA2.out)).trans HA2.out)
  have HB3 := Lib.hid (HB2.out.trans (hb.mono HB2.out.size))
  clear ho hb hc hm r HH2 HS2 HA2 HB2 R1_2 R2_2
  go_wp2_with (refine wpList_load_row rfl 49 (.tmp 4) rfl (w.heap.size + 1) rfl 49 _ (0, 0) _ HS3.out Try.underlying49 rfl (info_seli HL1.out HL2.out) ?_)
  refine (refPutSelect_c v f1 b f2 l1 l2 HF1.out HF2.out HL1.out HL2.out w3).mono ?_
  rintro _ w4 ⟨x, rfl, ho, hb⟩
  rw [QE2.out]
  rw [QK2.out] at ho
  obtain ⟨A4, c4, rfl, hc, hm, r, _⟩ := OwnB.form ho
  rw [QN2.out] at hc ⊢
  have M4 : Hid (n2 ≤ c4 ∧ c4 ≤ maxLen) := Lib.hid ⟨hc, hm⟩
  have R4_4 := Lib.hid r
  have R1_4 := Lib.hid (R1_3.out.below hb)
  have R2_4 := Lib.hid (R2_3.out.below hb)
  have R3_4 := Lib.hid (R3_3.out.below hb)
  have HH4 := Lib.hid ((hb.block _ (heap_lt HH3.out)).trans HH3.out)
  have HS4 := Lib.hid ((hb.block _ (heap_lt HS3.out)).trans HS3.out)
  have HA4 := Lib.hid ((hb.block _ (heap_lt HA3.out)).trans HA3.out)
  have HB4 := Lib.hid (HB3.out.trans (hb.mono HB3.out.size))
  clear ho hb hc hm r HH3 HS3 HA3 HB3 R1_3 R2_3 R3_3
  obtain ⟨K3, eK3⟩ : ∃ L, encF (crF 0 [l3]) = L := ⟨_, rfl⟩
  obtain ⟨n3, en3⟩ : ∃ n, K3.length = n := ⟨_, rfl⟩
  have QK3 := Lib.hid eK3
  have QN3 := Lib.hid en3
  clear eK3 en3 HH4 HS4
  have dE1 : ((E1 : Int) == (E1 : Int)) = true := by simp
  have dE2 : ((E2 : Int) == (E2 : Int)) = true := by simp
  go_upto_region 5 with (fail)
  refine wp_region_rw 63 [Rl.eq (.bool true), Rl.eq (.bool true), Rl.eq (.int .i64 E1), Rl.eq (.int .i64 E1), Rl.eq (.bool true), Rl.eq (.bool true), Rl.eq (.bool true), Rl.eq (.slice A1 n1 c1), Rl.eq (.slice A2 n1 c2), Rl.eq (.bool true), Rl.eq (.bool true), Rl.eq (.bool true), Rl.eq (.int .i64 E2), Rl.eq (.int .i64 E2), Rl.eq (.bool true), Rl.eq (.bool true), Rl.eq (.bool true), Rl.eq (.slice A3 n2 c3), Rl.eq (.slice A4 n2 c4), Rl.eq (.bool true), Rl.eq (.bool true), Rl.eq (.bool true), Rl.eq (.agg (a32C l3)), Rl.txt n3 K3, Rl.eq (.agg (a32C l3)), Rl.txt n3 K3, Rl.eq (.bool true), Rl.eq (.bool true), Rl.eq (.bool true)] [35, 36, 37, 38, 39, 40, 41, 42, 43, 44, 45, 46, 47, 48, 49, 50, 51, 52, 53, 54, 55, 56, 57, 58, 59, 60, 61, 62, 6] (by kernel_rfl) rfl (by kernel_rfl) (by kernel_rfl) ?_ ?_
  · repeat (first | exact AllFrom.nil_ | (refine AllFrom.cons_ (by rfl) ?_ ?_; rotate_left))
    · intro f w' g hF hD
      rw [if_pos (wanted_none rfl)]
      clear hF hD
      refine gives_func rfl Try.func9 (by kernel_rfl) rfl (args := #[]) (by simp) ((fixedB_c w').mono ?_)
      rintro e w'' ⟨rfl, hb⟩
      exact ⟨_, rfl, hb, rfl⟩
    · intro f w' g hF hD
      have h35 : f 35 = (.bool true) := hD 0 35 (by kernel_rfl) rfl
      rw [if_pos (wanted_none rfl)]
      clear hF hD
      exact gives_val (by simp only [execOp, evF, h35]; first | rfl | go_simp) ⟨Gr.refl _, rfl⟩
    · intro f w' g hF hD
      have h8 : f 8 = .int .i64 E1 := hF 8 (by kernel_rfl)
      rw [if_pos (wanted_some (d := 36) rfl rfl (hD 1 36 (by kernel_rfl) rfl))]
      clear hF hD
      exact gives_val (by simp only [execOp, evF, h8]; first | rfl | go_simp) ⟨Gr.refl _, rfl⟩
    · intro f w' g hF hD
      have h10 : f 10 = .int .i64 E1 := hF 10 (by kernel_rfl)
      rw [if_pos (wanted_some (d := 36) rfl rfl (hD 1 36 (by kernel_rfl) rfl))]
      clear hF hD
      exact gives_val (by simp only [execOp, evF, h10]; first | rfl | go_simp) ⟨Gr.refl _, rfl⟩
    · intro f w' g hF hD
      have h37 : f 37 = (.int .i64 E1) := hD 2 37 (by kernel_rfl) rfl
      have h38 : f 38 = (.int .i64 E1) := hD 3 38 (by kernel_rfl) rfl
      rw [if_pos (wanted_some (d := 36) rfl rfl (hD 1 36 (by kernel_rfl) rfl))]
      clear hF hD
      exact gives_val (by simp only [execOp, evF, h37, h38]; first | rfl | go_simp) ⟨Gr.refl _, rfl⟩
    · intro f w' g hF hD
      have h36 : f 36 = (.bool true) := hD 1 36 (by kernel_rfl) rfl
      have h39 : f 39 = (.bool true) := hD 4 39 (by kernel_rfl) rfl
      rw [if_pos (wanted_none rfl)]
      clear hF hD
      exact gives_val (by simp only [execOp, evF, h36, h39]; first | rfl | go_simp) ⟨Gr.refl _, rfl⟩
    · intro f w' g hF hD
      have h40 : f 40 = (.bool true) := hD 5 40 (by kernel_rfl) rfl
      rw [if_pos (wanted_none rfl)]
      clear hF hD
      exact gives_val (by simp only [execOp, evF, h40]; first | rfl | go_simp) ⟨Gr.refl _, rfl⟩
    · intro f w' g hF hD
      have h7 : f 7 = .slice A1 n1 c1 := hF 7 (by kernel_rfl)
      rw [if_pos (wanted_some (d := 41) rfl rfl (hD 6 41 (by kernel_rfl) rfl))]
      clear hF hD
      exact gives_val (by simp only [execOp, evF, h7]; first | rfl | go_simp) ⟨Gr.refl _, rfl⟩
    · intro f w' g hF hD
      have h9 : f 9 = .slice A2 n1 c2 := hF 9 (by kernel_rfl)
      rw [if_pos (wanted_some (d := 41) rfl rfl (hD 6 41 (by kernel_rfl) rfl))]
      clear hF hD
      exact gives_val (by simp only [execOp, evF, h9]; first | rfl | go_simp) ⟨Gr.refl _, rfl⟩
    · intro f w' g hF hD
      have h42 : f 42 = (.slice A1 n1 c1) := hD 7 42 (by kernel_rfl) rfl
      have h43 : f 43 = (.slice A2 n1 c2) := hD 8 43 (by kernel_rfl) rfl
      rw [if_pos (wanted_some (d := 41) rfl rfl (hD 6 41 (by kernel_rfl) rfl))]
      clear hF hD
      have kg : Below w4.heap.size w4 w' := (below_drewN (Below.refl _ _) 1).trans g
      refine gives_func rfl Try.func13 (by kernel_rfl) rfl (by simp only [List.map_toArray, List.map_cons, List.map_nil, evF, h42, h43]) ((Same_t A1 A2 n1 n1 c1 c2 K1 w' QN1.out QN1.out (R1_4.out.below kg) (R2_4.out.below kg) (Nat.le_trans M1.out.1 M1.out.2)).mono ?_)
      rintro e w'' ⟨rfl, q, rfl⟩
      exact ⟨_, rfl, below_drewN (Below.refl _ _) q, rfl⟩
    · intro f w' g hF hD
      have h41 : f 41 = (.bool true) := hD 6 41 (by kernel_rfl) rfl
      have h44 : f 44 = (.bool true) := hD 9 44 (by kernel_rfl) rfl
      rw [if_pos (wanted_none rfl)]
      clear hF hD
      exact gives_val (by simp only [execOp, evF, h41, h44]; first | rfl | go_simp) ⟨Gr.refl _, rfl⟩
    · intro f w' g hF hD
      have h45 : f 45 = (.bool true) := hD 10 45 (by kernel_rfl) rfl
      rw [if_pos (wanted_none rfl)]
      clear hF hD
      exact gives_val (by simp only [execOp, evF, h45]; first | rfl | go_simp) ⟨Gr.refl _, rfl⟩
    · intro f w' g hF hD
      have h12 : f 12 = .int .i64 E2 := hF 12 (by kernel_rfl)
      rw [if_pos (wanted_some (d := 46) rfl rfl (hD 11 46 (by kernel_rfl) rfl))]
      clear hF hD
      exact gives_val (by simp only [execOp, evF, h12]; first | rfl | go_simp) ⟨Gr.refl _, rfl⟩
    · intro f w' g hF hD
      have h14 : f 14 = .int .i64 E2 := hF 14 (by kernel_rfl)
      rw [if_pos (wanted_some (d := 46) rfl rfl (hD 11 46 (by kernel_rfl) rfl))]
      clear hF hD
      exact gives_val (by simp only [execOp, evF, h14]; first | rfl | go_simp) ⟨Gr.refl _, rfl⟩
    · intro f w' g hF hD
      have h47 : f 47 = (.int .i64 E2) := hD 12 47 (by kernel_rfl) rfl
      have h48 : f 48 = (.int .i64 E2) := hD 13 48 (by kernel_rfl) rfl
      rw [if_pos (wanted_some (d := 46) rfl rfl (hD 11 46 (by kernel_rfl) rfl))]
      clear hF hD
      exact gives_val (by simp only [execOp, evF, h47, h48]; first | rfl | go_simp) ⟨Gr.refl _, rfl⟩
    · intro f w' g hF hD
      have h46 : f 46 = (.bool true) := hD 11 46 (by kernel_rfl) rfl
      have h49 : f 49 = (.bool true) := hD 14 49 (by kernel_rfl) rfl
      rw [if_pos (wanted_none rfl)]
      clear hF hD
      exact gives_val (by simp only [execOp, evF, h46, h49]; first | rfl | go_simp) ⟨Gr.refl _, rfl⟩
    · intro f w' g hF hD
      have h50 : f 50 = (.bool true) := hD 15 50 (by kernel_rfl) rfl
      rw [if_pos (wanted_none rfl)]
      clear hF hD
      exact gives_val (by simp only [execOp, evF, h50]; first | rfl | go_simp) ⟨Gr.refl _, rfl⟩
    · intro f w' g hF hD
      have h11 : f 11 = .slice A3 n2 c3 := hF 11 (by kernel_rfl)
      rw [if_pos (wanted_some (d := 51) rfl rfl (hD 16 51 (by kernel_rfl) rfl))]
      clear hF hD
      exact gives_val (by simp only [execOp, evF, h11]; first | rfl | go_simp) ⟨Gr.refl _, rfl⟩
    · intro f w' g hF hD
      have h13 : f 13 = .slice A4 n2 c4 := hF 13 (by kernel_rfl)
      rw [if_pos (wanted_some (d := 51) rfl rfl (hD 16 51 (by kernel_rfl) rfl))]
      clear hF hD
      exact gives_val (by simp only [execOp, evF, h13]; first | rfl | go_simp) ⟨Gr.refl _, rfl⟩
    · intro f w' g hF hD
      have h52 : f 52 = (.slice A3 n2 c3) := hD 17 52 (by kernel_rfl) rfl
      have h53 : f 53 = (.slice A4 n2 c4) := hD 18 53 (by kernel_rfl) rfl
      rw [if_pos (wanted_some (d := 51) rfl rfl (hD 16 51 (by kernel_rfl) rfl))]
      clear hF hD
      have kg : Below w4.heap.size w4 w' := (below_drewN (Below.refl _ _) 1).trans g
      refine gives_func rfl Try.func13 (by kernel_rfl) rfl (by simp only [List.map_toArray, List.map_cons, List.map_nil, evF, h52, h53]) ((Same_t A3 A4 n2 n2 c3 c4 K2 w' QN2.out QN2.out (R3_4.out.below kg) (R4_4.out.below kg) (Nat.le_trans M3.out.1 M3.out.2)).mono ?_)
      rintro e w'' ⟨rfl, q, rfl⟩
      exact ⟨_, rfl, below_drewN (Below.refl _ _) q, rfl⟩
    · intro f w' g hF hD
      have h51 : f 51 = (.bool true) := hD 16 51 (by kernel_rfl) rfl
      have h54 : f 54 = (.bool true) := hD 19 54 (by kernel_rfl) rfl
      rw [if_pos (wanted_none rfl)]
      clear hF hD
      exact gives_val (by simp only [execOp, evF, h51, h54]; first | rfl | go_simp) ⟨Gr.refl _, rfl⟩
    · intro f w' g hF hD
      have h55 : f 55 = (.bool true) := hD 20 55 (by kernel_rfl) rfl
      rw [if_pos (wanted_none rfl)]
      clear hF hD
      exact gives_val (by simp only [execOp, evF, h55]; first | rfl | go_simp) ⟨Gr.refl _, rfl⟩
    · intro f w' g hF hD
      have h5 : f 5 = .pointer (some ⟨w.heap.size + 1 + 1, 0, none⟩) := hF 5 (by kernel_rfl)
      rw [if_pos (wanted_some (d := 56) rfl rfl (hD 21 56 (by kernel_rfl) rfl))]
      clear hF hD
      have kg : Below w4.heap.size w4 w' := (below_drewN (Below.refl _ _) 1).trans g
      exact gives_load_row 47 (.tmp 5) rfl (w.heap.size + 1 + 1) (by simp only [evF, h5]) 47 (a32C l3) (0, 0) _ ((kg.block _ (heap_lt HA4.out)).trans HA4.out) Try.underlying47 rfl (info_a32c.trans (a32_size HL3.out)) ⟨Gr.refl _, rfl⟩
    · intro f w' g hF hD
      have h57 : f 57 = (.agg (a32C l3)) := hD 22 57 (by kernel_rfl) rfl
      rw [if_pos (wanted_some (d := 56) rfl rfl (hD 21 56 (by kernel_rfl) rfl))]
      clear hF hD
      refine gives_func rfl Try.func19 (by kernel_rfl) rfl (by simp only [List.map_toArray, List.map_cons, List.map_nil, evF, h57]) ((PutConfirm_c l3 HL3.out w').mono ?_)
      rintro e w'' ⟨x, rfl, ho, hb⟩
      rw [QK3.out] at ho
      obtain ⟨A5, c5, rfl, hc5, hm5, r5, _⟩ := OwnB.form ho
      rw [QN3.out] at hc5 ⊢
      exact ⟨_, rfl, hb, _, _, rfl, QN3.out, r5, hc5, hm5⟩
    · intro f w' g hF hD
      have h5 : f 5 = .pointer (some ⟨w.heap.size + 1 + 1, 0, none⟩) := hF 5 (by kernel_rfl)
      rw [if_pos (wanted_some (d := 56) rfl rfl (hD 21 56 (by kernel_rfl) rfl))]
      clear hF hD
      have kg : Below w4.heap.size w4 w' := (below_drewN (Below.refl _ _) 1).trans g
      exact gives_load_row 47 (.tmp 5) rfl (w.heap.size + 1 + 1) (by simp only [evF, h5]) 47 (a32C l3) (0, 0) _ ((kg.block _ (heap_lt HA4.out)).trans HA4.out) Try.underlying47 rfl (info_a32c.trans (a32_size HL3.out)) ⟨Gr.refl _, rfl⟩
    · intro f w' g hF hD
      have h59 : f 59 = (.agg (a32C l3)) := hD 24 59 (by kernel_rfl) rfl
      rw [if_pos (wanted_some (d := 56) rfl rfl (hD 21 56 (by kernel_rfl) rfl))]
      clear hF hD
      refine gives_func rfl Try.func20 (by kernel_rfl) rfl (by simp only [List.map_toArray, List.map_cons, List.map_nil, evF, h59]) ((refPutConfirm_c l3 HL3.out w').mono ?_)
      rintro e w'' ⟨x, rfl, ho, hb⟩
      rw [QK3.out] at ho
      obtain ⟨A5, c5, rfl, hc5, hm5, r5, _⟩ := OwnB.form ho
      rw [QN3.out] at hc5 ⊢
      exact ⟨_, rfl, hb, _, _, rfl, QN3.out, r5, hc5, hm5⟩
    · intro f w' g hF hD
      have q58 := hD 23 58 (by kernel_rfl) rfl
      have q60 := hD 25 60 (by kernel_rfl) rfl
      rw [if_pos (wanted_some (d := 56) rfl rfl (hD 21 56 (by kernel_rfl) rfl))]
      clear hF hD
      obtain ⟨B1, d1, h58, s1, r1, l1', m1'⟩ := q58
      obtain ⟨B2, d2, h60, s2, r2, _, _⟩ := q60
      refine gives_func rfl Try.func13 (by kernel_rfl) rfl (by simp only [List.map_toArray, List.map_cons, List.map_nil, evF, h58, h60]) ((Same_t B1 B2 n3 n3 d1 d2 K3 w' s1 s2 r1 r2 (Nat.le_trans l1' m1')).mono ?_)
      rintro e w'' ⟨rfl, q, rfl⟩
      exact ⟨_, rfl, below_drewN (Below.refl _ _) q, rfl⟩
    · intro f w' g hF hD
      have h56 : f 56 = (.bool true) := hD 21 56 (by kernel_rfl) rfl
      have h61 : f 61 = (.bool true) := hD 26 61 (by kernel_rfl) rfl
      rw [if_pos (wanted_none rfl)]
      clear hF hD
      exact gives_val (by simp only [execOp, evF, h56, h61]; first | rfl | go_simp) ⟨Gr.refl _, rfl⟩
    · intro f w' g hF hD
      have h62 : f 62 = (.bool true) := hD 27 62 (by kernel_rfl) rfl
      rw [if_pos (wanted_none rfl)]
      clear hF hD
      exact gives_val (by simp only [execOp, evF, h62]; first | rfl | go_simp) ⟨Gr.refl _, rfl⟩
  intro f' w5 g hD
  have h6 : f' 6 = .bool true := hD 28 6 rfl
  have HB5 := Lib.hid (HB4.out.trans (((below_drewN (Below.refl _ _) 1).trans g).mono HB4.out.size))
  simp only [putAll, List.setIfInBounds_toArray, List.set_cons_zero, List.set_cons_succ, h6]
  clear h6 hD g
  go_wp2_with (fail)
  go_ret
  exact ⟨rfl, HB5.out⟩
end Go.Proofs.Ytcffinkkfdfcaaa
