/- Parts one behind the other: What the reference's GetHello answers; A tag's cells; What feat.Ceiling, feat.May and the reference's May answer; What bytes say as a Select: plain data; What body.list and the reference's critical lay: critical items of the kinds 1 and up; What PutConfirm and PutHello lay; What PutHello and the reference's PutHello lay. Conditions: as told at each. -/
import Derived.Test.YtcffinkkfdfcaaaPB15
import Derived.Test.YtcffinkkfdfcaaaPB16
import Derived.Great.BuildSlice
import Derived.Test.YtcffinkkfdfcaaaPB1
import Derived.Laws.BitsAllLaws
import Derived.Test.YtcffinkkfdfcaaaPB13
import Derived.Test.YtcffinkkfdfcaaaPB2
import Derived.Test.YtcffinkkfdfcaaaPB3

set_option linter.unusedVariables false
set_option linter.unusedSimpArgs false
/- What the reference's GetHello answers. Conditions: bytes that can be read. -/
namespace Go.Proofs.Ytcffinkkfdfcaaa
open Go Go.RowKit

theorem ref_hello_results (tmps : Array Value) (g : Nat) (t : TypeId) (cs : Array Value) (fr : Nat × Nat) (y : Int) (h2 : tmps.getD 2 undef = .pointer (some ⟨g, 0, none⟩)) (h3 : tmps.getD 3 undef = .int .i64 y) (w : World) (hg : w.heap[g]? = some (.cells cs t fr)) (hi : (Try.prog.info? 44).map (·.size) = some cs.size) :
    (results Try.f22 tmps).run Try.prog w = .ok (.tuple #[.agg cs, .int .i64 y]) w := by
  have h2' : tmps[2]?.getD undef = .pointer (some ⟨g, 0, none⟩) := by simpa using h2
  have h3' : tmps[3]?.getD undef = .int .i64 y := by simpa using h3
  simp [results, Try.results22, h2', h3', asAddr, run_loadVar_row w g t 44 cs fr _ hg Try.underlying44 rfl hi]
/-- A block of a Hello's cells, made from block B on. -/
def Rl.hel (B mx ft : Nat) (l : List UInt8) : Rl := ⟨fun w v => ∃ g, v = .pointer (some ⟨g, 0, none⟩) ∧ B ≤ g ∧ w.heap[g]? = some (.cells (helC mx ft l).toArray 44 (0, 0)), fun ⟨g, h, hB, r⟩ hb => ⟨g, h, hB, (hb.block g (heap_lt r)).trans r⟩⟩
theorem keepB1 {g B i : Nat} {v : Value} {a b : World} (hg : g < B) (h : a.cell? ⟨g, i, none⟩ = some v) (hb : Below B a b) : b.cell? ⟨g, i, none⟩ = some v := (hb.cell (p := ⟨g, i, none⟩) hg).trans h
theorem i64w {n : Nat} (h : n < 256) : IntKind.i64.wrap (n : Int) = (n : Int) := by
  unfold IntKind.wrap
  simp [IntKind.bits, IntKind.signed]
  omega
theorem RdS.at3 {w : World} {X : Option Addr} {b0 b1 b2 : List UInt8} (h : RdS w X [b0, b1, b2]) : ∃ b off, X = some ⟨b, off, none⟩ ∧ b < w.heap.size ∧
    (∃ A c, w.cell? ⟨b, off, none⟩ = some (.slice A b0.length c) ∧ Rd w A (b0.map bv)) ∧ (∃ A c, w.cell? ⟨b, off + 1, none⟩ = some (.slice A b1.length c) ∧ Rd w A (b1.map bv)) ∧ (∃ A c, w.cell? ⟨b, off + 2, none⟩ = some (.slice A b2.length c) ∧ Rd w A (b2.map bv)) := by
  obtain ⟨b, off, e, hb, hc⟩ := h.addr (by simp)
  refine ⟨b, off, e, hb, ?_, ?_, ?_⟩
  · obtain ⟨A, c, q1, q2, -⟩ := hc 0 (by simp); exact ⟨A, c, q1, q2⟩
  · obtain ⟨A, c, q1, q2, -⟩ := hc 1 (by simp); exact ⟨A, c, q1, q2⟩
  · obtain ⟨A, c, q1, q2, -⟩ := hc 2 (by simp); exact ⟨A, c, q1, q2⟩
set_option maxRecDepth 100000 in
set_option maxHeartbeats 4000000 in
theorem refGetHello_c (bs : List UInt8) (A : Option Addr) (n c : Nat) (w : World) (hn : bs.length = n) (hr : Rd w A (bs.map bv)) (hc : n ≤ c) (hcm : c ≤ maxLen) (hl : n ≤ 140737488355328) :
    Calls Try.prog 22 #[.slice A n c] w fun r w' => r = .returned (.tuple #[(helR bs).val, .int .i64 (helE bs : Int)]) ∧ Below w.heap.size w w' := by
  have HN := Lib.hid hn
  have HC := Lib.hid hc
  have HCM := Lib.hid hcm
  obtain ⟨w1, ew1⟩ : ∃ w1, w1 = w.alloc (.cells #[.int .i64 0, .int .u32 0, .int .u8 0, .int .u8 0, .int .u8 0, .int .u8 0, .int .u8 0, .int .u8 0, .int .u8 0, .int .u8 0, .int .u8 0, .int .u8 0, .int .u8 0, .int .u8 0, .int .u8 0, .int .u8 0, .int .u8 0, .int .u8 0] 44) := ⟨_, rfl⟩
  obtain ⟨gr, egr⟩ : ∃ gr, gr = w.heap.size := ⟨_, rfl⟩
  have b1 : Below w.heap.size w w1 := by rw [ew1]; exact (Below.refl _ _).alloc (Nat.le_refl _) _
  have g1 : w1.heap[gr]? = some (.cells (helC 0 0 (zerB 16)).toArray 44 (0, 0)) := by rw [ew1, egr, ← hel_zero]; exact heap_alloc_new _ _
  obtain ⟨w2, ew2⟩ : ∃ w2, w2 = w1.alloc (.cells #[.int .i64 1, .int .i64 4, .int .i64 16] 3) := ⟨_, rfl⟩
  obtain ⟨g2, eg2⟩ : ∃ g2, g2 = w1.heap.size := ⟨_, rfl⟩
  have b2 : Below w1.heap.size w1 w2 := by rw [ew2]; exact (Below.refl _ _).alloc (Nat.le_refl _) _
  have HZ : Hid (RdI w2 (some ⟨g2, 0, none⟩) (nI [1, 4, 16])) := Lib.hid (.inr ⟨g2, 0, rfl, by rw [ew2, eg2]; simp, fun k hk => by
    have hh : w2.heap[g2]? = some (.cells #[.int .i64 1, .int .i64 4, .int .i64 16] 3 (0, 0)) := by rw [ew2, eg2]; exact heap_alloc_new _ _
    rw [Nat.zero_add, heap_cell hh]
    have : k = 0 ∨ k = 1 ∨ k = 2 := by simp [nI] at hk; omega
    rcases this with rfl | rfl | rfl <;> rfl⟩)
  have HG2 : Hid (w2.heap[gr]? = some (.cells (helC 0 0 (zerB 16)).toArray 44 (0, 0))) := Lib.hid ((b2.block gr (heap_lt g1)).trans g1)
  have HB2 := Lib.hid (b1.trans (b2.mono b1.size))
  have HR2 := Lib.hid ((hr.below b1).below b2)
  have EW1 := Lib.hid ew1
  have EW2 := Lib.hid ew2
  have EGR := Lib.hid egr
  have EG2 := Lib.hid eg2
  obtain ⟨E, eE⟩ : ∃ E, helE bs = E := ⟨_, rfl⟩
  obtain ⟨R, eR⟩ : ∃ R, helR bs = R := ⟨_, rfl⟩
  rw [eE, eR]
  have HE := Lib.hid eE
  have HRR := Lib.hid eR
  clear ew1 ew2 egr eg2 b1 b2 g1 hn hr hc hcm eE eR
  go_enter Try.func22, Try.ntmps22
  go_upto_region 1 with (fail)
  rw [← EW1.out, ← EGR.out]
  go_wp2_with (fail)
  rw [← EW2.out, ← EG2.out]
  refine (sizes_c bs A n c [1, 4, 16] (some ⟨g2, 0, none⟩) 3 3 w2 HN.out HR2.out HC.out HCM.out hl HZ.out rfl (by decide) (by decide)).mono ?_
  rintro _ w3 ⟨v3, rfl, hX, hb3⟩
  have hE0 : szE bs [1, 4, 16] = (helS4 bs).err := rfl
  obtain ⟨E0, eE0⟩ : ∃ E0, (helS4 bs).err = E0 := ⟨_, rfl⟩
  rw [hE0, eE0] at hX ⊢
  have HE0 := Lib.hid eE0
  have HG3 := Lib.hid ((hb3.block gr (heap_lt HG2.out)).trans HG2.out)
  have HB3 := Lib.hid (HB2.out.trans (hb3.mono HB2.out.size))
  have HXX := Lib.hid hX
  clear hE0 eE0 hX hb3
  by_cases h0 : E0 = 0
  · have d0 : ((E0 : Int) != 0) = false := by rw [h0]; rfl
    obtain ⟨X, cX, rfl, hX⟩ := HXX.out h0
    have hX' : RdS w3 X [byB (helS1 bs) 1, byB (helS2 bs) 4, byB (helS3 bs) 16] := hX
    obtain ⟨bx, ox, rfl, hbx, ⟨A0, c0, x0, r0⟩, ⟨A1, c1, x1, r1⟩, ⟨A2, c2, x2, r2⟩⟩ := hX'.at3
    rw [byB_len] at x0 x1 x2
    obtain ⟨M, hM⟩ : ∃ M, oneN (helS1 bs) = M := ⟨_, rfl⟩
    obtain ⟨F, hF⟩ : ∃ F, fourN (helS2 bs) = F := ⟨_, rfl⟩
    obtain ⟨NC, hNC⟩ : ∃ NC, byB (helS3 bs) 16 = NC := ⟨_, rfl⟩
    rw [hNC] at r2
    obtain ⟨b4, hb4⟩ : ∃ b4, byB (helS2 bs) 4 = b4 := ⟨_, rfl⟩
    rw [hb4] at r1
    have hbF : beN b4 = F := by rw [← hb4]; exact hF
    have hl4 : b4.length = 4 := by rw [← hb4]; exact byB_len _ _
    have hlN : NC.length = 16 := by rw [← hNC]; exact byB_len _ _
    obtain ⟨x, ex⟩ : ∃ x, byB (helS1 bs) 1 = [x] := by
      match q : byB (helS1 bs) 1, byB_len (helS1 bs) 1 with
      | [x], _ => exact ⟨x, rfl⟩
    rw [ex] at r0
    obtain ⟨b0, o0, rfl, hlt0, hc0⟩ := r0.addrB (by simp)
    have y0 : w3.cell? ⟨b0, o0, none⟩ = some (.int .u8 (M : Int)) := by
      have := hc0 0 (by simp)
      rw [← hM]; unfold oneN; rw [ex]
      exact this
    have hM256 : M < 256 := by rw [← hM]; unfold oneN; exact UInt8.toNat_lt _
    have hF32 : F < 4294967296 := by rw [← hbF]; have := beN_lt b4; rw [hl4] at this; exact this
    have hwF := u32_u64w hF32
    have hwM := i64w hM256
    have HL4 := Lib.hid hl4
    have HLN := Lib.hid hlN
    have HBF := Lib.hid hbF
    have HR1 := Lib.hid r1
    have HR2b := Lib.hid r2
    have HM := Lib.hid hM
    have HFF := Lib.hid hF
    have HNC := Lib.hid hNC
    have H0 := Lib.hid h0
    clear h0 hX hX' r0 r1 r2 hc0 hl4 hlN hbF hb4 ex hM hF hNC hF32
    go_upto_region 4 with (fail)
    refine wp_region_rt 48 14 [Rl.eq (.slice (some ⟨bx, ox, none⟩) 3 cX), Rl.eq (.pointer (some ⟨bx, ox, none⟩)), Rl.eq (.slice (some ⟨b0, o0, none⟩) 1 c0), Rl.eq (.pointer (some ⟨b0, o0, none⟩)), Rl.eq (.int .u8 (M : Int)), Rl.eq (.int .i64 (M : Int)), Rl.eq (.slice (some ⟨bx, ox, none⟩) 3 cX), Rl.eq (.pointer (some ⟨bx, ox + 1, none⟩)), Rl.eq (.slice A1 4 c1), Rl.eq (.int .u64 (F : Int)), Rl.eq (.int .u32 (F : Int)), Rl.eq (.agg #[.int .i64 (M : Int), .int .u32 (F : Int)]), Rl.eq (helV M F (zerB 16)), Rl.hel w3.heap.size 0 0 (zerB 16)] [17, 18, 19, 20, 21, 22, 23, 24, 25, 26, 27, 28, 29, 6] (by kernel_rfl) rfl (by kernel_rfl) (by kernel_rfl) (by decide) (by kernel_rfl) (by kernel_rfl) ?_ ?_
    · simp only [List.take_succ_cons, List.take_zero]
      repeat (first | exact AllFrom.nil_ | (refine AllFrom.cons_ (by rfl) ?_ ?_; rotate_left))
      · intro f w' g hF hD
        have h4 : f 4 = .slice (some ⟨bx, ox, none⟩) 3 cX := hF 4 (by kernel_rfl)
        rw [if_pos (wanted_none rfl)]
        clear hF hD
        exact gives_val (by simp only [execOp, evF, h4]; first | rfl | go_simp) ⟨Gr.refl _, rfl⟩
      · intro f w' g hF hD
        have h17 : f 17 = (.slice (some ⟨bx, ox, none⟩) 3 cX) := hD 0 17 (by kernel_rfl) rfl
        rw [if_pos (wanted_none rfl)]
        clear hF hD
        exact gives_val (by simp only [execOp, evF, h17]; first | rfl | go_simp) ⟨Gr.refl _, rfl⟩
      · intro f w' g hF hD
        have h18 : f 18 = (.pointer (some ⟨bx, ox, none⟩)) := hD 1 18 (by kernel_rfl) rfl
        rw [if_pos (wanted_none rfl)]
        clear hF hD
        have cl : w'.cell? ⟨bx, ox, none⟩ = some (.slice (some ⟨b0, o0, none⟩) 1 c0) := (g.cell (p := ⟨bx, ox, none⟩) hbx).trans x0
        exact gives_val (by simp only [execOp, evF, h18]; go_simp) ⟨Gr.refl _, rfl⟩
      · intro f w' g hF hD
        have h19 : f 19 = (.slice (some ⟨b0, o0, none⟩) 1 c0) := hD 2 19 (by kernel_rfl) rfl
        rw [if_pos (wanted_none rfl)]
        clear hF hD
        exact gives_val (by simp only [execOp, evF, h19]; first | rfl | go_simp) ⟨Gr.refl _, rfl⟩
      · intro f w' g hF hD
        have h20 : f 20 = (.pointer (some ⟨b0, o0, none⟩)) := hD 3 20 (by kernel_rfl) rfl
        rw [if_pos (wanted_none rfl)]
        clear hF hD
        have cl : w'.cell? ⟨b0, o0, none⟩ = some (.int .u8 (M : Int)) := (g.cell (p := ⟨b0, o0, none⟩) hlt0).trans y0
        exact gives_val (by simp only [execOp, evF, h20]; go_simp) ⟨Gr.refl _, rfl⟩
      · intro f w' g hF hD
        have h21 : f 21 = (.int .u8 (M : Int)) := hD 4 21 (by kernel_rfl) rfl
        rw [if_pos (wanted_none rfl)]
        clear hF hD
        exact gives_val (by simp only [execOp, evF, h21]; first | rfl | go_simp) ⟨Gr.refl _, rfl⟩
      · intro f w' g hF hD
        have h4 : f 4 = .slice (some ⟨bx, ox, none⟩) 3 cX := hF 4 (by kernel_rfl)
        rw [if_pos (wanted_none rfl)]
        clear hF hD
        exact gives_val (by simp only [execOp, evF, h4]; first | rfl | go_simp) ⟨Gr.refl _, rfl⟩
      · intro f w' g hF hD
        have h23 : f 23 = (.slice (some ⟨bx, ox, none⟩) 3 cX) := hD 6 23 (by kernel_rfl) rfl
        rw [if_pos (wanted_none rfl)]
        clear hF hD
        exact gives_val (by simp only [execOp, evF, h23]; first | rfl | go_simp) ⟨Gr.refl _, rfl⟩
      · intro f w' g hF hD
        have h24 : f 24 = (.pointer (some ⟨bx, ox + 1, none⟩)) := hD 7 24 (by kernel_rfl) rfl
        rw [if_pos (wanted_none rfl)]
        clear hF hD
        have cl : w'.cell? ⟨bx, ox + 1, none⟩ = some (.slice A1 4 c1) := (g.cell (p := ⟨bx, ox + 1, none⟩) hbx).trans x1
        exact gives_val (by simp only [execOp, evF, h24]; go_simp) ⟨Gr.refl _, rfl⟩
      · intro f w' g hF hD
        have h25 : f 25 = (.slice A1 4 c1) := hD 8 25 (by kernel_rfl) rfl
        rw [if_pos (wanted_none rfl)]
        clear hF hD
        have kg : Below w3.heap.size w3 w' := (below_drewN (Below.refl _ _) 1).trans g
        refine gives_func rfl Try.func53 (by kernel_rfl) rfl (by simp only [List.map_toArray, List.map_cons, List.map_nil, evF, h25]) ((refNumber_c b4 A1 4 c1 w' HL4.out (HR1.out.below kg) (by decide)).mono ?_)
        rintro e w'' ⟨rfl, rfl⟩
        rw [HBF.out]
        exact ⟨_, rfl, Gr.refl _, rfl⟩
      · intro f w' g hF hD
        have h26 : f 26 = (.int .u64 (F : Int)) := hD 9 26 (by kernel_rfl) rfl
        rw [if_pos (wanted_none rfl)]
        clear hF hD
        exact gives_val (by simp only [execOp, evF, h26]; first | rfl | go_simp) ⟨Gr.refl _, rfl⟩
      · intro f w' g hF hD
        have h22 : f 22 = (.int .i64 (M : Int)) := hD 5 22 (by kernel_rfl) rfl
        have h27 : f 27 = (.int .u32 (F : Int)) := hD 10 27 (by kernel_rfl) rfl
        rw [if_pos (wanted_none rfl)]
        clear hF hD
        exact gives_build 41 _ rfl #[.int .i64 (M : Int), .int .u32 (F : Int)] (by simp only [List.map_toArray, List.map_cons, List.map_nil, evF, h22, h27]; kernel_rfl) ⟨Gr.refl _, rfl⟩
      · intro f w' g hF hD
        have h28 : f 28 = (.agg #[.int .i64 (M : Int), .int .u32 (F : Int)]) := hD 11 28 (by kernel_rfl) rfl
        rw [if_pos (wanted_none rfl)]
        clear hF hD
        exact gives_build 44 _ rfl (helC M F (zerB 16)).toArray (by simp only [List.map_toArray, List.map_cons, List.map_nil, evF, h28]; kernel_rfl) ⟨Gr.refl _, rfl⟩
      · intro f w' g hF hD
        rw [if_pos (wanted_none rfl)]
        clear hF hD
        have kg : Below w3.heap.size w3 w' := (below_drewN (Below.refl _ _) 1).trans g
        exact gives_val (by simp only [execOp, evF]; first | rfl | go_simp) ⟨(Below.refl _ _).alloc (Nat.le_refl _) _, w'.heap.size, rfl, kg.size, heap_alloc_new _ _⟩
    intro f' w4 g hD
    have h29 : f' 29 = helV M F (zerB 16) := hD 12 29 (by decide) rfl
    obtain ⟨g6, h6, hB6, hg6⟩ : ∃ g, f' 6 = .pointer (some ⟨g, 0, none⟩) ∧ w3.heap.size ≤ g ∧ w4.heap[g]? = some (.cells (helC 0 0 (zerB 16)).toArray 44 (0, 0)) := hD 13 6 (by decide) rfl
    simp only [List.drop_succ_cons, List.drop_zero, putAll, List.setIfInBounds_toArray, List.set_cons_zero, List.set_cons_succ, h29, h6]
    refine wpList_store_row rfl 44 (.tmp 6) (.tmp 29) rfl g6 (helC M F (zerB 16)).toArray rfl rfl 44 _ hg6 (info_hel.trans rfl) rfl (hel_one _ _ _) ?_
    obtain ⟨w5, ew5⟩ : ∃ w5, w5 = w4.setRow g6 (helC M F (zerB 16)).toArray := ⟨_, rfl⟩
    rw [← ew5]
    have hg5 : w5.heap[g6]? = some (.cells (helC M F (zerB 16)).toArray 44 (0, 0)) := by rw [ew5]; exact setRow_heap _ _ _ _ _ _ hg6
    have k5 : Keeps (fun j => j = g6) w4 w5 := by rw [ew5]; exact (Zg.row hg6).1
    have kg : Below w3.heap.size w3 w4 := (below_drewN (Below.refl _ _) 1).trans g
    have k35 : Below w3.heap.size w3 w5 := keepsP_b kg k5 hB6 (Nat.le_refl _)
    have hgr3 : gr < w3.heap.size := heap_lt HG3.out
    have HG5 := Lib.hid ((k35.block gr hgr3).trans HG3.out)
    have HB5 := Lib.hid (HB3.out.trans (k35.mono HB3.out.size))
    have HR5 := Lib.hid (HR2b.out.below k35)
    have x5 : w5.cell? ⟨bx, ox + 2, none⟩ = some (.slice A2 16 c2) := (k35.cell (p := ⟨bx, _, none⟩) hbx).trans x2
    have HGS : Hid (gr < g6 ∧ bx < g6 ∧ w.heap.size ≤ g6) := Lib.hid (by have := HB3.out.size; omega)
    have HS0 : Hid (w5.drew.cell? ⟨bx, ox + 2, none⟩ = some (.slice A2 16 c2)) := Lib.hid x5
    have HH5 := Lib.hid hg5
    have HNM : Hid ((NC.map bv).length = Nat.min 16 16) := Lib.hid (by rw [List.length_map, HLN.out]; rfl)
    have HFT : Hid (2 + (NC.map bv).length ≤ (helC M F (zerB 16)).length) := Lib.hid (by rw [HNM.out]; simp [helC, zerB])
    have HSP : Hid (splice (helC M F (zerB 16)) 2 (NC.map bv) = helC M F NC) := Lib.hid (hel_splice _ _ _ _ HLN.out (by simp [zerB]))
    have hbg := HGS.out.2.1
    clear ew5 hg5 k5 kg k35 hgr3 hD g h29 h6 hg6 x0 x1 x2 y0 hwF hwM hlt0 hbx hB6
    go_upto_region 5 with (fail)
    go_region_held3 (fun w' => w'.cell? ⟨bx, ox + 2, none⟩ = some (.slice A2 16 c2)) (first | (with_reducible exact HS0.out) | (with_reducible assumption) | exact keepB1 hbg (by with_reducible assumption) (by with_reducible assumption)) (first
      | (refine step_copy_splice rfl (.tmp 31) (.tmp 34) 25 25 rfl 5 Try.underlying25 (by kernel_rfl) _ _ 16 16 16 c2 rfl rfl g6 2 (helC M F (zerB 16)) 44 HH5.out (NC.map bv) HNM.out (fun hp => ⟨rfl, copy_src HR5.out hp⟩) HFT.out (bv_one _) g6 w5.drew (Below.refl _ _) (Nat.le_refl _) ?_; rw [HSP.out]; intro w6 hg6 hb6; have HB56 := Lib.hid ((below_drewN (Below.refl g6 w5) 1).trans hb6)))
    have hg6' := hg6.out
    have HG6 := Lib.hid ((HB56.out.block gr HGS.out.1).trans HG5.out)
    have HB6 := Lib.hid (HB5.out.trans (HB56.out.mono HGS.out.2.2))
    have a0 : w6.cell? ⟨g6, 0, none⟩ = some (.int .i64 (M : Int)) := (heap_cell hg6' 0).trans rfl
    have HH6 := Lib.hid hg6'
    have HSZ : Hid (some 18 = some (helC M F NC).toArray.size) := Lib.hid (by simp [helC, HLN.out])
    have HSZ2 : Hid ((helC 0 0 (zerB 16)).toArray.size = (helC M F NC).toArray.size) := Lib.hid (by simp [helC, HLN.out, zerB])
    clear hg6' hg6 hb6 x5 HS0 HNM HFT HSP HR5 HB56 HG5 HB5 HH5
    obtain ⟨O, hO⟩ : ∃ O, offB M = O := ⟨_, rfl⟩
    have hE : E = if O = true then 0 else 3 := by
      rw [← HE.out]; unfold helE helS5; rw [HM.out, hO]
      cases O with
      | true => rw [if_pos rfl]; show (badS (helS4 bs) false).err = 0; simp [badS]; exact HE0.out.trans H0.out
      | false => rw [if_neg (by decide)]; show (badS (helS4 bs) true).err = 3; simp [badS, HE0.out.trans H0.out]
    cases O with
    | true =>
      have hE' : E = 0 := by rw [hE, if_pos rfl]
      have eR : R = ⟨M, F, NC⟩ := by rw [← HRR.out]; unfold helR; rw [if_pos (HE.out.trans hE'), HM.out, HFF.out, HNC.out]
      obtain ⟨m1, m3⟩ : 1 ≤ M ∧ M ≤ 3 := of_decide_eq_true hO
      have d1 : decide ((M : Int) < 1) = false := decide_eq_false (by omega)
      have d3 : decide ((3 : Int) < (M : Int)) = false := decide_eq_false (by omega)
      have ER := Lib.hid eR
      have EE := Lib.hid hE'
      clear hE hE' eR hO m1 m3
      go_wp2_with (first
        | (refine wpList_load_row rfl 44 (.tmp 6) rfl g6 rfl 44 _ (0, 0) _ HH6.out Try.underlying44 rfl (info_hel.trans HSZ.out) ?_)
        | (refine wpList_store_row rfl 44 (.tmp 2) (.tmp 47) rfl gr (helC M F NC).toArray rfl rfl 44 _ HG6.out (info_hel.trans HSZ.out) HSZ2.out (hel_one _ _ _) ?_))
      have HBF := Lib.hid (below_setRow (g := gr) HB6.out (Nat.le_of_eq EGR.out.symm) (helC M F NC).toArray)
      refine bodyPost_ret (v := .tuple #[.agg (helC M F NC).toArray, .int .i64 0]) (ref_hello_results _ gr 44 _ (0, 0) 0 rfl rfl _ (setRow_heap w6 gr _ _ _ _ HG6.out) (info_hel.trans HSZ.out)) rfl ?_
      rw [ER.out, EE.out]
      exact ⟨rfl, HBF.out⟩
    | false =>
      have hE' : E = 3 := by rw [hE, if_neg (by decide)]
      have eR : R = ⟨0, 0, zerB 16⟩ := by rw [← HRR.out]; unfold helR; rw [if_neg (by rw [HE.out, hE']; decide)]
      have hO' : ¬ (1 ≤ M ∧ M ≤ 3) := of_decide_eq_false hO
      have ER := Lib.hid eR
      have EE := Lib.hid hE'
      clear hE hE' eR hO
      have hw : M < 1 ∨ 1 ≤ M ∧ 3 < M := by omega
      clear hO'
      rcases hw with m1 | ⟨m1, m3⟩
      · have d1 : decide ((M : Int) < 1) = true := decide_eq_true (by omega)
        clear m1
        go_upto_region 7 with (fail)
        go_wp2_with (first
          | (refine wpList_buildTo rfl 44 #[] rfl _ rfl (helC 0 0 (zerB 16)).toArray (by kernel_rfl) ?_)
          | (refine wpList_store_row rfl 44 (.tmp 2) (.tmp 46) rfl gr (helC 0 0 (zerB 16)).toArray rfl rfl 44 _ HG6.out (info_hel.trans rfl) rfl (hel_one _ _ _) ?_))
        have HBF := Lib.hid (below_setRow (g := gr) HB6.out (Nat.le_of_eq EGR.out.symm) (helC 0 0 (zerB 16)).toArray)
        refine bodyPost_ret (v := .tuple #[.agg (helC 0 0 (zerB 16)).toArray, .int .i64 3]) (ref_hello_results _ gr 44 _ (0, 0) 3 rfl rfl _ (setRow_heap w6 gr _ _ _ _ HG6.out) (info_hel.trans rfl)) rfl ?_
        rw [ER.out, EE.out]
        exact ⟨rfl, HBF.out⟩
      · have d1 : decide ((M : Int) < 1) = false := decide_eq_false (by omega)
        have d3 : decide ((3 : Int) < (M : Int)) = true := decide_eq_true (by omega)
        clear m1 m3
        go_upto_region 7 with (fail)
        go_wp2_with (first
          | (refine wpList_buildTo rfl 44 #[] rfl _ rfl (helC 0 0 (zerB 16)).toArray (by kernel_rfl) ?_)
          | (refine wpList_store_row rfl 44 (.tmp 2) (.tmp 46) rfl gr (helC 0 0 (zerB 16)).toArray rfl rfl 44 _ HG6.out (info_hel.trans rfl) rfl (hel_one _ _ _) ?_))
        have HBF := Lib.hid (below_setRow (g := gr) HB6.out (Nat.le_of_eq EGR.out.symm) (helC 0 0 (zerB 16)).toArray)
        refine bodyPost_ret (v := .tuple #[.agg (helC 0 0 (zerB 16)).toArray, .int .i64 3]) (ref_hello_results _ gr 44 _ (0, 0) 3 rfl rfl _ (setRow_heap w6 gr _ _ _ _ HG6.out) (info_hel.trans rfl)) rfl ?_
        rw [ER.out, EE.out]
        exact ⟨rfl, HBF.out⟩
  · have d0 : ((E0 : Int) != 0) = true := by rw [bne_iff_ne]; omega
    have hE : E = E0 := by rw [← HE.out]; unfold helE helS5; rw [badS_sticks (by rw [HE0.out]; exact h0), HE0.out]
    have eR : R = ⟨0, 0, zerB 16⟩ := by rw [← HRR.out]; unfold helR; rw [if_neg (by rw [HE.out, hE]; exact h0)]
    have ER := Lib.hid eR
    have EE := Lib.hid hE
    clear hE eR h0
    go_upto_region 3 with (fail)
    go_wp2_with (first
      | (refine wpList_buildTo rfl 44 #[] rfl _ rfl (helC 0 0 (zerB 16)).toArray (by kernel_rfl) ?_)
      | (refine wpList_store_row rfl 44 (.tmp 2) (.tmp 15) rfl gr (helC 0 0 (zerB 16)).toArray rfl rfl 44 _ HG3.out (info_hel.trans rfl) rfl (hel_one _ _ _) ?_))
    have HBF := Lib.hid (below_setRow (g := gr) HB3.out (Nat.le_of_eq EGR.out.symm) (helC 0 0 (zerB 16)).toArray)
    refine bodyPost_ret (v := .tuple #[.agg (helC 0 0 (zerB 16)).toArray, .int .i64 (E0 : Int)]) (ref_hello_results _ gr 44 _ (0, 0) (E0 : Int) rfl rfl _ (setRow_heap w3 gr _ _ _ _ HG3.out) (info_hel.trans rfl)) rfl ?_
    rw [ER.out, EE.out]
    exact ⟨rfl, HBF.out⟩
end Go.Proofs.Ytcffinkkfdfcaaa

/- A tag's cells. Conditions: bytes that can be read. -/
namespace Go.Proofs.Ytcffinkkfdfcaaa
open Go Go.RowKit

def a32C (l : List UInt8) : Array Value := (l.map bv).toArray
def conS (bs : List UInt8) : FS := byS (opS bs 1) 32
def conE (bs : List UInt8) : Nat := (conS bs).err
def conT (bs : List UInt8) : List UInt8 := if conE bs = 0 then byB (opS bs 1) 32 else zerB 32
theorem conT_len (bs : List UInt8) : (conT bs).length = 32 := by unfold conT; split; exact byB_len _ _; simp [zerB]
theorem a32_zero : (#[.int .u8 0, .int .u8 0, .int .u8 0, .int .u8 0, .int .u8 0, .int .u8 0, .int .u8 0, .int .u8 0, .int .u8 0, .int .u8 0, .int .u8 0, .int .u8 0, .int .u8 0, .int .u8 0, .int .u8 0, .int .u8 0, .int .u8 0, .int .u8 0, .int .u8 0, .int .u8 0, .int .u8 0, .int .u8 0, .int .u8 0, .int .u8 0, .int .u8 0, .int .u8 0, .int .u8 0, .int .u8 0, .int .u8 0, .int .u8 0, .int .u8 0, .int .u8 0] : Array Value) = a32C (zerB 32) := rfl
theorem info_a32c : (Try.prog.info? 47).map (·.size) = some 32 := by kernel_rfl
theorem a32_one (l : List UInt8) : (a32C l).all (·.oneCell') = true := by
  unfold a32C
  simp [Value.oneCell', bv]
theorem a32_size {l : List UInt8} (h : l.length = 32) : some 32 = some (a32C l).size := by unfold a32C; simp [h]
theorem con_results (tmps : Array Value) (g : Nat) (t : TypeId) (cs : Array Value) (fr : Nat × Nat) (y : Int) (h2 : tmps.getD 2 undef = .pointer (some ⟨g, 0, none⟩)) (h3 : tmps.getD 3 undef = .int .i64 y) (w : World) (hg : w.heap[g]? = some (.cells cs t fr)) (hi : (Try.prog.info? 47).map (·.size) = some cs.size) :
    (results Try.f25 tmps).run Try.prog w = .ok (.tuple #[.agg cs, .int .i64 y]) w := by
  have h2' : tmps[2]?.getD undef = .pointer (some ⟨g, 0, none⟩) := by simpa using h2
  have h3' : tmps[3]?.getD undef = .int .i64 y := by simpa using h3
  simp [results, Try.results25, h2', h3', asAddr, run_loadVar_row w g t 47 cs fr _ hg Try.underlying47 rfl hi]
theorem ref_con_results (tmps : Array Value) (g : Nat) (t : TypeId) (cs : Array Value) (fr : Nat × Nat) (y : Int) (h2 : tmps.getD 2 undef = .pointer (some ⟨g, 0, none⟩)) (h3 : tmps.getD 3 undef = .int .i64 y) (w : World) (hg : w.heap[g]? = some (.cells cs t fr)) (hi : (Try.prog.info? 47).map (·.size) = some cs.size) :
    (results Try.f26 tmps).run Try.prog w = .ok (.tuple #[.agg cs, .int .i64 y]) w := by
  have h2' : tmps[2]?.getD undef = .pointer (some ⟨g, 0, none⟩) := by simpa using h2
  have h3' : tmps[3]?.getD undef = .int .i64 y := by simpa using h3
  simp [results, Try.results26, h2', h3', asAddr, run_loadVar_row w g t 47 cs fr _ hg Try.underlying47 rfl hi]
end Go.Proofs.Ytcffinkkfdfcaaa

/- What feat.Ceiling, feat.May and the reference's May answer. Conditions: none. -/
namespace Go.Proofs.Ytcffinkkfdfcaaa
open Go Go.RowKit

def cei (v : Int) : Nat := if v = 3 then 63 else if v = 2 then 51 else if v = 1 then 17 else 0
def mayPF (v : Int) (f : Nat) : Prop := 1 ≤ v ∧ v ≤ 3 ∧ ∀ i : Nat, i < 32 → f.testBit i = true → (cei v).testBit i = true
instance (v : Int) (f : Nat) : Decidable (mayPF v f) := by unfold mayPF; infer_instance
def mayF (v : Int) (f : Nat) : Bool := decide (mayPF v f)
theorem andNot_u32 (f c : Nat) (hf : f < 4294967296) (hc : c < 4294967296) : (bits .andNot .u32 (f : Int) (c : Int) == 0) = decide (∀ i : Nat, i < 32 → f.testBit i = true → c.testBit i = true) := by
  have e : bits .andNot .u32 (f : Int) (c : Int) = IntKind.u32.wrap ((BitVec.ofInt 32 (f : Int) &&& ~~~ BitVec.ofInt 32 (c : Int)).toNat : Int) := rfl
  have e1 : BitVec.ofInt 32 (f : Int) = BitVec.ofNat 32 f := BitVec.ofInt_natCast 32 f
  have e2 : BitVec.ofInt 32 (c : Int) = BitVec.ofNat 32 c := BitVec.ofInt_natCast 32 c
  rw [e, e1, e2]
  obtain ⟨x, hx⟩ : ∃ x, x = BitVec.ofNat 32 f &&& ~~~ BitVec.ofNat 32 c := ⟨_, rfl⟩
  rw [← hx]
  have hw : IntKind.u32.wrap (x.toNat : Int) = (x.toNat : Int) := by
    have := x.isLt
    unfold IntKind.wrap
    simp [IntKind.bits, IntKind.signed]
    omega
  rw [hw]
  rw [Bool.eq_iff_iff, beq_iff_eq, decide_eq_true_iff]
  constructor
  · intro h i hi hf1
    have hz : x = 0#32 := BitVec.eq_of_toNat_eq (by simpa using h)
    have hb : x.getLsbD i = false := by rw [hz]; simp
    rw [hx, BitVec.getLsbD_and, BitVec.getLsbD_not, BitVec.getLsbD_ofNat, BitVec.getLsbD_ofNat] at hb
    simp [hi, hf1] at hb
    exact hb
  · intro h
    have hz : x = 0#32 := by
      apply BitVec.eq_of_getLsbD_eq
      intro i hi
      rw [hx, BitVec.getLsbD_and, BitVec.getLsbD_not, BitVec.getLsbD_ofNat, BitVec.getLsbD_ofNat]
      simp [hi]
      intro h1
      exact h i hi h1
    rw [hz]; rfl
set_option maxRecDepth 100000 in
set_option maxHeartbeats 1000000 in
theorem ceil1_c (w : World) : Calls Try.prog 67 #[.int .i64 1] w fun r w' => r = .returned (.int .u32 17) ∧ w = w' := by
  go_enter Try.func67, Try.ntmps67
  go_wp2
  go_ret
  exact ⟨rfl, rfl⟩
set_option maxRecDepth 100000 in
set_option maxHeartbeats 1000000 in
theorem ceil2_c (w : World) : Calls Try.prog 67 #[.int .i64 2] w fun r w' => r = .returned (.int .u32 51) ∧ w = w' := by
  go_enter Try.func67, Try.ntmps67
  go_wp2
  go_ret
  exact ⟨rfl, rfl⟩
set_option maxRecDepth 100000 in
set_option maxHeartbeats 1000000 in
theorem ceil3_c (w : World) : Calls Try.prog 67 #[.int .i64 3] w fun r w' => r = .returned (.int .u32 63) ∧ w = w' := by
  go_enter Try.func67, Try.ntmps67
  go_wp2
  go_ret
  exact ⟨rfl, rfl⟩
theorem ceil_c (v : Int) (h1 : 1 ≤ v) (h3 : v ≤ 3) (w : World) : Calls Try.prog 67 #[.int .i64 v] w fun r w' => r = .returned (.int .u32 (cei v : Int)) ∧ w = w' := by
  have hv : v = 1 ∨ v = 2 ∨ v = 3 := by omega
  rcases hv with rfl | rfl | rfl
  · exact ceil1_c w
  · exact ceil2_c w
  · exact ceil3_c w
set_option maxRecDepth 100000 in
set_option maxHeartbeats 4000000 in
theorem featMay_c (v : Int) (f : Nat) (hf : f < 4294967296) (w : World) : Calls Try.prog 45 #[.agg #[.int .i64 v, .int .u32 (f : Int)]] w fun r w' => r = .returned (.bool (mayF v f)) ∧ Below w.heap.size w w' := by
  have kb : Below w.heap.size w (w.alloc (.cells #[.int .i64 v, .int .u32 (f : Int)] 46)) := (Below.refl _ _).alloc (Nat.le_refl _) _
  rcases Int.lt_or_le v 1 with h1 | h1
  · have e : mayF v f = false := decide_eq_false (by unfold mayPF; omega)
    rw [e]
    have d1 : decide ((1 : Int) ≤ v) = false := decide_eq_false (by omega)
    clear e h1
    go_enter Try.func45, Try.ntmps45
    go_wp2_with (fail)
    go_quiet (fail)
    go_wp2_with (fail)
    go_ret
    exact ⟨rfl, below_drewN kb _⟩
  rcases Int.lt_or_le 3 v with h3 | h3
  · have e : mayF v f = false := decide_eq_false (by unfold mayPF; omega)
    rw [e]
    have d1 : decide ((1 : Int) ≤ v) = true := decide_eq_true (by omega)
    have d3 : decide (v ≤ 3) = false := decide_eq_false (by omega)
    clear e h1 h3
    go_enter Try.func45, Try.ntmps45
    go_wp2_with (fail)
    go_quiet (fail)
    go_wp2_with (fail)
    go_ret
    exact ⟨rfl, below_drewN kb _⟩
  obtain ⟨T, eT⟩ : ∃ T, mayF v f = T := ⟨_, rfl⟩
  rw [eT]
  have hc : cei v < 4294967296 := by unfold cei; split; decide; split; decide; split <;> decide
  have hT : (bits .andNot .u32 (f : Int) (cei v : Int) == 0) = T := by
    rw [← eT]
    refine (andNot_u32 f (cei v) hf hc).trans ?_
    unfold mayF mayPF
    simp [h1, h3]
  obtain ⟨C, eC⟩ : ∃ C, cei v = C := ⟨_, rfl⟩
  rw [eC] at hT
  have HT := Lib.hid hT
  have EC := Lib.hid eC
  have HC : Hid (∀ w : World, Calls Try.prog 67 #[.int .i64 v] w fun r w' => r = .returned (.int .u32 (C : Int)) ∧ w' = w) := Lib.hid (fun w => by rw [← EC.out]; exact (ceil_c v h1 h3 w).mono fun _ _ ⟨he, hw⟩ => ⟨he, hw.symm⟩)
  have d1 : decide ((1 : Int) ≤ v) = true := decide_eq_true (by omega)
  have d3 : decide (v ≤ 3) = true := decide_eq_true (by omega)
  clear eT hT hc eC h1 h3
  go_enter Try.func45, Try.ntmps45
  go_wp2_with (fail)
  go_quiet ((go_at_call 67; exact Calls.quiet_of_same (HC.out _)))
  go_wp2_with (fail)
  go_ret
  exact ⟨by rw [← HT.out]; rfl, below_drewN kb _⟩
/-- The version in which a feature came. -/
def sinceB (i : Nat) : Nat := if i = 0 ∨ i = 4 then 1 else if i = 1 ∨ i = 5 then 2 else if i = 2 ∨ i = 3 then 3 else 0
set_option maxRecDepth 100000 in
set_option maxHeartbeats 1000000 in
theorem since_c (i : Nat) (w : World) : Calls Try.prog 68 #[.int .i64 (i : Int)] w fun r w' => r = .returned (.int .i64 (sinceB i : Int)) ∧ w' = w := by
  by_cases h0 : i = 0
  · subst h0
    go_enter Try.func68, Try.ntmps68
    go_wp2
    go_ret
    exact ⟨rfl, rfl⟩
  by_cases h4 : i = 4
  · subst h4
    clear h0
    go_enter Try.func68, Try.ntmps68
    go_wp2
    go_ret
    exact ⟨rfl, rfl⟩
  by_cases h1 : i = 1
  · subst h1
    clear h0 h4
    go_enter Try.func68, Try.ntmps68
    go_wp2
    go_ret
    exact ⟨rfl, rfl⟩
  by_cases h5 : i = 5
  · subst h5
    clear h0 h4 h1
    go_enter Try.func68, Try.ntmps68
    go_wp2
    go_ret
    exact ⟨rfl, rfl⟩
  by_cases h2 : i = 2
  · subst h2
    clear h0 h4 h1 h5
    go_enter Try.func68, Try.ntmps68
    go_wp2
    go_ret
    exact ⟨rfl, rfl⟩
  by_cases h3 : i = 3
  · subst h3
    clear h0 h4 h1 h5 h2
    go_enter Try.func68, Try.ntmps68
    go_wp2
    go_ret
    exact ⟨rfl, rfl⟩
  have e : sinceB i = 0 := by unfold sinceB; rw [if_neg (by omega), if_neg (by omega), if_neg (by omega)]
  rw [e]
  have d0 : ((i : Int) == 0) = false := by rw [beq_eq_false_iff_ne]; omega
  have d1 : ((i : Int) == 1) = false := by rw [beq_eq_false_iff_ne]; omega
  have d2 : ((i : Int) == 2) = false := by rw [beq_eq_false_iff_ne]; omega
  have d3 : ((i : Int) == 3) = false := by rw [beq_eq_false_iff_ne]; omega
  have d4 : ((i : Int) == 4) = false := by rw [beq_eq_false_iff_ne]; omega
  have d5 : ((i : Int) == 5) = false := by rw [beq_eq_false_iff_ne]; omega
  clear e h0 h1 h2 h3 h4 h5
  go_enter Try.func68, Try.ntmps68
  go_wp2
  go_ret
  exact ⟨rfl, rfl⟩
theorem cei_since (v : Int) (h1 : 1 ≤ v) (h3 : v ≤ 3) (i : Nat) (hi : i < 32) : (cei v).testBit i = true ↔ sinceB i ≠ 0 ∧ (sinceB i : Int) ≤ v := by
  have hv : v = 1 ∨ v = 2 ∨ v = 3 := by omega
  have key : ∀ i, i < 32 → ((cei 1).testBit i = true ↔ sinceB i ≠ 0 ∧ (sinceB i : Int) ≤ 1) ∧ ((cei 2).testBit i = true ↔ sinceB i ≠ 0 ∧ (sinceB i : Int) ≤ 2) ∧ ((cei 3).testBit i = true ↔ sinceB i ≠ 0 ∧ (sinceB i : Int) ≤ 3) := by decide +kernel
  rcases hv with rfl | rfl | rfl
  · exact (key i hi).1
  · exact (key i hi).2.1
  · exact (key i hi).2.2
/-- A bit that may not be there. -/
def badBit (v : Int) (f i : Nat) : Bool := f.testBit i && (decide (sinceB i = 0) || decide (v < (sinceB i : Int)))
theorem mayF_bits (v : Int) (f : Nat) (h1 : 1 ≤ v) (h3 : v ≤ 3) : mayF v f = true ↔ ∀ i, i < 32 → badBit v f i = false := by
  rw [show mayF v f = true ↔ mayPF v f from decide_eq_true_iff]
  unfold mayPF
  constructor
  · rintro ⟨-, -, h⟩ i hi
    unfold badBit
    cases hb : f.testBit i with
    | false => rfl
    | true =>
      obtain ⟨q1, q2⟩ := (cei_since v h1 h3 i hi).1 (h i hi hb)
      rw [decide_eq_false q1, decide_eq_false (by omega)]; rfl
  · intro h
    refine ⟨h1, h3, fun i hi hb => (cei_since v h1 h3 i hi).2 ?_⟩
    have := h i hi
    unfold badBit at this
    rw [hb] at this
    simp at this
    exact ⟨this.1, by omega⟩
end Go.Proofs.Ytcffinkkfdfcaaa

/- What bytes say as a Select: plain data. Conditions: none. -/
namespace Go.Proofs.Ytcffinkkfdfcaaa
open Go Go.RowKit

/-- A Select's fifty-two cells. -/
def selC (v f1 mx f2 : Nat) (l m : List UInt8) : List Value := .int .i64 (v : Int) :: .int .u32 (f1 : Int) :: .int .i64 (mx : Int) :: .int .u32 (f2 : Int) :: (l.map bv ++ m.map bv)
structure Sel where
  v : Nat
  f1 : Nat
  mx : Nat
  f2 : Nat
  nc : List UInt8
  cf : List UInt8
def Sel.val (s : Sel) : Value := .agg (selC s.v s.f1 s.mx s.f2 s.nc s.cf).toArray
def selZ : Sel := ⟨0, 0, 0, 0, zerB 16, zerB 32⟩
def selS1 (bs : List UInt8) : FS := opS bs 6
def selS2 (bs : List UInt8) : FS := byS (selS1 bs) 1
def selS3 (bs : List UInt8) : FS := byS (selS2 bs) 4
def selS4 (bs : List UInt8) : FS := byS (selS3 bs) 1
def selS5 (bs : List UInt8) : FS := byS (selS4 bs) 4
def selS6 (bs : List UInt8) : FS := byS (selS5 bs) 16
def selS7 (bs : List UInt8) : FS := byS (selS6 bs) 32
def selB (bs : List UInt8) : Bool := mayF (oneN (selS1 bs) : Int) (fourN (selS2 bs)) && offB (oneN (selS3 bs))
def selS8 (bs : List UInt8) : FS := badS (selS7 bs) (!selB bs)
def selE (bs : List UInt8) : Nat := (selS8 bs).err
def selR (bs : List UInt8) : Sel := if selE bs = 0 then ⟨oneN (selS1 bs), fourN (selS2 bs), oneN (selS3 bs), fourN (selS4 bs), byB (selS5 bs) 16, byB (selS6 bs) 32⟩ else selZ
theorem selS1_at (bs : List UInt8) : (selS1 bs).at_ = 0 := opS_at bs 6
theorem selS2_at (bs : List UInt8) : (selS2 bs).at_ = 1 := by rw [selS2, byS_at, selS1_at]
theorem selS3_at (bs : List UInt8) : (selS3 bs).at_ = 2 := by rw [selS3, byS_at, selS2_at]
theorem selS4_at (bs : List UInt8) : (selS4 bs).at_ = 3 := by rw [selS4, byS_at, selS3_at]
theorem selS5_at (bs : List UInt8) : (selS5 bs).at_ = 4 := by rw [selS5, byS_at, selS4_at]
theorem selS6_at (bs : List UInt8) : (selS6 bs).at_ = 5 := by rw [selS6, byS_at, selS5_at]
theorem selS7_at (bs : List UInt8) : (selS7 bs).at_ = 6 := by rw [selS7, byS_at, selS6_at]
theorem selS2_l (bs : List UInt8) : (selS2 bs).l = (selS1 bs).l := by rw [selS2, byS_l]
theorem selS3_l (bs : List UInt8) : (selS3 bs).l = (selS1 bs).l := by rw [selS3, byS_l, selS2_l]
theorem selS4_l (bs : List UInt8) : (selS4 bs).l = (selS1 bs).l := by rw [selS4, byS_l, selS3_l]
theorem selS5_l (bs : List UInt8) : (selS5 bs).l = (selS1 bs).l := by rw [selS5, byS_l, selS4_l]
theorem selS6_l (bs : List UInt8) : (selS6 bs).l = (selS1 bs).l := by rw [selS6, byS_l, selS5_l]
theorem selS7_l (bs : List UInt8) : (selS7 bs).l = (selS1 bs).l := by rw [selS7, byS_l, selS6_l]
theorem Flds.far2 {w0 w w' : World} {p : Nat} {A : Option Addr} {n c : Nat} {s0 s : FS} (h0 : Flds w0 p A n c s0) (h : Flds w p A n c s) (k : Keeps (fun j => j = p) w0 w) (hl : s.l = s0.l) (k' : Keeps (fun j => w0.heap.size ≤ j) w w') (hb : w'.heap[p]? = w.heap[p]?) : Flds w' p A n c s :=
  h0.next (k.over k') hl h.at_ (hb.trans h.blk)
theorem sel_zero : (#[.int .i64 0, .int .u32 0, .int .i64 0, .int .u32 0, .int .u8 0, .int .u8 0, .int .u8 0, .int .u8 0, .int .u8 0, .int .u8 0, .int .u8 0, .int .u8 0, .int .u8 0, .int .u8 0, .int .u8 0, .int .u8 0, .int .u8 0, .int .u8 0, .int .u8 0, .int .u8 0, .int .u8 0, .int .u8 0, .int .u8 0, .int .u8 0, .int .u8 0, .int .u8 0, .int .u8 0, .int .u8 0, .int .u8 0, .int .u8 0, .int .u8 0, .int .u8 0, .int .u8 0, .int .u8 0, .int .u8 0, .int .u8 0, .int .u8 0, .int .u8 0, .int .u8 0, .int .u8 0, .int .u8 0, .int .u8 0, .int .u8 0, .int .u8 0, .int .u8 0, .int .u8 0, .int .u8 0, .int .u8 0, .int .u8 0, .int .u8 0, .int .u8 0, .int .u8 0] : Array Value) = (selC 0 0 0 0 (zerB 16) (zerB 32)).toArray := rfl
theorem info_sel : (Try.prog.info? 49).map (·.size) = some 52 := by kernel_rfl
theorem sel_size {v f1 mx f2 : Nat} {l m : List UInt8} (h1 : l.length = 16) (h2 : m.length = 32) : some 52 = some (selC v f1 mx f2 l m).toArray.size := congrArg some (by simp [selC, h1, h2])
theorem sel_one (v f1 mx f2 : Nat) (l m : List UInt8) : (selC v f1 mx f2 l m).toArray.all (·.oneCell') = true := by
  unfold selC
  simp [Value.oneCell', bv]
theorem sel_splice1 (v f1 mx f2 : Nat) (l m k : List UInt8) (hl : l.length = 16) (hm : m.length = 16) : splice (selC v f1 mx f2 m k) 4 (l.map bv) = selC v f1 mx f2 l k := by
  unfold splice selC
  simp [hl, hm]
theorem sel_splice2 (v f1 mx f2 : Nat) (l m k : List UInt8) (hl : l.length = 16) (hm : m.length = 32) (hk : k.length = 32) : splice (selC v f1 mx f2 l k) 20 (m.map bv) = selC v f1 mx f2 l m := by
  unfold splice selC
  simp [hl, hm, hk]
theorem sel_results (tmps : Array Value) (g : Nat) (t : TypeId) (cs : Array Value) (fr : Nat × Nat) (y : Int) (h2 : tmps.getD 2 undef = .pointer (some ⟨g, 0, none⟩)) (h3 : tmps.getD 3 undef = .int .i64 y) (w : World) (hg : w.heap[g]? = some (.cells cs t fr)) (hi : (Try.prog.info? 49).map (·.size) = some cs.size) :
    (results Try.f23 tmps).run Try.prog w = .ok (.tuple #[.agg cs, .int .i64 y]) w := by
  have h2' : tmps[2]?.getD undef = .pointer (some ⟨g, 0, none⟩) := by simpa using h2
  have h3' : tmps[3]?.getD undef = .int .i64 y := by simpa using h3
  simp [results, Try.results23, h2', h3', asAddr, run_loadVar_row w g t 49 cs fr _ hg Try.underlying49 rfl hi]
end Go.Proofs.Ytcffinkkfdfcaaa

/- What body.list and the reference's critical lay: critical items of the kinds 1 and up. Conditions: texts that can be read. -/
namespace Go.Proofs.Ytcffinkkfdfcaaa
open Go Go.RowKit

/-- Critical items of the kinds from k + 1 on. -/
def crF : Nat → List (List UInt8) → Fo
  | _, [] => .nil
  | k, b :: l => .cons ((k : Int) + 1) true false b .nil (crF (k + 1) l)
theorem crF_snoc (b : List UInt8) : ∀ (l : List (List UInt8)) (k : Nat), crF k (l ++ [b]) = (crF k l).app (.cons (((k + l.length : Nat) : Int) + 1) true false b .nil .nil)
  | [], k => by simp [crF, Fo.app]
  | x :: l, k => by
    rw [List.cons_append, crF, crF, Fo.app, crF_snoc b l (k + 1)]
    rw [show k + 1 + l.length = k + (x :: l).length by simp; omega]
theorem crF_take {l : List (List UInt8)} {q : Nat} (h : q < l.length) : crF 0 (l.take (q + 1)) = (crF 0 (l.take q)).app (.cons ((q : Int) + 1) true false l[q] .nil .nil) := by
  rw [List.take_succ_eq_append_getElem h, crF_snoc, Nat.zero_add, List.length_take, Nat.min_eq_left (Nat.le_of_lt h)]
theorem crF_len : ∀ (l : List (List UInt8)) (k : Nat), (crF k l).len = l.length
  | [], _ => rfl
  | _ :: l, k => by rw [crF, Fo.len, crF_len l]; rfl
theorem RdS.item {w : World} {A : Option Addr} {bss : List (List UInt8)} (h : RdS w A bss) (hb : ∀ b ∈ bss, b.length ≤ 4096) {q : Nat} (hq : q < bss.length) : ∃ b off Ak ck, A = some ⟨b, off, none⟩ ∧ b < w.heap.size ∧ w.cell? ⟨b, off + q, none⟩ = some (.slice Ak bss[q].length ck) ∧ TxtR (· < w.heap.size) w Ak bss[q].length ck bss[q] := by
  obtain ⟨b, off, e, hlt, hc⟩ := h.addr (by omega)
  obtain ⟨Ak, ck, h1, h2, h3, h4⟩ := hc q hq
  have hm := hb bss[q] (List.getElem_mem hq)
  refine ⟨b, off, Ak, ck, e, hlt, h1, rfl, h2, h3, h4, fun h0 a ea => ?_, by omega⟩
  obtain ⟨b', o', e', hb', _⟩ := h2.addr (by rw [List.length_map]; exact h0)
  rw [ea] at e'
  injection e' with e'
  rw [e']; exact hb'
set_option maxRecDepth 100000 in
set_option maxHeartbeats 4000000 in
theorem listB_c (A : Option Addr) (n c : Nat) (bss : List (List UInt8)) (w : World) (hn : bss.length = n) (hr : RdS w A bss) (hk : n ≤ 60) (hb : ∀ b ∈ bss, b.length ≤ 4096) :
    Calls Try.prog 43 #[.slice A n c] w fun r w' => ∃ v, r = .returned v ∧ OwnB w' w.heap.size v (encF (crF 0 bss)) ∧ Below w.heap.size w w' := by
  have HN := Lib.hid hn
  have HR := Lib.hid hr
  have HB := Lib.hid hb
  clear hn hr hb
  go_enter Try.func43, Try.ntmps43
  go_wp2_with (fail)
  go_loopw [3, 10] (fun v i wr => ∃ (q : Nat) (ds : List ItV), q ≤ n ∧ i = .int .i64 q ∧ Hid (FoQ wr w.heap.size v ds (crF 0 (bss.take q))) ∧ Hid (ds.length = q) ∧ Hid (Below w.heap.size w wr)) (fun _ i _ => n - (intOf i).toNat)
  case atStart => exact ⟨0, [], by omega, rfl, Lib.hid ⟨World.ownsRow_nil _ _ _ _, rfl⟩, Lib.hid rfl, Lib.hid (Below.refl _ _)⟩
  case round =>
    obtain ⟨q, ds, hq, rfl, HQ, HD, HK⟩ := hrel
    have hz : w.heap.size ≤ wr.heap.size := HK.out.size
    by_cases hlt : q < n
    · have hlt' : (q : Int) < (n : Int) := by omega
      have hqb : q < bss.length := by rw [HN.out]; exact hlt
      obtain ⟨b, off, Ak, ck, rfl, hbb, hc, ht⟩ := HR.out.item HB.out hqb
      have hc2 : wr.cell? ⟨b, off + q, none⟩ = some (.slice Ak bss[q].length ck) := (HK.out.cell (p := ⟨b, _, none⟩) hbb).trans hc
      obtain ⟨m, em⟩ : ∃ m, bss[q].length = m := ⟨_, rfl⟩
      obtain ⟨t, et⟩ : ∃ t, bss[q] = t := ⟨_, rfl⟩
      have hnx := crF_take hqb
      rw [em] at hc2 ht
      rw [et] at ht hnx
      have HNX := Lib.hid hnx
      have IT : Hid (ItsR (fun j => u3.ownBlock ≠ some j) wr [⟨(q : Int) + 1, true, false, Ak, m, ck, none, 0, 0⟩] (.cons ((q : Int) + 1) true false t .nil .nil)) := Lib.hid (item_old ((ht.frame (fun j hj _ => HK.out.block j hj) HK.out.size).weak (fun j (hj : j < w.heap.size) _ e => by have := (HQ.out.row.lt j e).1; omega)) _ _)
      have HDL : Hid (ds.length ≤ 1000) := Lib.hid (by rw [HD.out]; omega)
      clear hnx hc ht em et hqb
      go_wp2_with (first | (at_builtin; refine wpList_item wr rfl (.tmp 15) (.tmp 20) rfl w.heap.size u3 ds _ rfl HQ.out _ ⟨(q : Int) + 1, true, false, Ak, m, ck, none, 0, 0⟩ rfl rfl _ IT.out HDL.out hz ?_; intro v5 w5 hq5 hb5; have HQ5 := Lib.hid hq5; have HK5 := Lib.hid (HK.out.trans hb5); clear hq5 hb5))
      go_roundw
      case rel => exact ⟨q + 1, _, by omega, by go_num, Lib.hid (by rw [HNX.out]; exact HQ5.out), Lib.hid (by rw [List.length_append, HD.out]; rfl), HK5⟩
      case measure => simp [intOf]; omega
    · obtain rfl : n = q := by omega
      have HQ' : Hid (FoQ wr w.heap.size u3 ds (crF 0 bss)) := Lib.hid (by have := HQ.out; rw [← HN.out, List.take_length] at this; exact this)
      obtain ⟨A6, c6, rfl, _, _, r6⟩ := HQ'.out.form (n := n) (by rw [crF_len, HN.out])
      have R6 := Lib.hid r6
      clear r6
      go_wp2_with (fail)
      refine (EncodeT_c (crF 0 bss) (fun _ => True) A6 n c6 wr (by rw [crF_len, HN.out]) R6.out (by omega)).mono ?_
      rintro _ w7 ⟨x, rfl, ho, hb⟩
      have HO := Lib.hid (Own.low ho hz)
      have HB7 := Lib.hid (HK.out.trans (hb.mono hz))
      clear ho hb
      go_wp2_with (fail)
      go_ret
      exact ⟨_, rfl, HO.out, HB7.out⟩
set_option maxRecDepth 100000 in
set_option maxHeartbeats 4000000 in
theorem critical_c (A : Option Addr) (n c : Nat) (bss : List (List UInt8)) (w : World) (hn : bss.length = n) (hr : RdS w A bss) (hk : n ≤ 60) (hb : ∀ b ∈ bss, b.length ≤ 4096) :
    Calls Try.prog 44 #[.slice A n c] w fun r w' => ∃ v, r = .returned v ∧ OwnB w' w.heap.size v (encF (crF 0 bss)) ∧ Below w.heap.size w w' := by
  have HN := Lib.hid hn
  have HR := Lib.hid hr
  have HB := Lib.hid hb
  clear hn hr hb
  go_enter Try.func44, Try.ntmps44
  go_wp2_with (fail)
  go_loopw [3, 10] (fun v i wr => ∃ (q : Nat) (ds : List ItV), q ≤ n ∧ i = .int .i64 q ∧ Hid (FoQ wr w.heap.size v ds (crF 0 (bss.take q))) ∧ Hid (ds.length = q) ∧ Hid (Below w.heap.size w wr)) (fun _ i _ => n - (intOf i).toNat)
  case atStart => exact ⟨0, [], by omega, rfl, Lib.hid ⟨World.ownsRow_made w #[] 0 (Nat.le_refl _) (Nat.zero_le _) rfl, rfl⟩, Lib.hid rfl, Lib.hid ((Below.refl _ _).alloc (Nat.le_refl _) _)⟩
  case round =>
    obtain ⟨q, ds, hq, rfl, HQ, HD, HK⟩ := hrel
    have hz : w.heap.size ≤ wr.heap.size := HK.out.size
    by_cases hlt : q < n
    · have hlt' : (q : Int) < (n : Int) := by omega
      have hqb : q < bss.length := by rw [HN.out]; exact hlt
      obtain ⟨b, off, Ak, ck, rfl, hbb, hc, ht⟩ := HR.out.item HB.out hqb
      have hc2 : wr.cell? ⟨b, off + q, none⟩ = some (.slice Ak bss[q].length ck) := (HK.out.cell (p := ⟨b, _, none⟩) hbb).trans hc
      obtain ⟨m, em⟩ : ∃ m, bss[q].length = m := ⟨_, rfl⟩
      obtain ⟨t, et⟩ : ∃ t, bss[q] = t := ⟨_, rfl⟩
      have hnx := crF_take hqb
      rw [em] at hc2 ht
      rw [et] at ht hnx
      have HNX := Lib.hid hnx
      have IT : Hid (ItsR (fun j => u3.ownBlock ≠ some j) wr [⟨(q : Int) + 1, true, false, Ak, m, ck, none, 0, 0⟩] (.cons ((q : Int) + 1) true false t .nil .nil)) := Lib.hid (item_old ((ht.frame (fun j hj _ => HK.out.block j hj) HK.out.size).weak (fun j (hj : j < w.heap.size) _ e => by have := (HQ.out.row.lt j e).1; omega)) _ _)
      have HDL : Hid (ds.length ≤ 1000) := Lib.hid (by rw [HD.out]; omega)
      clear hnx hc ht em et hqb
      go_wp2_with (first | (at_builtin; refine wpList_item wr rfl (.tmp 13) (.tmp 21) rfl w.heap.size u3 ds _ rfl HQ.out _ ⟨(q : Int) + 1, true, false, Ak, m, ck, none, 0, 0⟩ rfl rfl _ IT.out HDL.out hz ?_; intro v5 w5 hq5 hb5; have HQ5 := Lib.hid hq5; have HK5 := Lib.hid (HK.out.trans hb5); clear hq5 hb5))
      go_roundw
      case rel => exact ⟨q + 1, _, by omega, by go_num, Lib.hid (by rw [HNX.out]; exact HQ5.out), Lib.hid (by rw [List.length_append, HD.out]; rfl), HK5⟩
      case measure => simp [intOf]; omega
    · obtain rfl : n = q := by omega
      have HQ' : Hid (FoQ wr w.heap.size u3 ds (crF 0 bss)) := Lib.hid (by have := HQ.out; rw [← HN.out, List.take_length] at this; exact this)
      obtain ⟨A6, c6, rfl, _, _, r6⟩ := HQ'.out.form (n := n) (by rw [crF_len, HN.out])
      have R6 := Lib.hid r6
      clear r6
      go_wp2_with (fail)
      refine (refEncodeT_c (crF 0 bss) (fun _ => True) A6 n c6 wr (by rw [crF_len, HN.out]) R6.out (by omega)).mono ?_
      rintro _ w7 ⟨x, rfl, ho, hb⟩
      have HO := Lib.hid (Own.low ho hz)
      have HB7 := Lib.hid (HK.out.trans (hb.mono hz))
      clear ho hb
      go_wp2_with (fail)
      go_ret
      exact ⟨_, rfl, HO.out, HB7.out⟩
end Go.Proofs.Ytcffinkkfdfcaaa

/- What PutConfirm and PutHello lay. Conditions: arrays of bytes of their lengths. -/
namespace Go.Proofs.Ytcffinkkfdfcaaa
open Go Go.RowKit

theorem a32_rd (w : World) (l : List UInt8) (t : TypeId) : Rd (w.alloc (.cells (a32C l) t)) (some ⟨w.heap.size, 0, none⟩) (l.map bv) := Rd.lit w (l.map bv) t
set_option maxRecDepth 100000 in
set_option maxHeartbeats 4000000 in
theorem PutConfirm_c (l : List UInt8) (h : l.length = 32) (w : World) :
    Calls Try.prog 19 #[.agg (a32C l)] w fun r w' => ∃ v, r = .returned v ∧ OwnB w' w.heap.size v (encF (crF 0 [l])) ∧ Below w.heap.size w w' := by
  obtain ⟨w1, ew1⟩ : ∃ w1, w1 = w.alloc (.cells (a32C l) 47) := ⟨_, rfl⟩
  obtain ⟨gr, egr⟩ : ∃ gr, gr = w.heap.size := ⟨_, rfl⟩
  have b1 : Below w.heap.size w w1 := by rw [ew1]; exact (Below.refl _ _).alloc (Nat.le_refl _) _
  have HR1 : Hid (Rd w1 (some ⟨gr, 0, none⟩) (l.map bv)) := Lib.hid (by rw [ew1, egr]; exact a32_rd w l _)
  have HB1 := Lib.hid b1
  have HL := Lib.hid h
  have EW1 := Lib.hid ew1
  have EGR := Lib.hid egr
  clear ew1 egr b1 h
  go_enter Try.func19, Try.ntmps19
  go_upto_region 1 with (fail)
  rw [← EW1.out, ← EGR.out]
  go_wp2_with (fail)
  refine (listB_c (some ⟨w1.heap.size, 0, none⟩) 1 1 [l] _ rfl (RdS_one w1 _ 32 32 l _ HL.out HR1.out (Nat.le_refl _) (by decide)) (by decide) (by intro b hb; rw [List.mem_singleton.1 hb, HL.out]; decide)).mono ?_
  rintro _ w2 ⟨v, rfl, ho, hb⟩
  have b2 : Below w1.heap.size w1 (w1.alloc (.cells #[.slice (some ⟨gr, 0, none⟩) 32 32] 25)) := (Below.refl _ _).alloc (Nat.le_refl _) _
  have hz : w.heap.size ≤ w1.heap.size := HB1.out.size
  have HO := Lib.hid (Own.low ho (Nat.le_trans hz b2.size))
  have HB2 := Lib.hid ((HB1.out.trans (b2.mono hz)).trans (hb.mono (Nat.le_trans hz b2.size)))
  clear ho hb b2 hz
  go_wp2_with (fail)
  go_ret
  exact ⟨_, rfl, HO.out, HB2.out⟩
set_option maxRecDepth 100000 in
set_option maxHeartbeats 4000000 in
theorem refPutConfirm_c (l : List UInt8) (h : l.length = 32) (w : World) :
    Calls Try.prog 20 #[.agg (a32C l)] w fun r w' => ∃ v, r = .returned v ∧ OwnB w' w.heap.size v (encF (crF 0 [l])) ∧ Below w.heap.size w w' := by
  obtain ⟨w1, ew1⟩ : ∃ w1, w1 = w.alloc (.cells (a32C l) 47) := ⟨_, rfl⟩
  obtain ⟨gr, egr⟩ : ∃ gr, gr = w.heap.size := ⟨_, rfl⟩
  have b1 : Below w.heap.size w w1 := by rw [ew1]; exact (Below.refl _ _).alloc (Nat.le_refl _) _
  have HR1 : Hid (Rd w1 (some ⟨gr, 0, none⟩) (l.map bv)) := Lib.hid (by rw [ew1, egr]; exact a32_rd w l _)
  have HB1 := Lib.hid b1
  have HL := Lib.hid h
  have EW1 := Lib.hid ew1
  have EGR := Lib.hid egr
  clear ew1 egr b1 h
  go_enter Try.func20, Try.ntmps20
  go_upto_region 1 with (fail)
  rw [← EW1.out, ← EGR.out]
  go_wp2_with (fail)
  refine (critical_c (some ⟨w1.heap.size, 0, none⟩) 1 1 [l] _ rfl (RdS_one w1 _ 32 32 l _ HL.out HR1.out (Nat.le_refl _) (by decide)) (by decide) (by intro b hb; rw [List.mem_singleton.1 hb, HL.out]; decide)).mono ?_
  rintro _ w2 ⟨v, rfl, ho, hb⟩
  have b2 : Below w1.heap.size w1 (w1.alloc (.cells #[.slice (some ⟨gr, 0, none⟩) 32 32] 25)) := (Below.refl _ _).alloc (Nat.le_refl _) _
  have hz : w.heap.size ≤ w1.heap.size := HB1.out.size
  have HO := Lib.hid (Own.low ho (Nat.le_trans hz b2.size))
  have HB2 := Lib.hid ((HB1.out.trans (b2.mono hz)).trans (hb.mono (Nat.le_trans hz b2.size)))
  clear ho hb b2 hz
  go_wp2_with (fail)
  go_ret
  exact ⟨_, rfl, HO.out, HB2.out⟩
/-- A Hello's cells, its greatest version any number. -/
def helI (mx : Int) (ft : Nat) (l : List UInt8) : Array Value := (.int .i64 mx :: .int .u32 (ft : Int) :: l.map bv).toArray
def offI (mx : Int) : Bool := decide (1 ≤ mx ∧ mx ≤ 3)
theorem offerMayI_c (mx : Int) (ft : Nat) (w : World) :
    Calls Try.prog 42 #[.agg #[.int .i64 mx, .int .u32 (ft : Int)]] w fun r w' => r = .returned (.bool (offI mx)) ∧ Below w.heap.size w w' := by
  have kb : Below w.heap.size w (w.alloc (.cells #[.int .i64 mx, .int .u32 (ft : Int)] 41)) := (Below.refl _ _).alloc (Nat.le_refl _) _
  by_cases h1 : 1 ≤ mx
  · by_cases h3 : mx ≤ 3
    · have e : offI mx = true := decide_eq_true ⟨h1, h3⟩
      rw [e]; clear e
      have d1 : decide ((1 : Int) ≤ mx) = true := decide_eq_true (by omega)
      have d3 : decide (mx ≤ 3) = true := decide_eq_true (by omega)
      go_enter Try.func42, Try.ntmps42
      go_wp2
      go_ret
      exact ⟨rfl, kb⟩
    · have e : offI mx = false := decide_eq_false (by omega)
      rw [e]; clear e
      have d1 : decide ((1 : Int) ≤ mx) = true := decide_eq_true (by omega)
      have d3 : decide (mx ≤ 3) = false := decide_eq_false (by omega)
      go_enter Try.func42, Try.ntmps42
      go_wp2
      go_ret
      exact ⟨rfl, kb⟩
  · have e : offI mx = false := decide_eq_false (by omega)
    rw [e]; clear e
    have d1 : decide ((1 : Int) ≤ mx) = false := decide_eq_false (by omega)
    go_enter Try.func42, Try.ntmps42
    go_wp2
    go_ret
    exact ⟨rfl, kb⟩
end Go.Proofs.Ytcffinkkfdfcaaa

/- What PutHello and the reference's PutHello lay. Conditions: features of their kind; a nonce of sixteen bytes. -/
namespace Go.Proofs.Ytcffinkkfdfcaaa
open Go Go.RowKit

theorem nm1 (n : Nat) : numLI n 1 = numL n 1 := by unfold numLI; rw [if_pos (by decide)]; rfl
theorem numL_one (n : Nat) : numL n 1 = [lo n] := by simp [numL]
def putH (mx : Int) (ft : Nat) (l : List UInt8) : Int × List UInt8 := if offI mx = true then (0, encF (crF 0 [numL mx.toNat 1, numL ft 4, l])) else (1, [])
theorem helI_rd {w : World} {g : Nat} {mx : Int} {ft : Nat} {l : List UInt8} {t : TypeId} (h : w.heap[g]? = some (.cells (helI mx ft l) t (0, 0))) : Rd w (some ⟨g, 2, none⟩) (l.map bv) := by
  refine .inr ⟨g, 2, rfl, heap_lt h, fun k hk => ?_⟩
  rw [heap_cell h, helI, List.getElem?_toArray, show 2 + k = k + 1 + 1 by omega, List.getElem?_cons_succ, List.getElem?_cons_succ, List.getElem?_eq_getElem hk]
theorem rds3 (w : World) {A0 A1 A2 : Option Addr} {n0 n1 n2 c0 c1 c2 : Nat} {b0 b1 b2 : List UInt8} (h0 : b0.length = n0 ∧ Rd w A0 (b0.map bv) ∧ n0 ≤ c0 ∧ c0 ≤ maxLen) (h1 : b1.length = n1 ∧ Rd w A1 (b1.map bv) ∧ n1 ≤ c1 ∧ c1 ≤ maxLen) (h2 : b2.length = n2 ∧ Rd w A2 (b2.map bv) ∧ n2 ≤ c2 ∧ c2 ≤ maxLen) :
    RdS (w.alloc (.cells #[.slice A0 n0 c0, .slice A1 n1 c1, .slice A2 n2 c2] 25)) (some ⟨w.heap.size, 0, none⟩) [b0, b1, b2] :=
  RdS_lit w [(A0, n0, c0), (A1, n1, c1), (A2, n2, c2)] [b0, b1, b2] _ rfl (fun x hx => by
    simp at hx
    rcases hx with rfl | rfl | rfl
    · exact h0
    · exact h1
    · exact h2)
set_option maxRecDepth 100000 in
set_option maxHeartbeats 4000000 in
theorem PutHello_c (mx : Int) (ft : Nat) (l : List UInt8) (hf : ft < 4294967296) (h : l.length = 16) (w : World) :
    Calls Try.prog 15 #[.agg (helI mx ft l)] w fun r w' => ∃ x, r = .returned (.tuple #[x, .int .i64 (putH mx ft l).1]) ∧ OwnB w' w.heap.size x (putH mx ft l).2 ∧ Below w.heap.size w w' := by
  obtain ⟨w1, ew1⟩ : ∃ w1, w1 = w.alloc (.cells (helI mx ft l) 44) := ⟨_, rfl⟩
  obtain ⟨gb, egb⟩ : ∃ gb, gb = w.heap.size := ⟨_, rfl⟩
  have b1 : Below w.heap.size w w1 := by rw [ew1]; exact (Below.refl _ _).alloc (Nat.le_refl _) _
  have HH1 : Hid (w1.heap[gb]? = some (.cells (helI mx ft l) 44 (0, 0))) := Lib.hid (by rw [ew1, egb]; exact heap_alloc_new w _)
  have x0 : w1.cell? ⟨gb, 0, none⟩ = some (.int .i64 mx) := (heap_cell HH1.out 0).trans rfl
  have x1 : w1.cell? ⟨gb, 1, none⟩ = some (.int .u32 (ft : Int)) := (heap_cell HH1.out 1).trans rfl
  have HB1 := Lib.hid b1
  have HL := Lib.hid h
  have HF := Lib.hid hf
  have EW1 := Lib.hid ew1
  have EGB := Lib.hid egb
  obtain ⟨E, eE⟩ : ∃ E, (putH mx ft l).1 = E := ⟨_, rfl⟩
  obtain ⟨L, eL⟩ : ∃ L, (putH mx ft l).2 = L := ⟨_, rfl⟩
  rw [eE, eL]
  have HE := Lib.hid eE
  have HLL := Lib.hid eL
  clear ew1 egb b1 h hf eE eL
  go_enter Try.func15, Try.ntmps15
  go_upto_region 1 with (fail)
  rw [← EW1.out, ← EGB.out]
  go_wp2_with (fail)
  refine (offerMayI_c mx ft w1).mono ?_
  rintro _ w2 ⟨rfl, hb2⟩
  obtain ⟨O, eO⟩ : ∃ O, offI mx = O := ⟨_, rfl⟩
  rw [eO]
  have HO := Lib.hid eO
  have HB2 := Lib.hid (HB1.out.trans (hb2.mono HB1.out.size))
  have HH2 := Lib.hid ((hb2.block gb (heap_lt HH1.out)).trans HH1.out)
  clear hb2 eO x0 x1
  cases O with
  | false =>
    have hE : E = 1 := by rw [← HE.out]; unfold putH; rw [HO.out]; rfl
    have hL : L = [] := by rw [← HLL.out]; unfold putH; rw [HO.out]; rfl
    have EE := Lib.hid hE
    have EL := Lib.hid hL
    clear hE hL
    go_wp2_with (fail)
    go_ret2
    rw [EE.out, EL.out]
    exact ⟨_, rfl, Own.nil_ _ _ _, HB2.out⟩
  | true =>
    have hE : E = 0 := by rw [← HE.out]; unfold putH; rw [HO.out]; rfl
    obtain ⟨m1, m3⟩ : 1 ≤ mx ∧ mx ≤ 3 := of_decide_eq_true HO.out
    obtain ⟨M, rfl⟩ : ∃ M : Nat, mx = (M : Int) := ⟨mx.toNat, by omega⟩
    have hL : L = encF (crF 0 [numL M 1, numL ft 4, l]) := by rw [← HLL.out]; unfold putH; rw [HO.out]; rfl
    have EE := Lib.hid hE
    have EL := Lib.hid hL
    have VM : Hid (U64 M) := Lib.hid (by unfold U64; omega)
    have VF : Hid (U64 ft) := Lib.hid (by have := HF.out; unfold U64; omega)
    have hw1 := u64w (n := M) (by omega)
    have hw2 := u32w HF.out
    have z0 : w2.cell? ⟨gb, 0, none⟩ = some (.int .i64 (M : Int)) := (heap_cell HH2.out 0).trans rfl
    have z1 : w2.cell? ⟨gb, 1, none⟩ = some (.int .u32 (ft : Int)) := (heap_cell HH2.out 1).trans rfl
    have HC0 : Hid (w2.drew.cell? ⟨gb, 0, none⟩ = some (.int .i64 (M : Int)) ∧ w2.drew.cell? ⟨gb, 1, none⟩ = some (.int .u32 (ft : Int))) := Lib.hid ⟨z0, z1⟩
    have hgb : gb < w2.heap.size := heap_lt HH2.out
    have HRB := Lib.hid (helI_rd HH2.out)
    clear hE hL m1 m3 z0 z1
    go_upto_region 3 with (fail)
    go_region_held3 (fun w' => w'.cell? ⟨gb, 0, none⟩ = some (.int .i64 (M : Int)) ∧ w'.cell? ⟨gb, 1, none⟩ = some (.int .u32 (ft : Int))) (first | (with_reducible exact HC0.out) | (with_reducible assumption) | (with_reducible exact keep01 hgb (by assumption) (by assumption)) | (with_reducible exact keep01 hgb (by assumption) ((Below.refl _ _).alloc (by assumption) _))) (first
      | (go_at_call 34; (with_reducible refine (Num_c M 1 _ VM.out).mono ?_); rintro _ w4 ⟨v4, rfl, ho4, hb4⟩; rw [nm1] at ho4; obtain ⟨A4, c4, rfl, hc4, hm4, r4, _⟩ := OwnB.form ho4; rw [numL_length] at hc4 ⊢; have N4 : Hid (Below w2.heap.size w2 w4) := Lib.hid ((below_drewN (Below.refl _ _) 1).trans hb4); have R4 : Hid ((numL M 1).length = 1 ∧ Rd w4 A4 ((numL M 1).map bv) ∧ 1 ≤ c4 ∧ c4 ≤ maxLen) := Lib.hid ⟨numL_length _ _, r4, hc4, hm4⟩; have hk4 : Below w2.heap.size _ w4 := hb4; have s4 : w2.heap.size ≤ w4.heap.size := N4.out.size; clear ho4 hb4 r4 hc4 hm4)
      | (go_at_call 34; (with_reducible refine (Num_c ft 4 _ VF.out).mono ?_); rintro _ w5 ⟨v5, rfl, ho5, hb5⟩; rw [nm4] at ho5; obtain ⟨A5, c5, rfl, hc5, hm5, r5, _⟩ := OwnB.form ho5; rw [numL_length] at hc5 ⊢; have N5 : Hid (Below w2.heap.size w2 w5) := Lib.hid (N4.out.trans (hb5.mono s4)); have R5 := Lib.hid (rds3 w5 ⟨R4.out.1, R4.out.2.1.below hb5, R4.out.2.2⟩ ⟨numL_length ft 4, r5, hc5, hm5⟩ (A2 := some ⟨gb, 2, none⟩) (c2 := 16) ⟨HL.out, HRB.out.below N5.out, Nat.le_refl _, by decide⟩); have hk5 : Below w2.heap.size _ w5 := hb5.mono s4; have s5 : w2.heap.size ≤ w5.heap.size := N5.out.size; clear ho5 hb5 r5 hc5 hm5)
      | (go_at_call 43; (refine (listB_c (some ⟨w5.heap.size, 0, none⟩) 3 3 [numL M 1, numL ft 4, l] _ rfl R5.out (by decide) ?_).mono ?_); (intro b hb; simp at hb; rcases hb with rfl | rfl | rfl; (rw [numL_length]; decide); (rw [numL_length]; decide); (rw [HL.out]; decide)); rintro _ w6 ⟨v6, rfl, ho6, hb6⟩; have HO6 := Lib.hid ho6; have N6 := Lib.hid hb6; have hk6 : Below w2.heap.size _ w6 := hb6.mono (by simp; omega); clear ho6 hb6))
    have hz2 : w.heap.size ≤ w2.heap.size := HB2.out.size
    have b5 : Below w5.heap.size w5 (w5.alloc (.cells #[.slice A4 1 c4, .slice A5 4 c5, .slice (some ⟨gb, 2, none⟩) 16 16] 25)) := (Below.refl _ _).alloc (Nat.le_refl _) _
    have hz5 : w.heap.size ≤ w5.heap.size := Nat.le_trans hz2 N5.out.size
    have HOF := Lib.hid (Own.low HO6.out (Nat.le_trans hz5 b5.size))
    have HBF := Lib.hid (((HB2.out.trans (N5.out.mono hz2)).trans (b5.mono hz5)).trans (N6.out.mono (Nat.le_trans hz5 b5.size)))
    clear hz2 b5 hz5 hk4 hk5 hk6 s4 s5 hw1 hw2 HO6 N6 N5 N4 R4 R5
    go_wp2_with (fail)
    go_ret2
    rw [EE.out, EL.out]
    exact ⟨_, rfl, HOF.out, HBF.out⟩
end Go.Proofs.Ytcffinkkfdfcaaa
