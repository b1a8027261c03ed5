/- Parts one behind the other: What the first version's bytes say, by the reference: first. Conditions: as told at each. -/
import Derived.Test.YtcffinkkfdfcaaaPB19
import Derived.Test.YtcffinkkfdfcaaaPB16
import Derived.Test.YtcffinkkfdfcaaaPB15
import Derived.Test.YtcffinkkfdfcaaaPB18

set_option linter.unusedVariables false
set_option linter.unusedSimpArgs false
/- What the first version's bytes say, by the reference: first. Conditions: bytes that can be read. -/
namespace Go.Proofs.Ytcffinkkfdfcaaa
open Go Go.RowKit

/-- Bytes that can be read. -/
def Rl.rdq (n : Nat) (l : List UInt8) : Rl := ⟨fun w v => ∃ X c, v = .slice X n c ∧ l.length = n ∧ Rd w X (l.map bv), fun ⟨X, c, h, hn, r⟩ hb => ⟨X, c, h, hn, r.below hb⟩⟩
theorem gives_cut {o : Oper} {f : Nat → Value} {w : World} {K : Value → World → Prop} (x lo hi : Operand) (ho : o.op = .slice 25 x (some lo) (some hi) none) (A : Option Addr) (n c : Nat) (hx : evF f x = .slice A n c)
    (U V : Int) (hlo : evF f lo = .int .i64 U) (hhi : evF f hi = .int .i64 V) (l h : Nat) (hU : U = (l : Int)) (hV : V = (h : Int)) (h1 : l ≤ h) (h2 : h ≤ n) (hc : n ≤ c) (bs : List UInt8) (hl : bs.length = n) (hr : Rd w A (bs.map bv))
    (hK : ∀ A' c', Rd w A' (((bs.drop l).take (h - l)).map bv) → h - l ≤ c' → c' ≤ c → K (.slice A' (h - l) c') w) : Gives Try.prog o f w K := by
  subst hU hV
  have g1 : (l : Int) ≤ (h : Int) := by omega
  have g2 : (h : Int) ≤ (c : Int) := by omega
  have hcut := (hr.cut (k := l) (n := n) (c := c) (by rw [List.length_map]; exact hl) (by omega) hc).take (h - l)
  rw [← List.map_drop, ← List.map_take] at hcut
  unfold Gives execOp
  simp only [ho, Option.map_some, Option.map_none, hx, hlo, hhi]
  go_simp
  exact hK _ _ hcut (by omega) (by omega)
theorem gives_cutFrom {o : Oper} {f : Nat → Value} {w : World} {K : Value → World → Prop} (x lo : Operand) (ho : o.op = .slice 25 x (some lo) none none) (A : Option Addr) (n c : Nat) (hx : evF f x = .slice A n c)
    (U : Int) (hlo : evF f lo = .int .i64 U) (l : Nat) (hU : U = (l : Int)) (h2 : l ≤ n) (hc : n ≤ c) (bs : List UInt8) (hl : bs.length = n) (hr : Rd w A (bs.map bv))
    (hK : ∀ A' c', Rd w A' ((bs.drop l).map bv) → n - l ≤ c' → c' ≤ c → K (.slice A' (n - l) c') w) : Gives Try.prog o f w K := by
  subst hU
  have g1 : (l : Int) ≤ (n : Int) := by omega
  have hcut := hr.cut (k := l) (n := n) (c := c) (by rw [List.length_map]; exact hl) (by omega) hc
  rw [← List.map_drop] at hcut
  unfold Gives execOp
  simp only [ho, Option.map_some, Option.map_none, hx, hlo]
  go_simp
  exact hK _ _ hcut (by omega) (by omega)
/-- What the reference answers: nine cells; where there is no error, they are the data. -/
def DatF (ok : Nat → Prop) (w : World) (cs : Array Value) (e : Nat) (d : DataD) : Prop := cs.size = 9 ∧ cs.all (·.oneCell') = true ∧ (e = 0 → ∃ A n c, cs = datC d A n c ∧ TxtR ok w A n c d.p.bs)
/-- A block of data's cells, made from block B on. -/
def Rl.dat (B : Nat) (cs : Array Value) : Rl := ⟨fun w x => ∃ g, x = .pointer (some ⟨g, 0, none⟩) ∧ B ≤ g ∧ w.heap[g]? = some (.cells cs 29 (0, 0)), fun ⟨g, h, hB, r⟩ hb => ⟨g, h, hB, (hb.block g (heap_lt r)).trans r⟩⟩
theorem bAt_get {bs : List UInt8} {i : Nat} (h : i < bs.length) : bAt bs i = (bs[i]).toNat := by
  unfold bAt
  rw [List.drop_eq_getElem_cons h, List.take_succ_cons, List.take_zero]
  simp [beN]
theorem cut_len {bs : List UInt8} {l k : Nat} (h : l + k ≤ bs.length) : ((bs.drop l).take k).length = k := by rw [List.length_take, List.length_drop]; omega
theorem ref_first_results (tmps : Array Value) (g : Nat) (t : TypeId) (cs : Array Value) (fr : Nat × Nat) (y : Int) (h2 : tmps.getD 2 undef = .pointer (some ⟨g, 0, none⟩)) (h3 : tmps.getD 3 undef = .int .i64 y) (w : World) (hg : w.heap[g]? = some (.cells cs t fr)) (hi : (Try.prog.info? 29).map (·.size) = some cs.size) :
    (results Try.f56 tmps).run Try.prog w = .ok (.tuple #[.agg cs, .int .i64 y]) w := by
  have h2' : tmps[2]?.getD undef = .pointer (some ⟨g, 0, none⟩) := by simpa using h2
  have h3' : tmps[3]?.getD undef = .int .i64 y := by simpa using h3
  simp [results, Try.results56, h2', h3', asAddr, run_loadVar_row w g t 29 cs fr _ hg Try.underlying29 rfl hi]
set_option maxRecDepth 100000 in
set_option maxHeartbeats 8000000 in
theorem refFirst_c (bs : List UInt8) (A : Option Addr) (n c : Nat) (w : World) (hn : bs.length = n) (hr : Rd w A (bs.map bv)) (hc : n ≤ c) (hcm : c ≤ maxLen) (hl : n ≤ 140737488355328) :
    Calls Try.prog 56 #[.slice A n c] w fun r w' => ∃ cs, r = .returned (.tuple #[.agg cs, .int .i64 (firE bs : Int)]) ∧ DatF (w.heap.size ≤ ·) w' cs (firE bs) (firD bs) ∧ Below w.heap.size w w' := by
  have HN := Lib.hid hn
  have HC := Lib.hid hc
  have HCM := Lib.hid hcm
  have HLN := Lib.hid hl
  obtain ⟨w1, ew1⟩ : ∃ w1, w1 = w.alloc (.cells #[.int .u16 0, .int .u16 0, .int .u64 0, .int .u64 0, .bool false, .int .u32 0, .int .i64 0, .int .i64 0, .slice none 0 0] 29) := ⟨_, rfl⟩
  obtain ⟨gr, egr⟩ : ∃ gr, gr = w.heap.size := ⟨_, rfl⟩
  have b1 : Below w.heap.size w w1 := by rw [ew1]; exact (Below.refl _ _).alloc (Nat.le_refl _) _
  have HG1 : Hid (w1.heap[gr]? = some (.cells #[.int .u16 0, .int .u16 0, .int .u64 0, .int .u64 0, .bool false, .int .u32 0, .int .i64 0, .int .i64 0, .slice none 0 0] 29 (0, 0))) := Lib.hid (by rw [ew1, egr]; exact heap_alloc_new _ _)
  have HR1 := Lib.hid (hr.below b1)
  have HB1 := Lib.hid b1
  have EW1 := Lib.hid ew1
  have EGR := Lib.hid egr
  obtain ⟨E, eE⟩ : ∃ E, firE bs = E := ⟨_, rfl⟩
  obtain ⟨D, eD⟩ : ∃ D, firD bs = D := ⟨_, rfl⟩
  rw [eE, eD]
  have HE := Lib.hid eE
  have HDD := Lib.hid eD
  clear ew1 egr b1 hn hr hc hcm hl eE eD
  by_cases h21 : n < 21
  · have d0 : (n : Int) < 21 := by omega
    have EE : Hid (E = 2) := Lib.hid (by rw [← HE.out, firE, if_pos (by rw [HN.out]; exact h21)])
    clear h21
    go_enter Try.func56, Try.ntmps56
    go_upto_region 1 with (fail)
    rw [← EW1.out, ← EGR.out]
    go_wp2_with (first
      | (refine wpList_store_row rfl 29 (.tmp 2) (.tmp 8) rfl gr #[.int .u16 0, .int .u16 0, .int .u64 0, .int .u64 0, .bool false, .int .u32 0, .int .i64 0, .int .i64 0, .slice none 0 0] rfl rfl 29 _ HG1.out info_dat rfl zd_one ?_))
    have HBF := Lib.hid (below_setRow (g := gr) HB1.out (Nat.le_of_eq EGR.out.symm) #[.int .u16 0, .int .u16 0, .int .u64 0, .int .u64 0, .bool false, .int .u32 0, .int .i64 0, .int .i64 0, .slice none 0 0])
    refine bodyPost_ret (v := .tuple #[.agg #[.int .u16 0, .int .u16 0, .int .u64 0, .int .u64 0, .bool false, .int .u32 0, .int .i64 0, .int .i64 0, .slice none 0 0], .int .i64 2]) (ref_first_results _ gr 29 _ (0, 0) 2 rfl rfl _ (setRow_heap w1 gr _ _ _ _ HG1.out) info_dat) rfl ?_
    rw [EE.out]
    exact ⟨_, rfl, ⟨rfl, zd_one, fun h => by cases h⟩, HBF.out⟩
  · have d0 : ¬ ((n : Int) < 21) := by omega
    have H21 : Hid (21 ≤ n) := Lib.hid (by omega)
    have hn21 : (21 : Int) ≤ (n : Int) := by omega
    obtain ⟨bx, off, rfl, hbx, hcell⟩ := HR1.out.addrB (by have := HN.out; omega)
    obtain ⟨y20, ey⟩ : ∃ y, bAt bs 20 = y := ⟨_, rfl⟩
    have c20 : w1.cell? ⟨bx, off + 20, none⟩ = some (.int .u8 (y20 : Int)) := by
      rw [hcell 20 (by have := HN.out; omega), ← ey, bAt_get (by have := HN.out; omega)]; rfl
    have hy20 : y20 < 256 := by rw [← ey, bAt_get (by have := HN.out; omega)]; exact UInt8.toNat_lt _
    have HC20 := Lib.hid c20
    have HY := Lib.hid ey
    have HBX := Lib.hid hbx
    have HCELL := Lib.hid hcell
    clear h21 c20 ey hcell hbx
    obtain ⟨l1, el⟩ : ∃ l, (bs.drop 0).take (2 - 0) = l := ⟨_, rfl⟩
    obtain ⟨x1, ex⟩ : ∃ x, beN l1 = x := ⟨_, rfl⟩
    have HL1 : Hid (l1.length = 2) := Lib.hid (by rw [← el]; exact cut_len (by have := HN.out; have := H21.out; omega))
    have HEL1 := Lib.hid el
    have HX1 := Lib.hid ex
    have hw1 : IntKind.u16.wrap (x1 : Int) = (x1 : Int) := u16w' (by rw [← ex]; have := beN_lt l1; rw [HL1.out] at this; exact this)
    clear el ex
    obtain ⟨l2, el⟩ : ∃ l, (bs.drop 2).take (4 - 2) = l := ⟨_, rfl⟩
    obtain ⟨x2, ex⟩ : ∃ x, beN l2 = x := ⟨_, rfl⟩
    have HL2 : Hid (l2.length = 2) := Lib.hid (by rw [← el]; exact cut_len (by have := HN.out; have := H21.out; omega))
    have HEL2 := Lib.hid el
    have HX2 := Lib.hid ex
    have hw2 : IntKind.u16.wrap (x2 : Int) = (x2 : Int) := u16w' (by rw [← ex]; have := beN_lt l2; rw [HL2.out] at this; exact this)
    clear el ex
    obtain ⟨l3, el⟩ : ∃ l, (bs.drop 4).take (12 - 4) = l := ⟨_, rfl⟩
    obtain ⟨x3, ex⟩ : ∃ x, beN l3 = x := ⟨_, rfl⟩
    have HL3 : Hid (l3.length = 8) := Lib.hid (by rw [← el]; exact cut_len (by have := HN.out; have := H21.out; omega))
    have HEL3 := Lib.hid el
    have HX3 := Lib.hid ex
    clear el ex
    obtain ⟨l4, el⟩ : ∃ l, (bs.drop 12).take (20 - 12) = l := ⟨_, rfl⟩
    obtain ⟨x4, ex⟩ : ∃ x, beN l4 = x := ⟨_, rfl⟩
    have HL4 : Hid (l4.length = 8) := Lib.hid (by rw [← el]; exact cut_len (by have := HN.out; have := H21.out; omega))
    have HEL4 := Lib.hid el
    have HX4 := Lib.hid ex
    clear el ex
    go_enter Try.func56, Try.ntmps56
    go_upto_region 1 with (fail)
    rw [← EW1.out, ← EGR.out]
    go_upto_region 3 with (fail)
    refine wp_region_rt 61 16 [Rl.eq (.slice (some ⟨bx, off, none⟩) n c), Rl.rdq 2 l1, Rl.eq (.int .u64 (x1 : Int)), Rl.eq (.int .u16 (x1 : Int)), Rl.eq (.slice (some ⟨bx, off, none⟩) n c), Rl.rdq 2 l2, Rl.eq (.int .u64 (x2 : Int)), Rl.eq (.int .u16 (x2 : Int)), Rl.eq (.slice (some ⟨bx, off, none⟩) n c), Rl.rdq 8 l3, Rl.eq (.int .u64 (x3 : Int)), Rl.eq (.slice (some ⟨bx, off, none⟩) n c), Rl.rdq 8 l4, Rl.eq (.int .u64 (x4 : Int)), Rl.eq (.agg #[.int .u16 (x1 : Int), .int .u16 (x2 : Int), .int .u64 (x3 : Int), .int .u64 (x4 : Int), .bool false, .int .u32 0, .int .i64 0, .int .i64 0, .slice none 0 0]), Rl.dat w1.heap.size #[.int .u16 0, .int .u16 0, .int .u64 0, .int .u64 0, .bool false, .int .u32 0, .int .i64 0, .int .i64 0, .slice none 0 0]] [9, 10, 11, 12, 13, 14, 15, 16, 17, 18, 19, 20, 21, 22, 23, 4] (by kernel_rfl) rfl (by kernel_rfl) (by kernel_rfl) (by decide) (by kernel_rfl) (by kernel_rfl) ?_ ?_
    · simp only [List.take_succ_cons, List.take_zero]
      repeat (first | exact AllFrom.nil_ | (refine AllFrom.cons_ (by rfl) ?_ ?_; rotate_left))
      · intro f w' g hF hD
        have h0 : f 0 = .slice (some ⟨bx, off, none⟩) n c := hF 0 (by kernel_rfl)
        rw [if_pos (wanted_none rfl)]
        clear hF hD
        exact gives_val (by simp only [execOp, evF, h0]; first | rfl | go_simp) ⟨Gr.refl _, rfl⟩
      · intro f w' g hF hD
        have h9 : f 9 = (.slice (some ⟨bx, off, none⟩) n c) := hD 0 9 (by kernel_rfl) rfl
        rw [if_pos (wanted_none rfl)]
        clear hF hD
        have kg : Below w1.heap.size w1 w' := (below_drewN (Below.refl _ _) 1).trans g
        refine gives_cut (.tmp 9) (.const (.int .i64 0)) (.const (.int .i64 2)) rfl (some ⟨bx, off, none⟩) n c (by simp only [evF, h9]) 0 2 rfl rfl 0 2 rfl rfl (by decide) (by have := H21.out; omega) HC.out bs HN.out (HR1.out.below kg) ?_
        intro A9 c9 hr9 _ _
        rw [HEL1.out] at hr9
        exact ⟨Gr.refl _, A9, c9, rfl, HL1.out, hr9⟩
      · intro f w' g hF hD
        have q10 := hD 1 10 (by kernel_rfl) rfl
        rw [if_pos (wanted_none rfl)]
        clear hF hD
        obtain ⟨X, cX, hX, hlX, rX⟩ := q10
        refine gives_func rfl Try.func53 (by kernel_rfl) rfl (by simp only [List.map_toArray, List.map_cons, List.map_nil, evF, hX]) ((refNumber_c l1 X 2 cX w' hlX rX (by decide)).mono ?_)
        rintro e w'' ⟨rfl, rfl⟩
        rw [HX1.out]
        exact ⟨_, rfl, Gr.refl _, rfl⟩
      · intro f w' g hF hD
        have h11 : f 11 = (.int .u64 (x1 : Int)) := hD 2 11 (by kernel_rfl) rfl
        rw [if_pos (wanted_none rfl)]
        clear hF hD
        exact gives_val (by simp only [execOp, evF, h11]; first | rfl | go_simp) ⟨Gr.refl _, rfl⟩
      · intro f w' g hF hD
        have h0 : f 0 = .slice (some ⟨bx, off, none⟩) n c := hF 0 (by kernel_rfl)
        rw [if_pos (wanted_none rfl)]
        clear hF hD
        exact gives_val (by simp only [execOp, evF, h0]; first | rfl | go_simp) ⟨Gr.refl _, rfl⟩
      · intro f w' g hF hD
        have h13 : f 13 = (.slice (some ⟨bx, off, none⟩) n c) := hD 4 13 (by kernel_rfl) rfl
        rw [if_pos (wanted_none rfl)]
        clear hF hD
        have kg : Below w1.heap.size w1 w' := (below_drewN (Below.refl _ _) 1).trans g
        refine gives_cut (.tmp 13) (.const (.int .i64 2)) (.const (.int .i64 4)) rfl (some ⟨bx, off, none⟩) n c (by simp only [evF, h13]) 2 4 rfl rfl 2 4 rfl rfl (by decide) (by have := H21.out; omega) HC.out bs HN.out (HR1.out.below kg) ?_
        intro A9 c9 hr9 _ _
        rw [HEL2.out] at hr9
        exact ⟨Gr.refl _, A9, c9, rfl, HL2.out, hr9⟩
      · intro f w' g hF hD
        have q14 := hD 5 14 (by kernel_rfl) rfl
        rw [if_pos (wanted_none rfl)]
        clear hF hD
        obtain ⟨X, cX, hX, hlX, rX⟩ := q14
        refine gives_func rfl Try.func53 (by kernel_rfl) rfl (by simp only [List.map_toArray, List.map_cons, List.map_nil, evF, hX]) ((refNumber_c l2 X 2 cX w' hlX rX (by decide)).mono ?_)
        rintro e w'' ⟨rfl, rfl⟩
        rw [HX2.out]
        exact ⟨_, rfl, Gr.refl _, rfl⟩
      · intro f w' g hF hD
        have h15 : f 15 = (.int .u64 (x2 : Int)) := hD 6 15 (by kernel_rfl) rfl
        rw [if_pos (wanted_none rfl)]
        clear hF hD
        exact gives_val (by simp only [execOp, evF, h15]; first | rfl | go_simp) ⟨Gr.refl _, rfl⟩
      · intro f w' g hF hD
        have h0 : f 0 = .slice (some ⟨bx, off, none⟩) n c := hF 0 (by kernel_rfl)
        rw [if_pos (wanted_none rfl)]
        clear hF hD
        exact gives_val (by simp only [execOp, evF, h0]; first | rfl | go_simp) ⟨Gr.refl _, rfl⟩
      · intro f w' g hF hD
        have h17 : f 17 = (.slice (some ⟨bx, off, none⟩) n c) := hD 8 17 (by kernel_rfl) rfl
        rw [if_pos (wanted_none rfl)]
        clear hF hD
        have kg : Below w1.heap.size w1 w' := (below_drewN (Below.refl _ _) 1).trans g
        refine gives_cut (.tmp 17) (.const (.int .i64 4)) (.const (.int .i64 12)) rfl (some ⟨bx, off, none⟩) n c (by simp only [evF, h17]) 4 12 rfl rfl 4 12 rfl rfl (by decide) (by have := H21.out; omega) HC.out bs HN.out (HR1.out.below kg) ?_
        intro A9 c9 hr9 _ _
        rw [HEL3.out] at hr9
        exact ⟨Gr.refl _, A9, c9, rfl, HL3.out, hr9⟩
      · intro f w' g hF hD
        have q18 := hD 9 18 (by kernel_rfl) rfl
        rw [if_pos (wanted_none rfl)]
        clear hF hD
        obtain ⟨X, cX, hX, hlX, rX⟩ := q18
        refine gives_func rfl Try.func53 (by kernel_rfl) rfl (by simp only [List.map_toArray, List.map_cons, List.map_nil, evF, hX]) ((refNumber_c l3 X 8 cX w' hlX rX (by decide)).mono ?_)
        rintro e w'' ⟨rfl, rfl⟩
        rw [HX3.out]
        exact ⟨_, rfl, Gr.refl _, rfl⟩
      · intro f w' g hF hD
        have h0 : f 0 = .slice (some ⟨bx, off, none⟩) n c := hF 0 (by kernel_rfl)
        rw [if_pos (wanted_none rfl)]
        clear hF hD
        exact gives_val (by simp only [execOp, evF, h0]; first | rfl | go_simp) ⟨Gr.refl _, rfl⟩
      · intro f w' g hF hD
        have h20 : f 20 = (.slice (some ⟨bx, off, none⟩) n c) := hD 11 20 (by kernel_rfl) rfl
        rw [if_pos (wanted_none rfl)]
        clear hF hD
        have kg : Below w1.heap.size w1 w' := (below_drewN (Below.refl _ _) 1).trans g
        refine gives_cut (.tmp 20) (.const (.int .i64 12)) (.const (.int .i64 20)) rfl (some ⟨bx, off, none⟩) n c (by simp only [evF, h20]) 12 20 rfl rfl 12 20 rfl rfl (by decide) (by have := H21.out; omega) HC.out bs HN.out (HR1.out.below kg) ?_
        intro A9 c9 hr9 _ _
        rw [HEL4.out] at hr9
        exact ⟨Gr.refl _, A9, c9, rfl, HL4.out, hr9⟩
      · intro f w' g hF hD
        have q21 := hD 12 21 (by kernel_rfl) rfl
        rw [if_pos (wanted_none rfl)]
        clear hF hD
        obtain ⟨X, cX, hX, hlX, rX⟩ := q21
        refine gives_func rfl Try.func53 (by kernel_rfl) rfl (by simp only [List.map_toArray, List.map_cons, List.map_nil, evF, hX]) ((refNumber_c l4 X 8 cX w' hlX rX (by decide)).mono ?_)
        rintro e w'' ⟨rfl, rfl⟩
        rw [HX4.out]
        exact ⟨_, rfl, Gr.refl _, rfl⟩
      · intro f w' g hF hD
        have h12 : f 12 = (.int .u16 (x1 : Int)) := hD 3 12 (by kernel_rfl) rfl
        have h16 : f 16 = (.int .u16 (x2 : Int)) := hD 7 16 (by kernel_rfl) rfl
        have h19 : f 19 = (.int .u64 (x3 : Int)) := hD 10 19 (by kernel_rfl) rfl
        have h22 : f 22 = (.int .u64 (x4 : Int)) := hD 13 22 (by kernel_rfl) rfl
        rw [if_pos (wanted_none rfl)]
        clear hF hD
        exact gives_build 29 _ rfl #[.int .u16 (x1 : Int), .int .u16 (x2 : Int), .int .u64 (x3 : Int), .int .u64 (x4 : Int), .bool false, .int .u32 0, .int .i64 0, .int .i64 0, .slice none 0 0] (by simp only [List.map_toArray, List.map_cons, List.map_nil, evF, h12, h16, h19, h22]; kernel_rfl) ⟨Gr.refl _, rfl⟩
      · intro f w' g hF hD
        rw [if_pos (wanted_none rfl)]
        clear hF hD
        have kg : Below w1.heap.size w1 w' := (below_drewN (Below.refl _ _) 1).trans g
        exact gives_val (by simp only [execOp, evF]; first | rfl | go_simp) ⟨(Below.refl _ _).alloc (Nat.le_refl _) _, w'.heap.size, rfl, kg.size, heap_alloc_new _ _⟩
    intro f' w4 g hD
    have h23 : f' 23 = .agg #[.int .u16 (x1 : Int), .int .u16 (x2 : Int), .int .u64 (x3 : Int), .int .u64 (x4 : Int), .bool false, .int .u32 0, .int .i64 0, .int .i64 0, .slice none 0 0] := hD 14 23 (by decide) rfl
    obtain ⟨g4, h4, hB4, hg4⟩ : ∃ g, f' 4 = .pointer (some ⟨g, 0, none⟩) ∧ w1.heap.size ≤ g ∧ w4.heap[g]? = some (.cells #[.int .u16 0, .int .u16 0, .int .u64 0, .int .u64 0, .bool false, .int .u32 0, .int .i64 0, .int .i64 0, .slice none 0 0] 29 (0, 0)) := hD 15 4 (by decide) rfl
    simp only [List.drop_succ_cons, List.drop_zero, putAll, List.setIfInBounds_toArray, List.set_cons_zero, List.set_cons_succ, h23, h4]
    obtain ⟨w5, ew5⟩ : ∃ w5, w5 = w4.setRow g4 #[.int .u16 (x1 : Int), .int .u16 (x2 : Int), .int .u64 (x3 : Int), .int .u64 (x4 : Int), .bool false, .int .u32 0, .int .i64 0, .int .i64 0, .slice none 0 0] := ⟨_, rfl⟩
    have hg5 : w5.heap[g4]? = some (.cells #[.int .u16 (x1 : Int), .int .u16 (x2 : Int), .int .u64 (x3 : Int), .int .u64 (x4 : Int), .bool false, .int .u32 0, .int .i64 0, .int .i64 0, .slice none 0 0] 29 (0, 0)) := by rw [ew5]; exact setRow_heap _ _ _ _ _ _ hg4
    have kg : Below w1.heap.size w1 w4 := (below_drewN (Below.refl _ _) 1).trans g
    have k15 : Below w1.heap.size w1 w5 := by rw [ew5]; exact below_setRow kg hB4 #[.int .u16 (x1 : Int), .int .u16 (x2 : Int), .int .u64 (x3 : Int), .int .u64 (x4 : Int), .bool false, .int .u32 0, .int .i64 0, .int .i64 0, .slice none 0 0]
    have HG5 := Lib.hid ((k15.block gr (heap_lt HG1.out)).trans HG1.out)
    have HB5 := Lib.hid (HB1.out.trans (k15.mono HB1.out.size))
    have HR5 := Lib.hid (HR1.out.below k15)
    have HK5 := Lib.hid k15
    have HH5 := Lib.hid hg5
    have HQ : Hid (gr < g4 ∧ w.heap.size ≤ g4 ∧ w1.heap.size ≤ g4) := Lib.hid (by have := heap_lt HG1.out; have := HB1.out.size; omega)
    have EW5 := Lib.hid ew5
    have c20 : w5.cell? ⟨bx, off + 20, none⟩ = some (.int .u8 (y20 : Int)) := (k15.cell (p := ⟨bx, _, none⟩) HBX.out).trans HC20.out
    have HFST : Hid ((⟨x1, x2, x3, x4, false, ⟨0, 0, 0, []⟩⟩ : DataD) = fstD bs) := Lib.hid (by rw [← HX1.out, ← HX2.out, ← HX3.out, ← HX4.out, ← HEL1.out, ← HEL2.out, ← HEL3.out, ← HEL4.out]; rfl)
    refine wpList_store_row rfl 29 (.tmp 4) (.tmp 23) rfl g4 #[.int .u16 (x1 : Int), .int .u16 (x2 : Int), .int .u64 (x3 : Int), .int .u64 (x4 : Int), .bool false, .int .u32 0, .int .i64 0, .int .i64 0, .slice none 0 0] rfl rfl 29 _ hg4 info_dat rfl (nine_one _ _ _ _ _ _ _ _ _ _ _) ?_
    rw [← EW5.out]
    clear h23 h4 hB4 hg4 g hD kg k15 hg5 ew5 hw1 hw2
    by_cases h1 : 1 < y20
    · have d1 : (1 : Int) < (y20 : Int) := by omega
      have EE : Hid (E = 3) := Lib.hid (by rw [← HE.out, firE, if_neg (by rw [HN.out]; have := H21.out; omega), if_pos (by rw [HY.out]; exact h1)])
      clear h1
      go_wp2_with (first
        | (refine wpList_load_row rfl 29 (.tmp 4) rfl g4 rfl 29 #[.int .u16 (x1 : Int), .int .u16 (x2 : Int), .int .u64 (x3 : Int), .int .u64 (x4 : Int), .bool false, .int .u32 0, .int .i64 0, .int .i64 0, .slice none 0 0] (0, 0) _ HH5.out Try.underlying29 rfl info_dat ?_)
        | (refine wpList_store_row rfl 29 (.tmp 2) (.tmp 28) rfl gr #[.int .u16 (x1 : Int), .int .u16 (x2 : Int), .int .u64 (x3 : Int), .int .u64 (x4 : Int), .bool false, .int .u32 0, .int .i64 0, .int .i64 0, .slice none 0 0] rfl rfl 29 _ HG5.out info_dat rfl (nine_one _ _ _ _ _ _ _ _ _ _ _) ?_))
      have HBF := Lib.hid (below_setRow (g := gr) HB5.out (Nat.le_of_eq EGR.out.symm) #[.int .u16 (x1 : Int), .int .u16 (x2 : Int), .int .u64 (x3 : Int), .int .u64 (x4 : Int), .bool false, .int .u32 0, .int .i64 0, .int .i64 0, .slice none 0 0])
      refine bodyPost_ret (v := .tuple #[.agg #[.int .u16 (x1 : Int), .int .u16 (x2 : Int), .int .u64 (x3 : Int), .int .u64 (x4 : Int), .bool false, .int .u32 0, .int .i64 0, .int .i64 0, .slice none 0 0], .int .i64 3]) (ref_first_results _ gr 29 _ (0, 0) 3 rfl rfl _ (setRow_heap w5 gr _ _ _ _ HG5.out) info_dat) rfl ?_
      rw [EE.out]
      exact ⟨_, rfl, ⟨rfl, nine_one _ _ _ _ _ _ _ _ _ _ _, fun h => by cases h⟩, HBF.out⟩
    · have d1 : ¬ ((1 : Int) < (y20 : Int)) := by omega
      have d1' : (y20 : Int) ≤ 1 := by omega
      have H1 := Lib.hid h1
      clear h1
      by_cases h2 : y20 = 0
      · have d2 : ((y20 : Int) == 0) = true := by rw [h2]; rfl
        have ED : Hid (D = fstD bs) := Lib.hid (by rw [← HDD.out, firD, if_pos (by rw [HY.out]; exact h2)])
        have hE0 : E = if 21 < n then 6 else 0 := by rw [← HE.out, firE, if_neg (by rw [HN.out]; have := H21.out; omega), if_neg (by rw [HY.out]; exact H1.out), if_pos (by rw [HY.out]; exact h2), HN.out]
        have HE0 := Lib.hid hE0
        clear h2 hE0
        by_cases h3 : 21 < n
        · have d3 : (21 : Int) < (n : Int) := by omega
          have EE : Hid (E = 6) := Lib.hid (by rw [HE0.out, if_pos h3])
          clear h3
          go_wp2_with (first
            | (refine wpList_load_row rfl 29 (.tmp 4) rfl g4 rfl 29 #[.int .u16 (x1 : Int), .int .u16 (x2 : Int), .int .u64 (x3 : Int), .int .u64 (x4 : Int), .bool false, .int .u32 0, .int .i64 0, .int .i64 0, .slice none 0 0] (0, 0) _ HH5.out Try.underlying29 rfl info_dat ?_)
            | (refine wpList_store_row rfl 29 (.tmp 2) (.tmp 36) rfl gr #[.int .u16 (x1 : Int), .int .u16 (x2 : Int), .int .u64 (x3 : Int), .int .u64 (x4 : Int), .bool false, .int .u32 0, .int .i64 0, .int .i64 0, .slice none 0 0] rfl rfl 29 _ HG5.out info_dat rfl (nine_one _ _ _ _ _ _ _ _ _ _ _) ?_))
          have HBF := Lib.hid (below_setRow (g := gr) HB5.out (Nat.le_of_eq EGR.out.symm) #[.int .u16 (x1 : Int), .int .u16 (x2 : Int), .int .u64 (x3 : Int), .int .u64 (x4 : Int), .bool false, .int .u32 0, .int .i64 0, .int .i64 0, .slice none 0 0])
          refine bodyPost_ret (v := .tuple #[.agg #[.int .u16 (x1 : Int), .int .u16 (x2 : Int), .int .u64 (x3 : Int), .int .u64 (x4 : Int), .bool false, .int .u32 0, .int .i64 0, .int .i64 0, .slice none 0 0], .int .i64 6]) (ref_first_results _ gr 29 _ (0, 0) 6 rfl rfl _ (setRow_heap w5 gr _ _ _ _ HG5.out) info_dat) rfl ?_
          rw [EE.out]
          exact ⟨_, rfl, ⟨rfl, nine_one _ _ _ _ _ _ _ _ _ _ _, fun h => by cases h⟩, HBF.out⟩
        · have d3 : ¬ ((21 : Int) < (n : Int)) := by omega
          have EE : Hid (E = 0) := Lib.hid (by rw [HE0.out, if_neg h3])
          clear h3
          go_wp2_with (first
            | (refine wpList_load_row rfl 29 (.tmp 4) rfl g4 rfl 29 #[.int .u16 (x1 : Int), .int .u16 (x2 : Int), .int .u64 (x3 : Int), .int .u64 (x4 : Int), .bool false, .int .u32 0, .int .i64 0, .int .i64 0, .slice none 0 0] (0, 0) _ HH5.out Try.underlying29 rfl info_dat ?_)
            | (refine wpList_store_row rfl 29 (.tmp 2) (.tmp 37) rfl gr #[.int .u16 (x1 : Int), .int .u16 (x2 : Int), .int .u64 (x3 : Int), .int .u64 (x4 : Int), .bool false, .int .u32 0, .int .i64 0, .int .i64 0, .slice none 0 0] rfl rfl 29 _ HG5.out info_dat rfl (nine_one _ _ _ _ _ _ _ _ _ _ _) ?_))
          have HBF := Lib.hid (below_setRow (g := gr) HB5.out (Nat.le_of_eq EGR.out.symm) #[.int .u16 (x1 : Int), .int .u16 (x2 : Int), .int .u64 (x3 : Int), .int .u64 (x4 : Int), .bool false, .int .u32 0, .int .i64 0, .int .i64 0, .slice none 0 0])
          refine bodyPost_ret (v := .tuple #[.agg #[.int .u16 (x1 : Int), .int .u16 (x2 : Int), .int .u64 (x3 : Int), .int .u64 (x4 : Int), .bool false, .int .u32 0, .int .i64 0, .int .i64 0, .slice none 0 0], .int .i64 0]) (ref_first_results _ gr 29 _ (0, 0) 0 rfl rfl _ (setRow_heap w5 gr _ _ _ _ HG5.out) info_dat) rfl ?_
          rw [EE.out]
          refine ⟨_, rfl, ⟨rfl, nine_one _ _ _ _ _ _ _ _ _ _ _, fun _ => ⟨none, 0, 0, ?_, ?_⟩⟩, HBF.out⟩
          · rw [ED.out, ← HFST.out]; rfl
          · rw [ED.out, ← HFST.out]; exact (TxtO.nil_ _ _).r
      · have d2 : ((y20 : Int) == 0) = false := by rw [beq_eq_false_iff_ne]; omega
        have hE0 : E = if n < 27 then 2 else 0 := by rw [← HE.out, firE, if_neg (by rw [HN.out]; have := H21.out; omega), if_neg (by rw [HY.out]; exact H1.out), if_neg (by rw [HY.out]; exact h2), HN.out]
        have ED : Hid (D = { fstD bs with has := true, p := ⟨beN ((bs.drop 21).take 4), bAt bs 25, bAt bs 26, bs.drop 27⟩ }) := Lib.hid (by rw [← HDD.out, firD, if_neg (by rw [HY.out]; exact h2)])
        have HE0 := Lib.hid hE0
        clear h2 hE0
        by_cases h3 : n < 27
        · have d3 : (n : Int) < 27 := by omega
          have EE : Hid (E = 2) := Lib.hid (by rw [HE0.out, if_pos h3])
          clear h3
          go_wp2_with (first
            | (refine wpList_load_row rfl 29 (.tmp 4) rfl g4 rfl 29 #[.int .u16 (x1 : Int), .int .u16 (x2 : Int), .int .u64 (x3 : Int), .int .u64 (x4 : Int), .bool false, .int .u32 0, .int .i64 0, .int .i64 0, .slice none 0 0] (0, 0) _ HH5.out Try.underlying29 rfl info_dat ?_)
            | (refine wpList_store_row rfl 29 (.tmp 2) (.tmp 41) rfl gr #[.int .u16 (x1 : Int), .int .u16 (x2 : Int), .int .u64 (x3 : Int), .int .u64 (x4 : Int), .bool false, .int .u32 0, .int .i64 0, .int .i64 0, .slice none 0 0] rfl rfl 29 _ HG5.out info_dat rfl (nine_one _ _ _ _ _ _ _ _ _ _ _) ?_))
          have HBF := Lib.hid (below_setRow (g := gr) HB5.out (Nat.le_of_eq EGR.out.symm) #[.int .u16 (x1 : Int), .int .u16 (x2 : Int), .int .u64 (x3 : Int), .int .u64 (x4 : Int), .bool false, .int .u32 0, .int .i64 0, .int .i64 0, .slice none 0 0])
          refine bodyPost_ret (v := .tuple #[.agg #[.int .u16 (x1 : Int), .int .u16 (x2 : Int), .int .u64 (x3 : Int), .int .u64 (x4 : Int), .bool false, .int .u32 0, .int .i64 0, .int .i64 0, .slice none 0 0], .int .i64 2]) (ref_first_results _ gr 29 _ (0, 0) 2 rfl rfl _ (setRow_heap w5 gr _ _ _ _ HG5.out) info_dat) rfl ?_
          rw [EE.out]
          exact ⟨_, rfl, ⟨rfl, nine_one _ _ _ _ _ _ _ _ _ _ _, fun h => by cases h⟩, HBF.out⟩
        · have d3 : ¬ ((n : Int) < 27) := by omega
          have EE : Hid (E = 0) := Lib.hid (by rw [HE0.out, if_neg h3])
          have H27 : Hid (27 ≤ n) := Lib.hid (by omega)
          have f4 : w5.frozen? ⟨g4, 4, none⟩ = false := heap_free HH5.out 4
          have c4 : w5.cell? ⟨g4, 4, none⟩ = some (.bool false) := (heap_cell HH5.out 4).trans rfl
          clear h3
          obtain ⟨w6, ew⟩ : ∃ w', w' = w5.setCell ⟨g4, 4, none⟩ (.bool true) := ⟨_, rfl⟩
          have hk : Keeps (fun j => j = g4) w5 w6 := by rw [ew]; exact Keeps.set (fun j => j = g4) w5 ⟨g4, 4, none⟩ _ rfl
          have HH6 : Hid (w6.heap[g4]? = some (.cells #[.int .u16 (x1 : Int), .int .u16 (x2 : Int), .int .u64 (x3 : Int), .int .u64 (x4 : Int), .bool true, .int .u32 0, .int .i64 0, .int .i64 0, .slice none 0 0] 29 (0, 0))) := Lib.hid (by rw [ew]; exact (heap_set HH5.out 4 _).trans rfl)
          have HG6 := Lib.hid ((hk.block gr (heap_lt HG5.out) (by have := HQ.out; omega)).trans HG5.out)
          have HB6 := Lib.hid (keepsP_b HB5.out hk HQ.out.2.1 (Nat.le_refl _))
          have HK6 := Lib.hid (keepsP_b HK5.out hk HQ.out.2.2 (Nat.le_refl _))
          have EW6 := Lib.hid ew
          clear ew hk
          go_upto_region 13 with (fail)
          rw [← EW6.out]
          clear f4 c4 c20
          obtain ⟨l6, el⟩ : ∃ l, (bs.drop 21).take (25 - 21) = l := ⟨_, rfl⟩
          obtain ⟨x6, ex⟩ : ∃ x, beN l6 = x := ⟨_, rfl⟩
          have HL6 : Hid (l6.length = 4) := Lib.hid (by rw [← el]; exact cut_len (by have := HN.out; have := H27.out; omega))
          have HEL6 := Lib.hid el
          have HX6 := Lib.hid ex
          have hw6 : IntKind.u32.wrap (x6 : Int) = (x6 : Int) := u32_u64w (by rw [← ex]; have := beN_lt l6; rw [HL6.out] at this; exact this)
          clear el ex
          obtain ⟨y25, e25⟩ : ∃ y, bAt bs 25 = y := ⟨_, rfl⟩
          obtain ⟨y26, e26⟩ : ∃ y, bAt bs 26 = y := ⟨_, rfl⟩
          have hh25 : 25 < bs.length := by have := HN.out; have := H27.out; omega
          have hh26 : 26 < bs.length := by have := HN.out; have := H27.out; omega
          have c25 : w6.cell? ⟨bx, off + 25, none⟩ = some (.int .u8 (y25 : Int)) := by
            rw [HK6.out.cell (p := ⟨bx, _, none⟩) HBX.out, HCELL.out 25 hh25, ← e25, bAt_get hh25]; rfl
          have c26 : w6.cell? ⟨bx, off + 26, none⟩ = some (.int .u8 (y26 : Int)) := by
            rw [HK6.out.cell (p := ⟨bx, _, none⟩) HBX.out, HCELL.out 26 hh26, ← e26, bAt_get hh26]; rfl
          have hw25 : IntKind.i64.wrap (y25 : Int) = (y25 : Int) := i64w' (by rw [← e25, bAt_get hh25]; exact UInt8.toNat_lt _)
          have hw26 : IntKind.i64.wrap (y26 : Int) = (y26 : Int) := i64w' (by rw [← e26, bAt_get hh26]; exact UInt8.toNat_lt _)
          have hn27 : (27 : Int) ≤ (n : Int) := by have := H27.out; omega
          have HBX6 : Hid (bx < w6.heap.size) := Lib.hid (Nat.lt_of_lt_of_le HBX.out HK6.out.size)
          obtain ⟨n9, en9⟩ : ∃ k, n - 27 = k := ⟨_, rfl⟩
          obtain ⟨l9, el9⟩ : ∃ l, bs.drop 27 = l := ⟨_, rfl⟩
          have HL9 : Hid (l9.length = n9) := Lib.hid (by rw [← el9, ← en9, List.length_drop, HN.out])
          have HN9 := Lib.hid en9
          have HEL9 := Lib.hid el9
          have H25 := Lib.hid e25
          have H26 := Lib.hid e26
          have HR6 := Lib.hid (HR1.out.below HK6.out)
          clear e25 e26 hh25 hh26 en9 el9
          refine wp_region_rt 61 17 [Rl.eq (.slice (some ⟨bx, off, none⟩) n c), Rl.rdq 4 l6, Rl.eq (.int .u64 (x6 : Int)), Rl.eq (.int .u32 (x6 : Int)), Rl.eq (.slice (some ⟨bx, off, none⟩) n c), Rl.eq (.pointer (some ⟨bx, off + 25, none⟩)), Rl.eq (.int .u8 (y25 : Int)), Rl.eq (.int .i64 (y25 : Int)), Rl.eq (.slice (some ⟨bx, off, none⟩) n c), Rl.eq (.pointer (some ⟨bx, off + 26, none⟩)), Rl.eq (.int .u8 (y26 : Int)), Rl.eq (.int .i64 (y26 : Int)), Rl.eq (.slice (some ⟨bx, off, none⟩) n c), Rl.rdq n9 l9, ⟨fun w v => ∃ A c, v = .slice A n9 c ∧ l9.length = n9 ∧ Rd w A (l9.map bv) ∧ n9 ≤ c ∧ c ≤ maxLen ∧ ∀ a, A = some a → w6.heap.size ≤ a.block, fun ⟨A, c, h, hn, r, q1, q2, q3⟩ hb => ⟨A, c, h, hn, r.below hb, q1, q2, q3⟩⟩, ⟨fun w v => ∃ A c, v = .agg #[.int .u32 (x6 : Int), .int .i64 (y25 : Int), .int .i64 (y26 : Int), .slice A n9 c] ∧ l9.length = n9 ∧ Rd w A (l9.map bv) ∧ n9 ≤ c ∧ c ≤ maxLen ∧ ∀ a, A = some a → w6.heap.size ≤ a.block, fun ⟨A, c, h, hn, r, q1, q2, q3⟩ hb => ⟨A, c, h, hn, r.below hb, q1, q2, q3⟩⟩, Rl.eq (.pointer (some ⟨g4, 5, none⟩))] [43, 44, 45, 46, 47, 48, 49, 50, 51, 52, 53, 54, 55, 56, 57, 58, 59] (by kernel_rfl) rfl (by kernel_rfl) (by kernel_rfl) (by decide) (by kernel_rfl) (by kernel_rfl) ?_ ?_
          · simp only [List.take_succ_cons, List.take_zero]
            repeat (first | exact AllFrom.nil_ | (refine AllFrom.cons_ (by rfl) ?_ ?_; rotate_left))
            · intro f w' g hF hD
              have h0 : f 0 = .slice (some ⟨bx, off, none⟩) n c := hF 0 (by kernel_rfl)
              rw [if_pos (wanted_none rfl)]
              clear hF hD
              exact gives_val (by simp only [execOp, evF, h0]; first | rfl | go_simp) ⟨Gr.refl _, rfl⟩
            · intro f w' g hF hD
              have h43 : f 43 = (.slice (some ⟨bx, off, none⟩) n c) := hD 0 43 (by kernel_rfl) rfl
              rw [if_pos (wanted_none rfl)]
              clear hF hD
              have kg : Below w6.heap.size w6 w' := (below_drewN (Below.refl _ _) 1).trans g
              refine gives_cut (.tmp 43) (.const (.int .i64 21)) (.const (.int .i64 25)) rfl (some ⟨bx, off, none⟩) n c (by simp only [evF, h43]) 21 25 rfl rfl 21 25 rfl rfl (by decide) (by have := H27.out; omega) HC.out bs HN.out (HR6.out.below kg) ?_
              intro A9 c9 hr9 _ _
              rw [HEL6.out] at hr9
              exact ⟨Gr.refl _, A9, c9, rfl, HL6.out, hr9⟩
            · intro f w' g hF hD
              have q44 := hD 1 44 (by kernel_rfl) rfl
              rw [if_pos (wanted_none rfl)]
              clear hF hD
              obtain ⟨X, cX, hX, hlX, rX⟩ := q44
              refine gives_func rfl Try.func53 (by kernel_rfl) rfl (by simp only [List.map_toArray, List.map_cons, List.map_nil, evF, hX]) ((refNumber_c l6 X 4 cX w' hlX rX (by decide)).mono ?_)
              rintro e w'' ⟨rfl, rfl⟩
              rw [HX6.out]
              exact ⟨_, rfl, Gr.refl _, rfl⟩
            · intro f w' g hF hD
              have h45 : f 45 = (.int .u64 (x6 : Int)) := hD 2 45 (by kernel_rfl) rfl
              rw [if_pos (wanted_none rfl)]
              clear hF hD
              exact gives_val (by simp only [execOp, evF, h45]; first | rfl | go_simp) ⟨Gr.refl _, rfl⟩
            · intro f w' g hF hD
              have h0 : f 0 = .slice (some ⟨bx, off, none⟩) n c := hF 0 (by kernel_rfl)
              rw [if_pos (wanted_none rfl)]
              clear hF hD
              exact gives_val (by simp only [execOp, evF, h0]; first | rfl | go_simp) ⟨Gr.refl _, rfl⟩
            · intro f w' g hF hD
              have h47 : f 47 = (.slice (some ⟨bx, off, none⟩) n c) := hD 4 47 (by kernel_rfl) rfl
              rw [if_pos (wanted_none rfl)]
              clear hF hD
              exact gives_val (by simp only [execOp, evF, h47]; go_simp; intro hh; exact absurd hh (by have := H27.out; omega)) ⟨Gr.refl _, rfl⟩
            · intro f w' g hF hD
              have h48 : f 48 = (.pointer (some ⟨bx, off + 25, none⟩)) := hD 5 48 (by kernel_rfl) rfl
              rw [if_pos (wanted_none rfl)]
              clear hF hD
              have cl : w'.cell? ⟨bx, off + 25, none⟩ = some (.int .u8 (y25 : Int)) := (g.cell (p := ⟨bx, _, none⟩) HBX6.out).trans c25
              exact gives_val (by simp only [execOp, evF, h48]; go_simp) ⟨Gr.refl _, rfl⟩
            · intro f w' g hF hD
              have h49 : f 49 = (.int .u8 (y25 : Int)) := hD 6 49 (by kernel_rfl) rfl
              rw [if_pos (wanted_none rfl)]
              clear hF hD
              exact gives_val (by simp only [execOp, evF, h49]; first | rfl | go_simp) ⟨Gr.refl _, rfl⟩
            · intro f w' g hF hD
              have h0 : f 0 = .slice (some ⟨bx, off, none⟩) n c := hF 0 (by kernel_rfl)
              rw [if_pos (wanted_none rfl)]
              clear hF hD
              exact gives_val (by simp only [execOp, evF, h0]; first | rfl | go_simp) ⟨Gr.refl _, rfl⟩
            · intro f w' g hF hD
              have h51 : f 51 = (.slice (some ⟨bx, off, none⟩) n c) := hD 8 51 (by kernel_rfl) rfl
              rw [if_pos (wanted_none rfl)]
              clear hF hD
              exact gives_val (by simp only [execOp, evF, h51]; go_simp; intro hh; exact absurd hh (by have := H27.out; omega)) ⟨Gr.refl _, rfl⟩
            · intro f w' g hF hD
              have h52 : f 52 = (.pointer (some ⟨bx, off + 26, none⟩)) := hD 9 52 (by kernel_rfl) rfl
              rw [if_pos (wanted_none rfl)]
              clear hF hD
              have cl : w'.cell? ⟨bx, off + 26, none⟩ = some (.int .u8 (y26 : Int)) := (g.cell (p := ⟨bx, _, none⟩) HBX6.out).trans c26
              exact gives_val (by simp only [execOp, evF, h52]; go_simp) ⟨Gr.refl _, rfl⟩
            · intro f w' g hF hD
              have h53 : f 53 = (.int .u8 (y26 : Int)) := hD 10 53 (by kernel_rfl) rfl
              rw [if_pos (wanted_none rfl)]
              clear hF hD
              exact gives_val (by simp only [execOp, evF, h53]; first | rfl | go_simp) ⟨Gr.refl _, rfl⟩
            · intro f w' g hF hD
              have h0 : f 0 = .slice (some ⟨bx, off, none⟩) n c := hF 0 (by kernel_rfl)
              rw [if_pos (wanted_none rfl)]
              clear hF hD
              exact gives_val (by simp only [execOp, evF, h0]; first | rfl | go_simp) ⟨Gr.refl _, rfl⟩
            · intro f w' g hF hD
              have h55 : f 55 = (.slice (some ⟨bx, off, none⟩) n c) := hD 12 55 (by kernel_rfl) rfl
              rw [if_pos (wanted_none rfl)]
              clear hF hD
              have kg : Below w6.heap.size w6 w' := (below_drewN (Below.refl _ _) 1).trans g
              refine gives_cutFrom (.tmp 55) (.const (.int .i64 27)) rfl (some ⟨bx, off, none⟩) n c (by simp only [evF, h55]) 27 rfl 27 rfl H27.out HC.out bs HN.out (HR6.out.below kg) ?_
              intro A9 c9 hr9 _ _
              rw [HEL9.out] at hr9
              rw [HN9.out]
              exact ⟨Gr.refl _, A9, c9, rfl, HL9.out, hr9⟩
            · intro f w' g hF hD
              have q56 := hD 13 56 (by kernel_rfl) rfl
              rw [if_pos (wanted_none rfl)]
              clear hF hD
              obtain ⟨X, cX, hX, hlX, rX⟩ := q56
              refine gives_func rfl Try.func10 (by kernel_rfl) rfl (by simp only [List.map_toArray, List.map_cons, List.map_nil, evF, hX]) ((Copy_c X n9 cX l9 w' hlX rX (by have := HN9.out; have := HLN.out; omega)).mono ?_)
              rintro e w'' ⟨v, rfl, ho, hb⟩
              obtain ⟨A9, c9, rfl, q1, q2, q3, q4⟩ := OwnB.form ho
              exact ⟨.slice A9 n9 c9, by rw [hlX], hb, A9, c9, rfl, hlX, q3, hlX ▸ q1, q2, fun a e => Nat.le_trans ((below_drewN (Below.refl w6.heap.size w6) 1).trans g).size (q4 a e).1⟩
            · intro f w' g hF hD
              have h46 : f 46 = (.int .u32 (x6 : Int)) := hD 3 46 (by kernel_rfl) rfl
              have h50 : f 50 = (.int .i64 (y25 : Int)) := hD 7 50 (by kernel_rfl) rfl
              have h54 : f 54 = (.int .i64 (y26 : Int)) := hD 11 54 (by kernel_rfl) rfl
              have q57 := hD 14 57 (by kernel_rfl) rfl
              rw [if_pos (wanted_none rfl)]
              clear hF hD
              obtain ⟨X, cX, hX, hlX, rX, q1, q2, q3⟩ := q57
              exact gives_build 27 _ rfl #[.int .u32 (x6 : Int), .int .i64 (y25 : Int), .int .i64 (y26 : Int), .slice X n9 cX] (by simp only [List.map_toArray, List.map_cons, List.map_nil, evF, h46, h50, h54, hX]; kernel_rfl) ⟨Gr.refl _, X, cX, rfl, hlX, rX, q1, q2, q3⟩
            · intro f w' g hF hD
              have h4 : f 4 = .pointer (some ⟨g4, 0, none⟩) := hF 4 (by kernel_rfl)
              rw [if_pos (wanted_none rfl)]
              clear hF hD
              exact gives_val (by simp only [execOp, evF, h4]; first | rfl | go_simp) ⟨Gr.refl _, rfl⟩
          intro f' w7 g hD
          obtain ⟨A9, c9, h58, hl9, hr9, hc9, hm9, hf9⟩ : ∃ A c, f' 58 = .agg #[.int .u32 (x6 : Int), .int .i64 (y25 : Int), .int .i64 (y26 : Int), .slice A n9 c] ∧ l9.length = n9 ∧ Rd w7 A (l9.map bv) ∧ n9 ≤ c ∧ c ≤ maxLen ∧ ∀ a, A = some a → w6.heap.size ≤ a.block := hD 15 58 (by decide) rfl
          have h59 : f' 59 = .pointer (some ⟨g4, 5, none⟩) := hD 16 59 (by decide) rfl
          simp only [List.drop_succ_cons, List.drop_zero, putAll, List.setIfInBounds_toArray, List.set_cons_zero, List.set_cons_succ, h58, h59]
          have kg : Below w6.heap.size w6 w7 := (below_drewN (Below.refl _ _) 1).trans g
          have hh7 := (kg.block g4 (heap_lt HH6.out)).trans HH6.out
          have HG7 := Lib.hid ((kg.block gr (heap_lt HG6.out)).trans HG6.out)
          have HB7 := Lib.hid (HB6.out.trans (kg.mono HB6.out.size))
          obtain ⟨w8, ew⟩ : ∃ w', w' = (((w7.setCell ⟨g4, 5, none⟩ (.int .u32 (x6 : Int))).setCell ⟨g4, 6, none⟩ (.int .i64 (y25 : Int))).setCell ⟨g4, 7, none⟩ (.int .i64 (y26 : Int))).setCell ⟨g4, 8, none⟩ (.slice A9 n9 c9) := ⟨_, rfl⟩
          have hk : Keeps (fun j => j = g4) w7 w8 := by
            rw [ew]
            exact (((Keeps.set (fun j => j = g4) w7 ⟨g4, 5, none⟩ _ rfl).trans (Keeps.set (fun j => j = g4) _ ⟨g4, 6, none⟩ _ rfl)).trans (Keeps.set (fun j => j = g4) _ ⟨g4, 7, none⟩ _ rfl)).trans (Keeps.set (fun j => j = g4) _ ⟨g4, 8, none⟩ _ rfl)
          have hh8 : w8.heap[g4]? = some (.cells #[.int .u16 (x1 : Int), .int .u16 (x2 : Int), .int .u64 (x3 : Int), .int .u64 (x4 : Int), .bool true, .int .u32 (x6 : Int), .int .i64 (y25 : Int), .int .i64 (y26 : Int), .slice A9 n9 c9] 29 (0, 0)) := by
            rw [ew]
            have h1 := heap_set hh7 5 (.int .u32 (x6 : Int))
            simp only [List.setIfInBounds_toArray, List.set_cons_zero, List.set_cons_succ] at h1
            have h2 := heap_set h1 6 (.int .i64 (y25 : Int))
            simp only [List.setIfInBounds_toArray, List.set_cons_zero, List.set_cons_succ] at h2
            have h3 := heap_set h2 7 (.int .i64 (y26 : Int))
            simp only [List.setIfInBounds_toArray, List.set_cons_zero, List.set_cons_succ] at h3
            have h4 := heap_set h3 8 (.slice A9 n9 c9)
            simp only [List.setIfInBounds_toArray, List.set_cons_zero, List.set_cons_succ] at h4
            exact h4
          have f5 : w7.frozen? ⟨g4, 5, none⟩ = false := heap_free hh7 5
          have f6 : w7.frozen? ⟨g4, 6, none⟩ = false := heap_free hh7 6
          have f7 : w7.frozen? ⟨g4, 7, none⟩ = false := heap_free hh7 7
          have f8 : w7.frozen? ⟨g4, 8, none⟩ = false := heap_free hh7 8
          have c5 : w7.cell? ⟨g4, 5, none⟩ = some (.int .u32 0) := (heap_cell hh7 5).trans rfl
          have c6 : w7.cell? ⟨g4, 6, none⟩ = some (.int .i64 0) := (heap_cell hh7 6).trans rfl
          have c7 : w7.cell? ⟨g4, 7, none⟩ = some (.int .i64 0) := (heap_cell hh7 7).trans rfl
          have c8 : w7.cell? ⟨g4, 8, none⟩ = some (.slice none 0 0) := (heap_cell hh7 8).trans rfl
          have HG8 := Lib.hid ((hk.block gr (heap_lt HG7.out) (by have := HQ.out; omega)).trans HG7.out)
          have HB8 := Lib.hid (keepsP_b HB7.out hk HQ.out.2.1 (Nat.le_refl _))
          have HK8 := Lib.hid hk
          have HH8 := Lib.hid hh8
          have HR9 : Hid (Rd (w8.setRow gr #[.int .u16 (x1 : Int), .int .u16 (x2 : Int), .int .u64 (x3 : Int), .int .u64 (x4 : Int), .bool true, .int .u32 (x6 : Int), .int .i64 (y25 : Int), .int .i64 (y26 : Int), .slice A9 n9 c9]) A9 (l9.map bv)) := Lib.hid (by
            have z1 := heap_lt HH6.out; have z2 := heap_lt HG6.out
            exact hr9.of_blocks (fun b hb ⟨off, e⟩ => by
              have h6 : w6.heap.size ≤ b := hf9 _ e
              exact (setRow_other w8 gr b #[.int .u16 (x1 : Int), .int .u16 (x2 : Int), .int .u64 (x3 : Int), .int .u64 (x4 : Int), .bool true, .int .u32 (x6 : Int), .int .i64 (y25 : Int), .int .i64 (y26 : Int), .slice A9 n9 c9] (by omega)).trans (hk.block b hb (by omega))) (by rw [show (w8.setRow gr #[.int .u16 (x1 : Int), .int .u16 (x2 : Int), .int .u64 (x3 : Int), .int .u64 (x4 : Int), .bool true, .int .u32 (x6 : Int), .int .i64 (y25 : Int), .int .i64 (y26 : Int), .slice A9 n9 c9]).heap.size = w8.heap.size from by simp [World.setRow]]; exact hk.size))
          have HC9 := Lib.hid (And.intro hc9 hm9)
          have HF9 := Lib.hid hf9
          have EW8 := Lib.hid ew
          clear h58 h59 hl9 hr9 hc9 hm9 hf9 g hD kg hh7 hk hh8 ew c25 c26 hw6 hw25 hw26
          go_upto_region 14 with (fail)
          rw [← EW8.out]
          clear f5 f6 f7 f8 c5 c6 c7 c8
          go_wp2_with (first
            | (refine wpList_load_row rfl 29 (.tmp 4) rfl g4 rfl 29 #[.int .u16 (x1 : Int), .int .u16 (x2 : Int), .int .u64 (x3 : Int), .int .u64 (x4 : Int), .bool true, .int .u32 (x6 : Int), .int .i64 (y25 : Int), .int .i64 (y26 : Int), .slice A9 n9 c9] (0, 0) _ HH8.out Try.underlying29 rfl info_dat ?_)
            | (refine wpList_store_row rfl 29 (.tmp 2) (.tmp 60) rfl gr #[.int .u16 (x1 : Int), .int .u16 (x2 : Int), .int .u64 (x3 : Int), .int .u64 (x4 : Int), .bool true, .int .u32 (x6 : Int), .int .i64 (y25 : Int), .int .i64 (y26 : Int), .slice A9 n9 c9] rfl rfl 29 _ HG8.out info_dat rfl (nine_one _ _ _ _ _ _ _ _ _ _ _) ?_))
          have HBF := Lib.hid (below_setRow (g := gr) HB8.out (Nat.le_of_eq EGR.out.symm) #[.int .u16 (x1 : Int), .int .u16 (x2 : Int), .int .u64 (x3 : Int), .int .u64 (x4 : Int), .bool true, .int .u32 (x6 : Int), .int .i64 (y25 : Int), .int .i64 (y26 : Int), .slice A9 n9 c9])
          refine bodyPost_ret (v := .tuple #[.agg #[.int .u16 (x1 : Int), .int .u16 (x2 : Int), .int .u64 (x3 : Int), .int .u64 (x4 : Int), .bool true, .int .u32 (x6 : Int), .int .i64 (y25 : Int), .int .i64 (y26 : Int), .slice A9 n9 c9], .int .i64 0]) (ref_first_results _ gr 29 _ (0, 0) 0 rfl rfl _ (setRow_heap w8 gr _ _ _ _ HG8.out) info_dat) rfl ?_
          rw [EE.out]
          refine ⟨_, rfl, ⟨rfl, nine_one _ _ _ _ _ _ _ _ _ _ _, fun _ => ⟨A9, n9, c9, ?_, ?_⟩⟩, HBF.out⟩
          · rw [ED.out, ← HFST.out, H25.out, H26.out, show beN ((bs.drop 21).take 4) = x6 from by rw [← HX6.out, ← HEL6.out]]; rfl
          · have eb : D.p.bs = l9 := by rw [ED.out]; exact HEL9.out
            rw [eb]
            exact ⟨HL9.out, HR9.out, HC9.out.1, HC9.out.2, fun _ a e => Nat.le_trans HB6.out.size (HF9.out a e), by have := HN9.out; have := HLN.out; omega⟩
end Go.Proofs.Ytcffinkkfdfcaaa
