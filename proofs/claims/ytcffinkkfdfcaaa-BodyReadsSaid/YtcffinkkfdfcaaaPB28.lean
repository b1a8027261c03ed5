/- Parts one behind the other: What a part's items say, by the reference: part. Conditions: as told at each. -/
import Derived.Test.YtcffinkkfdfcaaaPB21
import Derived.Test.YtcffinkkfdfcaaaPB27
import Derived.Test.YtcffinkkfdfcaaaPB16
import Derived.Test.YtcffinkkfdfcaaaPB20

set_option linter.unusedVariables false
set_option linter.unusedSimpArgs false
/- What a part's items say, by the reference: part. Conditions: items that can be read. -/
namespace Go.Proofs.Ytcffinkkfdfcaaa
open Go Go.RowKit

theorem part_results (tmps : Array Value) (g : Nat) (t : TypeId) (cs : Array Value) (fr : Nat × Nat) (y : Int) (h2 : tmps.getD 4 undef = .pointer (some ⟨g, 0, none⟩)) (h3 : tmps.getD 5 undef = .int .i64 y) (w : World) (hg : w.heap[g]? = some (.cells cs t fr)) (hi : (Try.prog.info? 29).map (·.size) = some cs.size) :
    (results Try.f82 tmps).run Try.prog w = .ok (.tuple #[.agg cs, .int .i64 y]) w := by
  have h2' : tmps[4]?.getD undef = .pointer (some ⟨g, 0, none⟩) := by simpa using h2
  have h3' : tmps[5]?.getD undef = .int .i64 y := by simpa using h3
  simp [results, Try.results82, h2', h3', asAddr, run_loadVar_row w g t 29 cs fr _ hg Try.underlying29 rfl hi]
/-- The first k of three numbers. -/
def nkA (f : Fo) (k i : Nat) : Nat := if i < k then nuN (pS f i) else 0
def nkC (f : Fo) (k : Nat) : Array Value := #[.int .u64 (nkA f k 0 : Int), .int .u64 (nkA f k 1 : Int), .int .u64 (nkA f k 2 : Int)]
theorem nkC_set (f : Fo) (k : Nat) (hk : k < 3) : (nkC f k).setIfInBounds k (.int .u64 (nuN (pS f k) : Int)) = nkC f (k + 1) := by
  have : k = 0 ∨ k = 1 ∨ k = 2 := by omega
  rcases this with rfl | rfl | rfl <;> simp [nkC, nkA]
theorem nkC_size (f : Fo) (k : Nat) : (nkC f k).size = 3 := rfl
theorem box_two (w : World) (o1 o2 : Obj) : ((w.alloc o1).alloc o2).heap[w.heap.size]? = some o1 := by
  rw [Below.heap_alloc (w.alloc o1) o2 w.heap.size (by simp)]
  exact heap_alloc_new w o1
/-- What part answers. -/
def PtR (ok : Nat → Prop) (w : World) (cs : Array Value) (e : Nat) (d : DataD) : Prop := cs.size = 9 ∧ cs.all (·.oneCell') = true ∧ (e = 0 → ∃ A n c, cs = datC d A n c ∧ TxtR ok w A n c d.p.bs)
set_option maxRecDepth 100000 in
set_option maxHeartbeats 8000000 in
theorem refPart_c (st ec ak th : Nat) (has : Bool) (id0 : Nat) (ix0 ct0 : Int) (A0 : Option Addr) (n0 c0 : Nat) (f : Fo) (ok : Nat → Prop) (A : Option Addr) (n c : Nat) (w : World) (hn : f.len = n) (h1 : FoR ok w A 0 f) (hs : f.size ≤ 100000) :
    Calls Try.prog 82 #[.agg #[.int .u16 (st : Int), .int .u16 (ec : Int), .int .u64 (ak : Int), .int .u64 (th : Int), .bool has, .int .u32 (id0 : Int), .int .i64 ix0, .int .i64 ct0, .slice A0 n0 c0], .slice A n c] w fun r w' => ∃ cs, r = .returned (.tuple #[.agg cs, .int .i64 ((ptP5 f 0).err : Int)]) ∧ PtR (fun j => ok j ∨ w.heap.size ≤ j) w' cs (ptP5 f 0).err ⟨st, ec, ak, th, true, ptD f 0⟩ ∧ Below w.heap.size w w' := by
  have HN := Lib.hid hn
  have HS := Lib.hid hs
  obtain ⟨w2, ew2⟩ : ∃ w2, w2 = (w.alloc (.cells #[.int .u16 (st : Int), .int .u16 (ec : Int), .int .u64 (ak : Int), .int .u64 (th : Int), .bool has, .int .u32 (id0 : Int), .int .i64 ix0, .int .i64 ct0, .slice A0 n0 c0] 29)).alloc (.cells #[.int .u16 0, .int .u16 0, .int .u64 0, .int .u64 0, .bool false, .int .u32 0, .int .i64 0, .int .i64 0, .slice none 0 0] 29) := ⟨_, rfl⟩
  obtain ⟨g2, eg2⟩ : ∃ g2, g2 = w.heap.size := ⟨_, rfl⟩
  obtain ⟨gr, egr⟩ : ∃ gr, gr = w.heap.size + 1 := ⟨_, rfl⟩
  have b2 : Below w.heap.size w w2 := by rw [ew2]; exact ((Below.refl _ _).alloc (Nat.le_refl _) _).alloc (by simp) _
  have HD2 : Hid (w2.heap[g2]? = some (.cells #[.int .u16 (st : Int), .int .u16 (ec : Int), .int .u64 (ak : Int), .int .u64 (th : Int), .bool has, .int .u32 (id0 : Int), .int .i64 ix0, .int .i64 ct0, .slice A0 n0 c0] 29 (0, 0))) := Lib.hid (by rw [ew2, eg2]; exact box_two w _ _)
  have HG2 : Hid (w2.heap[gr]? = some (.cells #[.int .u16 0, .int .u16 0, .int .u64 0, .int .u64 0, .bool false, .int .u32 0, .int .i64 0, .int .i64 0, .slice none 0 0] 29 (0, 0))) := Lib.hid (by rw [ew2, egr]; have := heap_alloc_new (w.alloc (.cells #[.int .u16 (st : Int), .int .u16 (ec : Int), .int .u64 (ak : Int), .int .u64 (th : Int), .bool has, .int .u32 (id0 : Int), .int .i64 ix0, .int .i64 ct0, .slice A0 n0 c0] 29)) (.cells #[.int .u16 0, .int .u16 0, .int .u64 0, .int .u64 0, .bool false, .int .u32 0, .int .i64 0, .int .i64 0, .slice none 0 0] 29); simpa using this)
  have HZ2 : Hid (w2.heap.size = w.heap.size + 2) := Lib.hid (by rw [ew2]; simp)
  have HB2 := Lib.hid b2
  have H1 : Hid (FoR (fun j => ok j ∧ j < w.heap.size) w2 A 0 f) := Lib.hid ((h1.weak (fun j hj hl => ⟨hj, hl⟩)).below b2)
  obtain ⟨w3, ew3⟩ : ∃ w3, w3 = w2.alloc (.cells #[.int .i64 1, .int .i64 2, .int .i64 3, .int .i64 4] 3) := ⟨_, rfl⟩
  obtain ⟨g3, eg3⟩ : ∃ g3, g3 = w2.heap.size := ⟨_, rfl⟩
  have b3 : Below w2.heap.size w2 w3 := by rw [ew3]; exact (Below.refl _ _).alloc (Nat.le_refl _) _
  have HZ : Hid (RdI w3 (some ⟨g3, 0, none⟩) (kindsL 4)) := Lib.hid (.inr ⟨g3, 0, rfl, by rw [ew3, eg3]; simp, fun k hk => by
    have hh : w3.heap[g3]? = some (.cells #[.int .i64 1, .int .i64 2, .int .i64 3, .int .i64 4] 3 (0, 0)) := by rw [ew3, eg3]; exact heap_alloc_new _ _
    rw [Nat.zero_add, heap_cell hh]
    have : k = 0 ∨ k = 1 ∨ k = 2 ∨ k = 3 := by rw [kindsL_len] at hk; omega
    rcases this with rfl | rfl | rfl | rfl <;> rfl⟩)
  have HD3 := Lib.hid ((b3.block g2 (heap_lt HD2.out)).trans HD2.out)
  have HG3 := Lib.hid ((b3.block gr (heap_lt HG2.out)).trans HG2.out)
  have HB3 := Lib.hid (HB2.out.trans (b3.mono HB2.out.size))
  have H3 := Lib.hid (H1.out.below b3)
  have HZ3 : Hid (w2.heap.size ≤ w3.heap.size) := Lib.hid b3.size
  have EW2 := Lib.hid ew2
  have EG2 := Lib.hid eg2
  have EGR := Lib.hid egr
  have EW3 := Lib.hid ew3
  have EG3 := Lib.hid eg3
  obtain ⟨E, eE⟩ : ∃ E, (ptP5 f 0).err = E := ⟨_, rfl⟩
  rw [eE]
  have HE := Lib.hid eE
  clear ew2 eg2 egr b2 ew3 eg3 b3 hn h1 hs eE
  go_enter Try.func82, Try.ntmps82
  go_upto_region 1 with (fail)
  rw [← EW2.out, ← EGR.out, ← EG2.out]
  go_wp2_with (fail)
  rw [← EW3.out, ← EG3.out]
  refine (refPick_k f (fun j => ok j ∧ j < w.heap.size) A n c (some ⟨g3, 0, none⟩) 4 4 (kindsL 4) w3 HN.out H3.out (by have := Fo.len_le f; have := HN.out; have := HS.out; omega) (kindsL_len 4) HZ.out (by decide)).mono ?_
  rintro _ w4 ⟨v4, rfl, hm, hb⟩
  have hP : ptP1 f 0 = ⟨(pickT (kindsL 4) f).2, 0, (pickT (kindsL 4) f).1⟩ := by unfold ptP1 knS; rw [if_neg (by simp)]
  obtain ⟨e0, ee0⟩ : ∃ e, (pS f 0).err = e := ⟨_, rfl⟩
  obtain ⟨L1, eL1⟩ : ∃ L, (pS f 0).l = L := ⟨_, rfl⟩
  rw [show (pickT (kindsL 4) f).1 = e0 from by rw [← ee0]; show _ = (ptP1 f 0).err; rw [hP]]
  rw [show (pickT (kindsL 4) f).2 = L1 from by rw [← eL1]; show _ = (ptP1 f 0).l; rw [hP]] at hm
  have HSL : Hid (L1.size ≤ 100000) := Lib.hid (by rw [← eL1]; show (ptP1 f 0).l.size ≤ _; rw [hP]; exact Nat.le_trans (pickT_size _ _) HS.out)
  obtain ⟨Al, cl, rfl, -, -, hfo⟩ := hm.form (n := L1.len) rfl
  have HL4 : Hid (FoR (fun j => (ok j ∧ j < w.heap.size) ∨ w2.heap.size ≤ j) w4 Al 0 L1) := Lib.hid (hfo.weak (fun j hj _ => by
    have hj' : (ok j ∧ j < w.heap.size) ∨ w3.heap.size ≤ j := hj
    rcases hj' with q | q
    · exact .inl q
    · exact .inr (Nat.le_trans HZ3.out q)))
  have HD4 := Lib.hid ((hb.block g2 (heap_lt HD3.out)).trans HD3.out)
  have HG4 := Lib.hid ((hb.block gr (heap_lt HG3.out)).trans HG3.out)
  have HB4 := Lib.hid (HB3.out.trans (hb.mono HB3.out.size))
  have HE0 := Lib.hid ee0
  have HL1 := Lib.hid eL1
  obtain ⟨nl, enl⟩ : ∃ k, L1.len = k := ⟨_, rfl⟩
  rw [enl]
  have HNL := Lib.hid enl
  clear hm hb hP ee0 eL1 hfo enl H3 HD3 HG3 HB3 HZ EW3 EG3 HD2 HG2 HB2 EW2
  by_cases h0 : e0 = 0
  · have d0 : ((e0 : Int) != 0) = false := by rw [h0]; rfl
    have H0 : Hid ((pS f 0).err = 0) := Lib.hid (HE0.out.trans h0)
    obtain ⟨w5, ew5⟩ : ∃ w5, w5 = w4.alloc (.cells #[.int .u64 0, .int .u64 0, .int .u64 0] 155) := ⟨_, rfl⟩
    obtain ⟨g7, eg7⟩ : ∃ g7, g7 = w4.heap.size := ⟨_, rfl⟩
    have HB5 : Hid (Below w4.heap.size w4 w5) := Lib.hid (by rw [ew5]; exact (Below.refl _ _).alloc (Nat.le_refl _) _)
    have HH5 : Hid (w5.heap[g7]? = some (.cells (nkC f 0) 155 (0, 0))) := Lib.hid (by rw [ew5, eg7]; exact heap_alloc_new _ _)
    have EW5 := Lib.hid ew5
    have EG7 := Lib.hid eg7
    clear h0 ew5 eg7
    go_upto_region 5 with (fail)
    rw [← EW5.out, ← EG7.out]
    go_wp2_with (fail)
    go_loopw [8] (fun k wr => ∃ (q : Nat), k = .int .i64 q ∧ q ≤ 3 ∧ Hid ((pS f q).err = 0) ∧ Hid (wr.heap[g7]? = some (.cells (nkC f q) 155 (0, 0))) ∧ Hid (Below w4.heap.size w4 wr)) (fun k _ => 3 - (intOf k).toNat)
    case atStart => exact ⟨0, rfl, by omega, H0, HH5, HB5⟩
    case round =>
      obtain ⟨q, rfl, hq, HQ, HH, HB⟩ := hrel
      have HD := Lib.hid ((HB.out.block g2 (heap_lt HD4.out)).trans HD4.out)
      have HG := Lib.hid ((HB.out.block gr (heap_lt HG4.out)).trans HG4.out)
      have HBW := Lib.hid (HB4.out.trans (HB.out.mono HB4.out.size))
      have HL := Lib.hid (HL4.out.below HB.out)
      by_cases hlt : q < 3
      · have hlt' : (q : Int) < 3 := by omega
        obtain ⟨B, eB⟩ : ∃ B, nxB (pS f q) = B := ⟨_, rfl⟩
        obtain ⟨I, eI⟩ : ∃ I, nxI (pS f q) = I := ⟨_, rfl⟩
        have HBq := Lib.hid eB
        have HIq := Lib.hid eI
        have eb2 : hasI ((q : Int) + 1) L1 = B := by rw [← eB, nxB_0 HQ.out, pS_at, pS_l, HL1.out]; rfl
        have ei2 : getI ((q : Int) + 1) L1 = I := by rw [← eI, nxI_0 HQ.out, pS_at, pS_l, HL1.out]; rfl
        have HB2 := Lib.hid eb2
        have HI2 := Lib.hid ei2
        clear eB eI eb2 ei2
        go_wp2_with (fail)
        refine (refGet_k L1 _ Al nl cl ((q : Int) + 1) wr HNL.out HL.out (by have := Fo.len_le L1; have := HNL.out; have := HSL.out; omega)).mono ?_
        rintro _ w6 ⟨⟨dk, dc, dl, dA, dn, dcc, dAs, dns, dcs⟩, rfl, hi, hb⟩
        unfold ItV.val
        dsimp only
        rw [HB2.out]
        rw [HI2.out] at hi
        obtain ⟨hli, ht, -, -, -, -, -⟩ := hi.parts
        dsimp only at hli ht
        obtain ⟨w7, ew7⟩ : ∃ w7, w7 = w6.alloc (.cells #[.int .i64 dk, .bool dc, .bool dl, .slice dA dn dcc, .slice dAs dns dcs] 76) := ⟨_, rfl⟩
        obtain ⟨g9, eg9⟩ : ∃ g, g = w6.heap.size := ⟨_, rfl⟩
        have b7 : Below w6.heap.size w6 w7 := by rw [ew7]; exact (Below.refl _ _).alloc (Nat.le_refl _) _
        have b67 : Below wr.heap.size wr w7 := hb.trans (b7.mono hb.size)
        have HX7 : Hid (w7.heap[g9]? = some (.cells (ItV.cells ⟨dk, dc, dl, dA, dn, dcc, dAs, dns, dcs⟩).toArray 76 (0, 0))) := Lib.hid (by rw [ew7, eg9]; exact heap_alloc_new _ _)
        have HT7 := Lib.hid (ht.frame (w' := w7) (fun j _ hj => b7.block j hj) b7.size)
        have HH7 := Lib.hid ((b67.block g7 (heap_lt HH.out)).trans HH.out)
        have HB7 := Lib.hid (HB.out.trans (b67.mono HB.out.size))
        have HD7 := Lib.hid ((b67.block g2 (heap_lt HD.out)).trans HD.out)
        have HG7 := Lib.hid ((b67.block gr (heap_lt HG.out)).trans HG.out)
        have HBW7 := Lib.hid (HBW.out.trans (b67.mono HBW.out.size))
        have HG79 : Hid (g7 < g9) := Lib.hid (by rw [eg9]; exact Nat.lt_of_lt_of_le (heap_lt HH.out) hb.size)
        have EW7 := Lib.hid ew7
        have EG9 := Lib.hid eg9
        have HLI := Lib.hid hli
        clear hi hb hli ht ew7 eg9 b7 b67 HH HD HG HBW HL
        cases B with
        | false =>
          have EE : Hid (E = 12 ∧ E ≠ 0) := Lib.hid (by
            have h12 : (pS f (q + 1)).err = 12 := nuS_none HQ.out HBq.out
            rw [← HE.out, pS_end (k := q + 1) (by omega) (by rw [h12]; decide), h12]
            exact ⟨rfl, by decide⟩)
          go_upto_region 10 with (fail)
          rw [← EW7.out]
          go_wp2_with (first
            | (refine wpList_load_row rfl 29 (.tmp 2) rfl g2 rfl 29 #[.int .u16 (st : Int), .int .u16 (ec : Int), .int .u64 (ak : Int), .int .u64 (th : Int), .bool has, .int .u32 (id0 : Int), .int .i64 ix0, .int .i64 ct0, .slice A0 n0 c0] (0, 0) _ HD7.out Try.underlying29 rfl info_dat ?_)
            | (refine wpList_store_row rfl 29 (.tmp 4) (.tmp 40) rfl gr #[.int .u16 (st : Int), .int .u16 (ec : Int), .int .u64 (ak : Int), .int .u64 (th : Int), .bool has, .int .u32 (id0 : Int), .int .i64 ix0, .int .i64 ct0, .slice A0 n0 c0] rfl rfl 29 _ HG7.out info_dat rfl (nine_one _ _ _ _ _ _ _ _ _ _ _) ?_))
          have HBF := Lib.hid (below_setRow (g := gr) HBW7.out (by have := EGR.out; omega) #[.int .u16 (st : Int), .int .u16 (ec : Int), .int .u64 (ak : Int), .int .u64 (th : Int), .bool has, .int .u32 (id0 : Int), .int .i64 ix0, .int .i64 ct0, .slice A0 n0 c0])
          refine bodyPost_ret (v := .tuple #[.agg #[.int .u16 (st : Int), .int .u16 (ec : Int), .int .u64 (ak : Int), .int .u64 (th : Int), .bool has, .int .u32 (id0 : Int), .int .i64 ix0, .int .i64 ct0, .slice A0 n0 c0], .int .i64 12]) (part_results _ gr 29 _ (0, 0) 12 rfl rfl _ (setRow_heap w7 gr _ _ _ _ HG7.out) info_dat) rfl ?_
          rw [EE.out.1]
          exact ⟨_, rfl, ⟨rfl, nine_one _ _ _ _ _ _ _ _ _ _ _, fun h => absurd (EE.out.1.trans h) EE.out.2⟩, HBF.out⟩
        | true =>
          go_upto_region 11 with (fail)
          rw [← EW7.out, ← EG9.out]
          obtain ⟨⟨x0, x1, x2, x3, x4⟩, -⟩ := five_of HX7.out
          dsimp only at x0 x1 x2 x3 x4
          go_wp2_with (fail)
          clear x0 x1 x2 x3 x4
          refine (whole_c dk dc dl dA dn dcc dAs dns dcs I w7 HLI.out HT7.out.1 HT7.out.2.1 HT7.out.2.2.1 HT7.out.2.2.2.1 HT7.out.2.2.2.2.2).mono ?_
          rintro _ w8 ⟨rfl, hb⟩
          obtain ⟨V, eV⟩ : ∃ V, whN I = V := ⟨_, rfl⟩
          obtain ⟨R, eR⟩ : ∃ V, whB I = V := ⟨_, rfl⟩
          rw [eV, eR]
          have HV : Hid (nuN (pS f q) = V) := Lib.hid (by rw [nuN_some HBq.out, HIq.out, eV])
          have HR := Lib.hid eR
          have hh8 := (hb.block g7 (heap_lt HH7.out)).trans HH7.out
          have HD8 := Lib.hid ((hb.block g2 (heap_lt HD7.out)).trans HD7.out)
          have HG8 := Lib.hid ((hb.block gr (heap_lt HG7.out)).trans HG7.out)
          have HBW8 := Lib.hid (HBW7.out.trans (hb.mono HBW7.out.size))
          have HB8 := Lib.hid (HB7.out.trans (hb.mono HB7.out.size))
          obtain ⟨w9, ew9⟩ : ∃ w', w' = w8.setCell ⟨g7, q, none⟩ (.int .u64 (V : Int)) := ⟨_, rfl⟩
          have hk : Keeps (fun j => j = g7) w8 w9 := by rw [ew9]; exact Keeps.set (fun j => j = g7) w8 ⟨g7, q, none⟩ _ rfl
          have HH9 : Hid (w9.heap[g7]? = some (.cells (nkC f (q + 1)) 155 (0, 0))) := Lib.hid (by rw [ew9, heap_set hh8 q, ← HV.out, nkC_set f q hlt])
          have z7 : g7 = w4.heap.size := EG7.out
          have z2 : g2 < w4.heap.size := heap_lt HD4.out
          have zr : gr < w4.heap.size := heap_lt HG4.out
          have HD9 := Lib.hid ((hk.block g2 (heap_lt HD8.out) (by omega)).trans HD8.out)
          have HG9 := Lib.hid ((hk.block gr (heap_lt HG8.out) (by omega)).trans HG8.out)
          have HBW9 := Lib.hid (keepsP_b HBW8.out hk (by have := HB4.out.size; omega) (Nat.le_refl _))
          have HB9 := Lib.hid (keepsP_b HB8.out hk (by omega) (Nat.le_refl _))
          have fz : w8.frozen? ⟨g7, q, none⟩ = false := heap_free hh8 q
          have cz : w8.cell? ⟨g7, q, none⟩ = some ((nkC f q)[q]'(by rw [nkC_size]; exact hlt)) := (heap_cell hh8 q).trans (Array.getElem?_eq_getElem _)
          have EW9 := Lib.hid ew9
          clear eV eR hb hh8 ew9 hk z7 z2 zr
          go_upto_region 14 with (fail)
          rw [← EW9.out]
          clear fz cz
          cases R with
          | false =>
            have EE : Hid (E = 3 ∧ E ≠ 0) := Lib.hid (by
              have h3 : (pS f (q + 1)).err = 3 := nuS_wrong HBq.out (by rw [HIq.out]; exact HR.out) true
              rw [← HE.out, pS_end (k := q + 1) (by omega) (by rw [h3]; decide), h3]
              exact ⟨rfl, by decide⟩)
            go_wp2_with (first
              | (refine wpList_load_row rfl 29 (.tmp 2) rfl g2 rfl 29 #[.int .u16 (st : Int), .int .u16 (ec : Int), .int .u64 (ak : Int), .int .u64 (th : Int), .bool has, .int .u32 (id0 : Int), .int .i64 ix0, .int .i64 ct0, .slice A0 n0 c0] (0, 0) _ HD9.out Try.underlying29 rfl info_dat ?_)
              | (refine wpList_store_row rfl 29 (.tmp 4) (.tmp 52) rfl gr #[.int .u16 (st : Int), .int .u16 (ec : Int), .int .u64 (ak : Int), .int .u64 (th : Int), .bool has, .int .u32 (id0 : Int), .int .i64 ix0, .int .i64 ct0, .slice A0 n0 c0] rfl rfl 29 _ HG9.out info_dat rfl (nine_one _ _ _ _ _ _ _ _ _ _ _) ?_))
            have HBF := Lib.hid (below_setRow (g := gr) HBW9.out (by have := EGR.out; omega) #[.int .u16 (st : Int), .int .u16 (ec : Int), .int .u64 (ak : Int), .int .u64 (th : Int), .bool has, .int .u32 (id0 : Int), .int .i64 ix0, .int .i64 ct0, .slice A0 n0 c0])
            refine bodyPost_ret (v := .tuple #[.agg #[.int .u16 (st : Int), .int .u16 (ec : Int), .int .u64 (ak : Int), .int .u64 (th : Int), .bool has, .int .u32 (id0 : Int), .int .i64 ix0, .int .i64 ct0, .slice A0 n0 c0], .int .i64 3]) (part_results _ gr 29 _ (0, 0) 3 rfl rfl _ (setRow_heap w9 gr _ _ _ _ HG9.out) info_dat) rfl ?_
            rw [EE.out.1]
            exact ⟨_, rfl, ⟨rfl, nine_one _ _ _ _ _ _ _ _ _ _ _, fun h => absurd (EE.out.1.trans h) EE.out.2⟩, HBF.out⟩
          | true =>
            have HQ1 : Hid ((pS f (q + 1)).err = 0) := Lib.hid (nuS_right HBq.out (by rw [HIq.out]; exact HR.out))
            go_wp2_with (fail)
            go_roundw
            case rel => exact ⟨q + 1, by go_num, by omega, HQ1, HH9, HB9⟩
            case measure => simp [intOf]; omega
      · obtain rfl : q = 3 := by omega
        obtain ⟨B, eB⟩ : ∃ B, nxB (ptP4 f 0) = B := ⟨_, rfl⟩
        obtain ⟨Y, eY⟩ : ∃ I, ptY f 0 = I := ⟨_, rfl⟩
        have HBq := Lib.hid eB
        have HYq := Lib.hid eY
        have HQ4 : Hid ((ptP4 f 0).err = 0) := Lib.hid HQ.out
        have HB2 : Hid (hasI 4 L1 = B) := Lib.hid (by
          have a : nxB (pS f 3) = B := eB
          rw [← a, nxB_0 HQ.out, pS_at, pS_l, HL1.out]; rfl)
        have HI2 : Hid (getI 4 L1 = Y) := Lib.hid (by
          have a : nxI (pS f 3) = Y := eY
          rw [← a, nxI_0 HQ.out, pS_at, pS_l, HL1.out]; rfl)
        clear eB eY
        go_wp2_with (fail)
        refine (refGet_k L1 _ Al nl cl 4 wr HNL.out HL.out (by have := Fo.len_le L1; have := HNL.out; have := HSL.out; omega)).mono ?_
        rintro _ w6 ⟨⟨yk, yc, yl, yA, yn, ycc, yAs, yns, ycs⟩, rfl, hi, hb⟩
        unfold ItV.val
        dsimp only
        rw [HB2.out]
        rw [HI2.out] at hi
        obtain ⟨hli, ht, -, -, -, -, -⟩ := hi.parts
        dsimp only at hli ht
        obtain ⟨w7, ew7⟩ : ∃ w7, w7 = w6.alloc (.cells #[.int .i64 yk, .bool yc, .bool yl, .slice yA yn ycc, .slice yAs yns ycs] 76) := ⟨_, rfl⟩
        obtain ⟨g9, eg9⟩ : ∃ g, g = w6.heap.size := ⟨_, rfl⟩
        have b7 : Below w6.heap.size w6 w7 := by rw [ew7]; exact (Below.refl _ _).alloc (Nat.le_refl _) _
        have b67 : Below wr.heap.size wr w7 := hb.trans (b7.mono hb.size)
        have HX7 : Hid (w7.heap[g9]? = some (.cells (ItV.cells ⟨yk, yc, yl, yA, yn, ycc, yAs, yns, ycs⟩).toArray 76 (0, 0))) := Lib.hid (by rw [ew7, eg9]; exact heap_alloc_new _ _)
        have HT7 := Lib.hid (ht.frame (w' := w7) (fun j _ hj => b7.block j hj) b7.size)
        have HH7 := Lib.hid ((b67.block g7 (heap_lt HH.out)).trans HH.out)
        have HD7 := Lib.hid ((b67.block g2 (heap_lt HD.out)).trans HD.out)
        have HG7 := Lib.hid ((b67.block gr (heap_lt HG.out)).trans HG.out)
        have HBW7 := Lib.hid (HBW.out.trans (b67.mono HBW.out.size))
        have HGX : Hid (g2 < g9 ∧ gr < g9 ∧ g7 < g9 ∧ g2 < g7) := Lib.hid (by have := heap_lt HD.out; have := heap_lt HG.out; have := heap_lt HH.out; have := hb.size; have := EG7.out; have := heap_lt HD4.out; omega)
        have EW7 := Lib.hid ew7
        have EG9 := Lib.hid eg9
        have HLI := Lib.hid hli
        clear hi hb hli ht ew7 eg9 b7 b67 HH HD HG HBW HL
        cases B with
        | false =>
          have EE : Hid (E = 12 ∧ E ≠ 0) := Lib.hid (by rw [← HE.out, pt_none HQ4.out HBq.out]; exact ⟨rfl, by decide⟩)
          go_upto_region 19 with (fail)
          rw [← EW7.out]
          go_wp2_with (first
            | (refine wpList_load_row rfl 29 (.tmp 2) rfl g2 rfl 29 #[.int .u16 (st : Int), .int .u16 (ec : Int), .int .u64 (ak : Int), .int .u64 (th : Int), .bool has, .int .u32 (id0 : Int), .int .i64 ix0, .int .i64 ct0, .slice A0 n0 c0] (0, 0) _ HD7.out Try.underlying29 rfl info_dat ?_)
            | (refine wpList_store_row rfl 29 (.tmp 4) (.tmp 60) rfl gr #[.int .u16 (st : Int), .int .u16 (ec : Int), .int .u64 (ak : Int), .int .u64 (th : Int), .bool has, .int .u32 (id0 : Int), .int .i64 ix0, .int .i64 ct0, .slice A0 n0 c0] rfl rfl 29 _ HG7.out info_dat rfl (nine_one _ _ _ _ _ _ _ _ _ _ _) ?_))
          have HBF := Lib.hid (below_setRow (g := gr) HBW7.out (by have := EGR.out; omega) #[.int .u16 (st : Int), .int .u16 (ec : Int), .int .u64 (ak : Int), .int .u64 (th : Int), .bool has, .int .u32 (id0 : Int), .int .i64 ix0, .int .i64 ct0, .slice A0 n0 c0])
          refine bodyPost_ret (v := .tuple #[.agg #[.int .u16 (st : Int), .int .u16 (ec : Int), .int .u64 (ak : Int), .int .u64 (th : Int), .bool has, .int .u32 (id0 : Int), .int .i64 ix0, .int .i64 ct0, .slice A0 n0 c0], .int .i64 12]) (part_results _ gr 29 _ (0, 0) 12 rfl rfl _ (setRow_heap w7 gr _ _ _ _ HG7.out) info_dat) rfl ?_
          rw [EE.out.1]
          exact ⟨_, rfl, ⟨rfl, nine_one _ _ _ _ _ _ _ _ _ _ _, fun h => absurd (EE.out.1.trans h) EE.out.2⟩, HBF.out⟩
        | true =>
          go_upto_region 20 with (fail)
          rw [← EW7.out, ← EG9.out]
          obtain ⟨x0, ex0⟩ : ∃ x, nuN (ptP1 f 0) = x := ⟨_, rfl⟩
          obtain ⟨x1, ex1⟩ : ∃ x, nuN (ptP2 f 0) = x := ⟨_, rfl⟩
          obtain ⟨x2, ex2⟩ : ∃ x, nuN (ptP3 f 0) = x := ⟨_, rfl⟩
          have hk3 : nkC f 3 = #[.int .u64 (x0 : Int), .int .u64 (x1 : Int), .int .u64 (x2 : Int)] := by rw [← ex0, ← ex1, ← ex2]; rfl
          have hh7 := HH7.out
          rw [hk3] at hh7
          obtain ⟨⟨a0, a1, a2⟩, -⟩ := three_of hh7
          have HA := Lib.hid hh7
          have HX0 := Lib.hid ex0
          have HX1 := Lib.hid ex1
          have HX2 := Lib.hid ex2
          clear hk3 hh7 ex0 ex1 ex2
          obtain ⟨⟨y0, y1, y2, y3, y4⟩, -⟩ := five_of HX7.out
          dsimp only at y0 y1 y2 y3 y4
          obtain ⟨t1, et1⟩ : ∃ b, decide (4294967295 < x0) = b := ⟨_, rfl⟩
          obtain ⟨t2, et2⟩ : ∃ b, decide (128 ≤ x1) = b := ⟨_, rfl⟩
          obtain ⟨t3, et3⟩ : ∃ b, decide (128 < x2) = b := ⟨_, rfl⟩
          have HT1 : Hid (decide ((4294967295 : Int) < (x0 : Int)) = t1) := Lib.hid (by rw [← et1]; exact decide_eq_decide.2 (by omega))
          have d2 : decide ((127 : Int) < (x1 : Int)) = t2 := by rw [← et2]; exact decide_eq_decide.2 (by omega)
          have d3 : decide ((128 : Int) < (x2 : Int)) = t3 := by rw [← et3]; exact decide_eq_decide.2 (by omega)
          have HBAD : Hid (ptBad (ptY f 0) (nuN (ptP1 f 0)) (nuN (ptP2 f 0)) (nuN (ptP3 f 0)) = (yl || (t1 || (t2 || t3)))) := Lib.hid (by unfold ptBad; rw [HX0.out, HX1.out, HX2.out, et1, et2, et3, HYq.out, HLI.out])
          have E1 := Lib.hid et1
          have E2 := Lib.hid et2
          have E3 := Lib.hid et3
          clear et1 et2 et3
          have bad : (yl || (t1 || (t2 || t3))) = true → E = 3 ∧ E ≠ 0 := fun h => by rw [← HE.out, pt_bad HBq.out (HBAD.out.trans h)]; exact ⟨rfl, by decide⟩
          have BAD := Lib.hid bad
          clear bad
          cases yl with
          | true =>
            have EE : Hid (E = 3 ∧ E ≠ 0) := Lib.hid (BAD.out rfl)
            go_upto_region 21 with (fail)
            clear a0 a1 a2 y0 y1 y2 y3 y4 d2 d3
            go_wp2_with (first
              | (refine wpList_load_row rfl 29 (.tmp 2) rfl g2 rfl 29 #[.int .u16 (st : Int), .int .u16 (ec : Int), .int .u64 (ak : Int), .int .u64 (th : Int), .bool has, .int .u32 (id0 : Int), .int .i64 ix0, .int .i64 ct0, .slice A0 n0 c0] (0, 0) _ HD7.out Try.underlying29 rfl info_dat ?_)
              | (refine wpList_store_row rfl 29 (.tmp 4) (.tmp 78) rfl gr #[.int .u16 (st : Int), .int .u16 (ec : Int), .int .u64 (ak : Int), .int .u64 (th : Int), .bool has, .int .u32 (id0 : Int), .int .i64 ix0, .int .i64 ct0, .slice A0 n0 c0] rfl rfl 29 _ HG7.out info_dat rfl (nine_one _ _ _ _ _ _ _ _ _ _ _) ?_))
            have HBF := Lib.hid (below_setRow (g := gr) HBW7.out (by have := EGR.out; omega) #[.int .u16 (st : Int), .int .u16 (ec : Int), .int .u64 (ak : Int), .int .u64 (th : Int), .bool has, .int .u32 (id0 : Int), .int .i64 ix0, .int .i64 ct0, .slice A0 n0 c0])
            refine bodyPost_ret (v := .tuple #[.agg #[.int .u16 (st : Int), .int .u16 (ec : Int), .int .u64 (ak : Int), .int .u64 (th : Int), .bool has, .int .u32 (id0 : Int), .int .i64 ix0, .int .i64 ct0, .slice A0 n0 c0], .int .i64 3]) (part_results _ gr 29 _ (0, 0) 3 rfl rfl _ (setRow_heap w7 gr _ _ _ _ HG7.out) info_dat) rfl ?_
            rw [EE.out.1]
            exact ⟨_, rfl, ⟨rfl, nine_one _ _ _ _ _ _ _ _ _ _ _, fun h => absurd (EE.out.1.trans h) EE.out.2⟩, HBF.out⟩
          | false =>
            cases t1 with
            | true =>
              have EE : Hid (E = 3 ∧ E ≠ 0) := Lib.hid (BAD.out rfl)
              go_upto_region 21 with (first | ((with_reducible refine wpList_open (o := ⟨some 66, _, _, _, _, _⟩) rfl ?_); refine wpList_gtr _ rfl (.tmp 65) (.const (.int .u64 4294967295)) _ _ rfl .u64 (x0 : Int) 4294967295 rfl rfl (by rfl) _ HT1.out ?_))
              clear a0 a1 a2 y0 y1 y2 y3 y4 d2 d3
              go_wp2_with (first
                | (refine wpList_load_row rfl 29 (.tmp 2) rfl g2 rfl 29 #[.int .u16 (st : Int), .int .u16 (ec : Int), .int .u64 (ak : Int), .int .u64 (th : Int), .bool has, .int .u32 (id0 : Int), .int .i64 ix0, .int .i64 ct0, .slice A0 n0 c0] (0, 0) _ HD7.out Try.underlying29 rfl info_dat ?_)
                | (refine wpList_store_row rfl 29 (.tmp 4) (.tmp 78) rfl gr #[.int .u16 (st : Int), .int .u16 (ec : Int), .int .u64 (ak : Int), .int .u64 (th : Int), .bool has, .int .u32 (id0 : Int), .int .i64 ix0, .int .i64 ct0, .slice A0 n0 c0] rfl rfl 29 _ HG7.out info_dat rfl (nine_one _ _ _ _ _ _ _ _ _ _ _) ?_))
              have HBF := Lib.hid (below_setRow (g := gr) HBW7.out (by have := EGR.out; omega) #[.int .u16 (st : Int), .int .u16 (ec : Int), .int .u64 (ak : Int), .int .u64 (th : Int), .bool has, .int .u32 (id0 : Int), .int .i64 ix0, .int .i64 ct0, .slice A0 n0 c0])
              refine bodyPost_ret (v := .tuple #[.agg #[.int .u16 (st : Int), .int .u16 (ec : Int), .int .u64 (ak : Int), .int .u64 (th : Int), .bool has, .int .u32 (id0 : Int), .int .i64 ix0, .int .i64 ct0, .slice A0 n0 c0], .int .i64 3]) (part_results _ gr 29 _ (0, 0) 3 rfl rfl _ (setRow_heap w7 gr _ _ _ _ HG7.out) info_dat) rfl ?_
              rw [EE.out.1]
              exact ⟨_, rfl, ⟨rfl, nine_one _ _ _ _ _ _ _ _ _ _ _, fun h => absurd (EE.out.1.trans h) EE.out.2⟩, HBF.out⟩
            | false =>
              cases t2 with
              | true =>
                have EE : Hid (E = 3 ∧ E ≠ 0) := Lib.hid (BAD.out rfl)
                go_upto_region 21 with (first | ((with_reducible refine wpList_open (o := ⟨some 66, _, _, _, _, _⟩) rfl ?_); refine wpList_gtr _ rfl (.tmp 65) (.const (.int .u64 4294967295)) _ _ rfl .u64 (x0 : Int) 4294967295 rfl rfl (by rfl) _ HT1.out ?_))
                clear a0 a1 a2 y0 y1 y2 y3 y4 d2 d3
                go_wp2_with (first
                  | (refine wpList_load_row rfl 29 (.tmp 2) rfl g2 rfl 29 #[.int .u16 (st : Int), .int .u16 (ec : Int), .int .u64 (ak : Int), .int .u64 (th : Int), .bool has, .int .u32 (id0 : Int), .int .i64 ix0, .int .i64 ct0, .slice A0 n0 c0] (0, 0) _ HD7.out Try.underlying29 rfl info_dat ?_)
                  | (refine wpList_store_row rfl 29 (.tmp 4) (.tmp 78) rfl gr #[.int .u16 (st : Int), .int .u16 (ec : Int), .int .u64 (ak : Int), .int .u64 (th : Int), .bool has, .int .u32 (id0 : Int), .int .i64 ix0, .int .i64 ct0, .slice A0 n0 c0] rfl rfl 29 _ HG7.out info_dat rfl (nine_one _ _ _ _ _ _ _ _ _ _ _) ?_))
                have HBF := Lib.hid (below_setRow (g := gr) HBW7.out (by have := EGR.out; omega) #[.int .u16 (st : Int), .int .u16 (ec : Int), .int .u64 (ak : Int), .int .u64 (th : Int), .bool has, .int .u32 (id0 : Int), .int .i64 ix0, .int .i64 ct0, .slice A0 n0 c0])
                refine bodyPost_ret (v := .tuple #[.agg #[.int .u16 (st : Int), .int .u16 (ec : Int), .int .u64 (ak : Int), .int .u64 (th : Int), .bool has, .int .u32 (id0 : Int), .int .i64 ix0, .int .i64 ct0, .slice A0 n0 c0], .int .i64 3]) (part_results _ gr 29 _ (0, 0) 3 rfl rfl _ (setRow_heap w7 gr _ _ _ _ HG7.out) info_dat) rfl ?_
                rw [EE.out.1]
                exact ⟨_, rfl, ⟨rfl, nine_one _ _ _ _ _ _ _ _ _ _ _, fun h => absurd (EE.out.1.trans h) EE.out.2⟩, HBF.out⟩
              | false =>
                cases t3 with
                | true =>
                  have EE : Hid (E = 3 ∧ E ≠ 0) := Lib.hid (BAD.out rfl)
                  go_upto_region 21 with (first | ((with_reducible refine wpList_open (o := ⟨some 66, _, _, _, _, _⟩) rfl ?_); refine wpList_gtr _ rfl (.tmp 65) (.const (.int .u64 4294967295)) _ _ rfl .u64 (x0 : Int) 4294967295 rfl rfl (by rfl) _ HT1.out ?_))
                  clear a0 a1 a2 y0 y1 y2 y3 y4 d2 d3
                  go_wp2_with (first
                    | (refine wpList_load_row rfl 29 (.tmp 2) rfl g2 rfl 29 #[.int .u16 (st : Int), .int .u16 (ec : Int), .int .u64 (ak : Int), .int .u64 (th : Int), .bool has, .int .u32 (id0 : Int), .int .i64 ix0, .int .i64 ct0, .slice A0 n0 c0] (0, 0) _ HD7.out Try.underlying29 rfl info_dat ?_)
                    | (refine wpList_store_row rfl 29 (.tmp 4) (.tmp 78) rfl gr #[.int .u16 (st : Int), .int .u16 (ec : Int), .int .u64 (ak : Int), .int .u64 (th : Int), .bool has, .int .u32 (id0 : Int), .int .i64 ix0, .int .i64 ct0, .slice A0 n0 c0] rfl rfl 29 _ HG7.out info_dat rfl (nine_one _ _ _ _ _ _ _ _ _ _ _) ?_))
                  have HBF := Lib.hid (below_setRow (g := gr) HBW7.out (by have := EGR.out; omega) #[.int .u16 (st : Int), .int .u16 (ec : Int), .int .u64 (ak : Int), .int .u64 (th : Int), .bool has, .int .u32 (id0 : Int), .int .i64 ix0, .int .i64 ct0, .slice A0 n0 c0])
                  refine bodyPost_ret (v := .tuple #[.agg #[.int .u16 (st : Int), .int .u16 (ec : Int), .int .u64 (ak : Int), .int .u64 (th : Int), .bool has, .int .u32 (id0 : Int), .int .i64 ix0, .int .i64 ct0, .slice A0 n0 c0], .int .i64 3]) (part_results _ gr 29 _ (0, 0) 3 rfl rfl _ (setRow_heap w7 gr _ _ _ _ HG7.out) info_dat) rfl ?_
                  rw [EE.out.1]
                  exact ⟨_, rfl, ⟨rfl, nine_one _ _ _ _ _ _ _ _ _ _ _, fun h => absurd (EE.out.1.trans h) EE.out.2⟩, HBF.out⟩
                | false =>
                  have EE : Hid (E = 0) := Lib.hid (by rw [← HE.out]; exact pt_good HBq.out (HBAD.out.trans rfl))
                  have hz0 : x0 ≤ 4294967295 := by have := E1.out; rw [decide_eq_false_iff_not] at this; omega
                  have hz1 : x1 < 128 := by have := E2.out; rw [decide_eq_false_iff_not] at this; omega
                  have hz2 : x2 ≤ 128 := by have := E3.out; rw [decide_eq_false_iff_not] at this; omega
                  have k0 : IntKind.u32.wrap (x0 : Int) = (x0 : Int) := u32_u64w (by omega)
                  have k1 : IntKind.i64.wrap (x1 : Int) = (x1 : Int) := i64w' (by omega)
                  have k2 : IntKind.i64.wrap (x2 : Int) = (x2 : Int) := i64w' (by omega)
                  obtain ⟨w8, ew8⟩ : ∃ w8, w8 = w7.setCell ⟨g2, 4, none⟩ (.bool true) := ⟨_, rfl⟩
                  have hk8 : Keeps (fun j => j = g2) w7 w8 := by rw [ew8]; exact Keeps.set (fun j => j = g2) w7 ⟨g2, 4, none⟩ _ rfl
                  have hd8 : w8.heap[g2]? = some (.cells #[.int .u16 (st : Int), .int .u16 (ec : Int), .int .u64 (ak : Int), .int .u64 (th : Int), .bool true, .int .u32 (id0 : Int), .int .i64 ix0, .int .i64 ct0, .slice A0 n0 c0] 29 (0, 0)) := by
                    rw [ew8]
                    have h0 := heap_set HD7.out 4 (.bool true)
                    simp only [List.setIfInBounds_toArray, List.set_cons_zero, List.set_cons_succ] at h0
                    exact h0
                  have f4 : w7.frozen? ⟨g2, 4, none⟩ = false := heap_free HD7.out 4
                  have c4 : w7.cell? ⟨g2, 4, none⟩ = some (.bool has) := (heap_cell HD7.out 4).trans rfl
                  have HA8 := Lib.hid ((hk8.block g7 (heap_lt HA.out) (by have := HGX.out; omega)).trans HA.out)
                  have HX8 := Lib.hid ((hk8.block g9 (heap_lt HX7.out) (by have := HGX.out; omega)).trans HX7.out)
                  have HG8 := Lib.hid ((hk8.block gr (heap_lt HG7.out) (by have := EGR.out; have := EG2.out; omega)).trans HG7.out)
                  have HBW8 := Lib.hid (keepsP_b HBW7.out hk8 (by have := EG2.out; omega) (Nat.le_refl _))
                  have HD8 := Lib.hid hd8
                  have HK8 := Lib.hid hk8
                  have EW8 := Lib.hid ew8
                  clear hz0 hz1 hz2 ew8 hk8 hd8
                  go_upto_region 22 with (first | ((with_reducible refine wpList_open (o := ⟨some 66, _, _, _, _, _⟩) rfl ?_); refine wpList_gtr _ rfl (.tmp 65) (.const (.int .u64 4294967295)) _ _ rfl .u64 (x0 : Int) 4294967295 rfl rfl (by rfl) _ HT1.out ?_))
                  clear a0 a1 a2 y0 y1 y2 y3 y4 d2 d3
                  go_upto_region 23 with (fail)
                  rw [← EW8.out]
                  clear f4 c4
                  obtain ⟨⟨a0, a1, a2⟩, -⟩ := three_of HA8.out
                  have y3 : w8.cell? ⟨g9, 3, none⟩ = some (.slice yA yn ycc) := (five_of HX8.out).1.2.2.2.1
                  have f5 : w8.frozen? ⟨g2, 5, none⟩ = false := heap_free HD8.out 5
                  have f6 : w8.frozen? ⟨g2, 6, none⟩ = false := heap_free HD8.out 6
                  have f7 : w8.frozen? ⟨g2, 7, none⟩ = false := heap_free HD8.out 7
                  have f8 : w8.frozen? ⟨g2, 8, none⟩ = false := heap_free HD8.out 8
                  have c5 : w8.cell? ⟨g2, 5, none⟩ = some (.int .u32 (id0 : Int)) := (heap_cell HD8.out 5).trans rfl
                  have c6 : w8.cell? ⟨g2, 6, none⟩ = some (.int .i64 ix0) := (heap_cell HD8.out 6).trans rfl
                  have c7 : w8.cell? ⟨g2, 7, none⟩ = some (.int .i64 ct0) := (heap_cell HD8.out 7).trans rfl
                  have c8 : w8.cell? ⟨g2, 8, none⟩ = some (.slice A0 n0 c0) := (heap_cell HD8.out 8).trans rfl
                  obtain ⟨w9, ew9⟩ : ∃ w', w' = (((w8.setCell ⟨g2, 5, none⟩ (.int .u32 (x0 : Int))).setCell ⟨g2, 6, none⟩ (.int .i64 (x1 : Int))).setCell ⟨g2, 7, none⟩ (.int .i64 (x2 : Int))).setCell ⟨g2, 8, none⟩ (.slice yA yn ycc) := ⟨_, rfl⟩
                  have hk9 : Keeps (fun j => j = g2) w8 w9 := by
                    rw [ew9]
                    exact (((Keeps.set (fun j => j = g2) w8 ⟨g2, 5, none⟩ _ rfl).trans (Keeps.set (fun j => j = g2) _ ⟨g2, 6, none⟩ _ rfl)).trans (Keeps.set (fun j => j = g2) _ ⟨g2, 7, none⟩ _ rfl)).trans (Keeps.set (fun j => j = g2) _ ⟨g2, 8, none⟩ _ rfl)
                  have hd9 : w9.heap[g2]? = some (.cells #[.int .u16 (st : Int), .int .u16 (ec : Int), .int .u64 (ak : Int), .int .u64 (th : Int), .bool true, .int .u32 (x0 : Int), .int .i64 (x1 : Int), .int .i64 (x2 : Int), .slice yA yn ycc] 29 (0, 0)) := by
                    rw [ew9]
                    have h1 := heap_set HD8.out 5 (.int .u32 (x0 : Int))
                    simp only [List.setIfInBounds_toArray, List.set_cons_zero, List.set_cons_succ] at h1
                    have h2 := heap_set h1 6 (.int .i64 (x1 : Int))
                    simp only [List.setIfInBounds_toArray, List.set_cons_zero, List.set_cons_succ] at h2
                    have h3 := heap_set h2 7 (.int .i64 (x2 : Int))
                    simp only [List.setIfInBounds_toArray, List.set_cons_zero, List.set_cons_succ] at h3
                    have h4 := heap_set h3 8 (.slice yA yn ycc)
                    simp only [List.setIfInBounds_toArray, List.set_cons_zero, List.set_cons_succ] at h4
                    exact h4
                  have HD9 := Lib.hid hd9
                  have HG9 := Lib.hid ((hk9.block gr (heap_lt HG8.out) (by have := EGR.out; have := EG2.out; omega)).trans HG8.out)
                  have HBW9 := Lib.hid (keepsP_b HBW8.out hk9 (by have := EG2.out; omega) (Nat.le_refl _))
                  have HK9 := Lib.hid (HK8.out.trans hk9)
                  have EW9 := Lib.hid ew9
                  clear ew9 hk9 hd9
                  go_upto_region 24 with (fail)
                  rw [← EW9.out]
                  clear a0 a1 a2 y3 f5 f6 f7 f8 c5 c6 c7 c8 k0 k1 k2
                  go_wp2_with (first
                    | (refine wpList_load_row rfl 29 (.tmp 2) rfl g2 rfl 29 #[.int .u16 (st : Int), .int .u16 (ec : Int), .int .u64 (ak : Int), .int .u64 (th : Int), .bool true, .int .u32 (x0 : Int), .int .i64 (x1 : Int), .int .i64 (x2 : Int), .slice yA yn ycc] (0, 0) _ HD9.out Try.underlying29 rfl info_dat ?_)
                    | (refine wpList_store_row rfl 29 (.tmp 4) (.tmp 93) rfl gr #[.int .u16 (st : Int), .int .u16 (ec : Int), .int .u64 (ak : Int), .int .u64 (th : Int), .bool true, .int .u32 (x0 : Int), .int .i64 (x1 : Int), .int .i64 (x2 : Int), .slice yA yn ycc] rfl rfl 29 _ HG9.out info_dat rfl (nine_one _ _ _ _ _ _ _ _ _ _ _) ?_))
                  have HBF := Lib.hid (below_setRow (g := gr) HBW9.out (by have := EGR.out; omega) #[.int .u16 (st : Int), .int .u16 (ec : Int), .int .u64 (ak : Int), .int .u64 (th : Int), .bool true, .int .u32 (x0 : Int), .int .i64 (x1 : Int), .int .i64 (x2 : Int), .slice yA yn ycc])
                  refine bodyPost_ret (v := .tuple #[.agg #[.int .u16 (st : Int), .int .u16 (ec : Int), .int .u64 (ak : Int), .int .u64 (th : Int), .bool true, .int .u32 (x0 : Int), .int .i64 (x1 : Int), .int .i64 (x2 : Int), .slice yA yn ycc], .int .i64 0]) (part_results _ gr 29 _ (0, 0) 0 rfl rfl _ (setRow_heap w9 gr _ _ _ _ HG9.out) info_dat) rfl ?_
                  rw [EE.out]
                  refine ⟨_, rfl, ⟨rfl, nine_one _ _ _ _ _ _ _ _ _ _ _, fun _ => ⟨yA, yn, ycc, ?_, ?_⟩⟩, HBF.out⟩
                  · unfold ptD datC
                    rw [HX0.out, HX1.out, HX2.out]
                  · have eb : (ptD f 0).bs = itB Y := by unfold ptD; rw [HYq.out]
                    rw [eb]
                    have far : ∀ j, ((ok j ∧ j < w.heap.size) ∨ w2.heap.size ≤ j) → j ≠ g2 ∧ j ≠ gr := fun j hj => by
                      have a1 := EG2.out; have a2 := EGR.out; have a3 := HZ2.out
                      rcases hj with q | q
                      · have := q.2; omega
                      · omega
                    have h9 := HT7.out.frame (w' := w9) (fun j hj hl => HK9.out.block j hl (far j hj).1) HK9.out.size
                    have h10 := h9.frame (w' := w9.setRow gr #[.int .u16 (st : Int), .int .u16 (ec : Int), .int .u64 (ak : Int), .int .u64 (th : Int), .bool true, .int .u32 (x0 : Int), .int .i64 (x1 : Int), .int .i64 (x2 : Int), .slice yA yn ycc]) (fun j hj hl => setRow_other w9 gr j #[.int .u16 (st : Int), .int .u16 (ec : Int), .int .u64 (ak : Int), .int .u64 (th : Int), .bool true, .int .u32 (x0 : Int), .int .i64 (x1 : Int), .int .i64 (x2 : Int), .slice yA yn ycc] (far j hj).2) (by rw [show (w9.setRow gr #[.int .u16 (st : Int), .int .u16 (ec : Int), .int .u64 (ak : Int), .int .u64 (th : Int), .bool true, .int .u32 (x0 : Int), .int .i64 (x1 : Int), .int .i64 (x2 : Int), .slice yA yn ycc]).heap.size = w9.heap.size from by simp [World.setRow]]; exact Nat.le_refl _)
                    refine h10.weak (fun j hj _ => ?_)
                    have hj' : (ok j ∧ j < w.heap.size) ∨ w2.heap.size ≤ j := hj
                    show ok j ∨ w.heap.size ≤ j
                    rcases hj' with q | q
                    · exact .inl q.1
                    · have a3 := HZ2.out; exact .inr (by omega)
  · have d0 : ((e0 : Int) != 0) = true := by rw [bne_iff_ne]; omega
    have EE : Hid (E = e0 ∧ E ≠ 0) := Lib.hid (by
      have : E = e0 := by rw [← HE.out, pS_end (k := 0) (by omega) (by rw [HE0.out]; exact h0), HE0.out]
      exact ⟨this, by rw [this]; exact h0⟩)
    clear h0
    go_wp2_with (first
      | (refine wpList_load_row rfl 29 (.tmp 2) rfl g2 rfl 29 #[.int .u16 (st : Int), .int .u16 (ec : Int), .int .u64 (ak : Int), .int .u64 (th : Int), .bool has, .int .u32 (id0 : Int), .int .i64 ix0, .int .i64 ct0, .slice A0 n0 c0] (0, 0) _ HD4.out Try.underlying29 rfl info_dat ?_)
      | (refine wpList_store_row rfl 29 (.tmp 4) (.tmp 24) rfl gr #[.int .u16 (st : Int), .int .u16 (ec : Int), .int .u64 (ak : Int), .int .u64 (th : Int), .bool has, .int .u32 (id0 : Int), .int .i64 ix0, .int .i64 ct0, .slice A0 n0 c0] rfl rfl 29 _ HG4.out info_dat rfl (nine_one _ _ _ _ _ _ _ _ _ _ _) ?_))
    have HBF := Lib.hid (below_setRow (g := gr) HB4.out (by have := EGR.out; omega) #[.int .u16 (st : Int), .int .u16 (ec : Int), .int .u64 (ak : Int), .int .u64 (th : Int), .bool has, .int .u32 (id0 : Int), .int .i64 ix0, .int .i64 ct0, .slice A0 n0 c0])
    refine bodyPost_ret (v := .tuple #[.agg #[.int .u16 (st : Int), .int .u16 (ec : Int), .int .u64 (ak : Int), .int .u64 (th : Int), .bool has, .int .u32 (id0 : Int), .int .i64 ix0, .int .i64 ct0, .slice A0 n0 c0], .int .i64 (e0 : Int)]) (part_results _ gr 29 _ (0, 0) (e0 : Int) rfl rfl _ (setRow_heap w4 gr _ _ _ _ HG4.out) info_dat) rfl ?_
    rw [EE.out.1]
    exact ⟨_, rfl, ⟨rfl, nine_one _ _ _ _ _ _ _ _ _ _ _, fun h => absurd (EE.out.1.trans h) EE.out.2⟩, HBF.out⟩
end Go.Proofs.Ytcffinkkfdfcaaa
