/- Parts one behind the other: What bytes say as data in a version, by the reference: GetData; The walk of the law BodyReads: it returns true. Conditions: as told at each. -/
import Derived.Test.YtcffinkkfdfcaaaPB29
import Derived.Test.YtcffinkkfdfcaaaPB30
import Derived.Test.YtcffinkkfdfcaaaPB21
import Derived.Test.YtcffinkkfdfcaaaPB16

set_option linter.unusedVariables false
set_option linter.unusedSimpArgs false
/- What bytes say as data in a version, by the reference: GetData. Conditions: bytes that can be read. -/
namespace Go.Proofs.Ytcffinkkfdfcaaa
open Go Go.RowKit

/-- What is answered: data's nine cells, its bytes to be read. -/
def DatT (w : World) (cs : Array Value) (d : DataD) : Prop := ∃ A n c, cs = datC d A n c ∧ TxtR (fun _ => True) w A n c d.p.bs
theorem DatT.zero (w : World) : DatT w #[.int .u16 0, .int .u16 0, .int .u64 0, .int .u64 0, .bool false, .int .u32 0, .int .i64 0, .int .i64 0, .slice none 0 0] dzD := ⟨none, 0, 0, rfl, (TxtO.nil_ _ _).r⟩
theorem refdata_results (tmps : Array Value) (g : Nat) (t : TypeId) (cs : Array Value) (fr : Nat × Nat) (y : Int) (h2 : tmps.getD 4 undef = .pointer (some ⟨g, 0, none⟩)) (h3 : tmps.getD 5 undef = .int .i64 y) (w : World) (hg : w.heap[g]? = some (.cells cs t fr)) (hi : (Try.prog.info? 29).map (·.size) = some cs.size) :
    (results Try.f28 tmps).run Try.prog w = .ok (.tuple #[.agg cs, .int .i64 y]) w := by
  have h2' : tmps[4]?.getD undef = .pointer (some ⟨g, 0, none⟩) := by simpa using h2
  have h3' : tmps[5]?.getD undef = .int .i64 y := by simpa using h3
  simp [results, Try.results28, h2', h3', asAddr, run_loadVar_row w g t 29 cs fr _ hg Try.underlying29 rfl hi]
set_option maxRecDepth 100000 in
set_option maxHeartbeats 8000000 in
theorem refGetData_c (v : Int) (bs : List UInt8) (A : Option Addr) (n c : Nat) (w : World) (hn : bs.length = n) (hr : Rd w A (bs.map bv)) (hc : n ≤ c) (hcm : c ≤ maxLen) (hl : n ≤ 140737488355328) :
    Calls Try.prog 28 #[.int .i64 v, .slice A n c] w fun r w' => ∃ cs, r = .returned (.tuple #[.agg cs, .int .i64 (getE v bs : Int)]) ∧ DatT w' cs (getD v bs) ∧ Below w.heap.size w w' := by
  have HN := Lib.hid hn
  have HL := Lib.hid hl
  have HC := Lib.hid hc
  have HCM := Lib.hid hcm
  obtain ⟨w0, ew0⟩ : ∃ w0, w0 = w.alloc (.cells #[.int .u16 0, .int .u16 0, .int .u64 0, .int .u64 0, .bool false, .int .u32 0, .int .i64 0, .int .i64 0, .slice none 0 0] 29) := ⟨_, rfl⟩
  obtain ⟨gr, egr⟩ : ∃ gr, gr = w.heap.size := ⟨_, rfl⟩
  have b0 : Below w.heap.size w w0 := by rw [ew0]; exact (Below.refl _ _).alloc (Nat.le_refl _) _
  have g0 : w0.heap[gr]? = some (.cells #[.int .u16 0, .int .u16 0, .int .u64 0, .int .u64 0, .bool false, .int .u32 0, .int .i64 0, .int .i64 0, .slice none 0 0] 29 (0, 0)) := by rw [ew0, egr]; exact heap_alloc_new _ _
  obtain ⟨w1, ew1⟩ : ∃ w1, w1 = (w0.alloc (.cells #[.int .u16 0, .int .u16 0, .int .u64 0, .int .u64 0, .bool false, .int .u32 0, .int .i64 0, .int .i64 0, .slice none 0 0] 29)).setRow w0.heap.size #[.int .u16 0, .int .u16 0, .int .u64 0, .int .u64 0, .bool false, .int .u32 0, .int .i64 0, .int .i64 0, .slice none 0 0] := ⟨_, rfl⟩
  obtain ⟨g6, eg6⟩ : ∃ g, g = w0.heap.size := ⟨_, rfl⟩
  have b1 : Below w0.heap.size w0 w1 := by rw [ew1]; exact below_setRow ((Below.refl _ _).alloc (Nat.le_refl _) _) (Nat.le_refl _) _
  have HG1 := Lib.hid ((b1.block gr (heap_lt g0)).trans g0)
  have HH1 : Hid (w1.heap[g6]? = some (.cells #[.int .u16 0, .int .u16 0, .int .u64 0, .int .u64 0, .bool false, .int .u32 0, .int .i64 0, .int .i64 0, .slice none 0 0] 29 (0, 0))) := Lib.hid (by rw [ew1, eg6]; exact setRow_heap _ _ _ _ _ _ (heap_alloc_new w0 _))
  have HR1 := Lib.hid ((hr.below b0).below b1)
  have HB1 := Lib.hid (b0.trans (b1.mono b0.size))
  have HGG : Hid (gr < g6 ∧ w.heap.size ≤ gr ∧ w.heap.size ≤ g6) := Lib.hid (by have := heap_lt g0; have := b0.size; omega)
  have EW0 := Lib.hid ew0
  have EW1 := Lib.hid ew1
  have EGR := Lib.hid egr
  have EG6 := Lib.hid eg6
  obtain ⟨E, eE⟩ : ∃ E, getE v bs = E := ⟨_, rfl⟩
  obtain ⟨D, eD⟩ : ∃ D, getD v bs = D := ⟨_, rfl⟩
  rw [eE, eD]
  have HE := Lib.hid eE
  have HDD := Lib.hid eD
  clear ew0 egr b0 g0 ew1 eg6 b1 hn hr hl hc hcm eE eD
  by_cases v1 : v = 1
  · subst v1
    have HGV : Hid (getG 1 bs = (firE bs, firD bs)) := Lib.hid (by unfold getG; rw [if_pos rfl])
    obtain ⟨E1, eE1⟩ : ∃ e, firE bs = e := ⟨_, rfl⟩
    obtain ⟨D1, eD1⟩ : ∃ d, firD bs = d := ⟨_, rfl⟩
    have HE1 := Lib.hid eE1
    have HD1 := Lib.hid eD1
    clear eE1 eD1
    go_enter Try.func28, Try.ntmps28
    go_upto_region 1 with (fail)
    rw [← EW0.out, ← EGR.out]
    go_upto_region 2 with (first | (refine wpList_store_row rfl 29 (.tmp 6) (.tmp 8) rfl w0.heap.size #[.int .u16 0, .int .u16 0, .int .u64 0, .int .u64 0, .bool false, .int .u32 0, .int .i64 0, .int .i64 0, .slice none 0 0] rfl rfl 29 _ (heap_alloc_new w0 _) info_dat rfl zd_one ?_))
    rw [← EW1.out, ← EG6.out]
    go_wp2_with (fail)
    refine (refFirst_c bs A n c w1 HN.out HR1.out HC.out HCM.out HL.out).mono ?_
    rintro _ w2 ⟨cs, rfl, hd, hb⟩
    rw [HE1.out] at hd ⊢
    rw [HD1.out] at hd
    obtain ⟨hs, ho, hd⟩ := hd
    have HG2 := Lib.hid ((hb.block gr (heap_lt HG1.out)).trans HG1.out)
    have HH2 := Lib.hid ((hb.block g6 (heap_lt HH1.out)).trans HH1.out)
    have HB2 := Lib.hid (HB1.out.trans (hb.mono HB1.out.size))
    have HGL : Hid (gr < w1.heap.size ∧ g6 < w1.heap.size) := Lib.hid ⟨heap_lt HG1.out, heap_lt HH1.out⟩
    have HS : Hid (cs.size = 9) := Lib.hid hs
    have HSI : Hid ((Try.prog.info? 29).map (·.size) = some cs.size) := Lib.hid (by rw [hs]; exact info_dat)
    have HSZ : Hid ((#[.int .u16 0, .int .u16 0, .int .u64 0, .int .u64 0, .bool false, .int .u32 0, .int .i64 0, .int .i64 0, .slice none 0 0] : Array Value).size = cs.size) := Lib.hid (by rw [hs]; rfl)
    have HO := Lib.hid ho
    clear hs ho hb
    obtain ⟨w3, ew3⟩ : ∃ w3, w3 = w2.setRow g6 cs := ⟨_, rfl⟩
    have HK3 : Hid (Keeps (fun j => j = g6) w2 w3) := Lib.hid (by rw [ew3]; exact (Zg.row HH2.out).1)
    have HG3 := Lib.hid ((HK3.out.block gr (heap_lt HG2.out) (by have := HGG.out; omega)).trans HG2.out)
    have HH3 : Hid (w3.heap[g6]? = some (.cells cs 29 (0, 0))) := Lib.hid (by rw [ew3]; exact setRow_heap w2 g6 _ _ _ _ HH2.out)
    have HB3 : Hid (Below w.heap.size w w3) := Lib.hid (by rw [ew3]; exact below_setRow (g := g6) HB2.out HGG.out.2.2 cs)
    have EW3 := Lib.hid ew3
    clear ew3
    by_cases h0 : E1 = 0
    · obtain ⟨A9, n9, c9, rfl, ht⟩ := hd h0
      have d0 : ((E1 : Int) == 0) = true := by rw [h0]; rfl
      have H0 := Lib.hid h0
      obtain ⟨st, ec, ak, th, has, ⟨id, ix, ct, bl⟩⟩ := D1
      unfold datC at *
      dsimp only at *
      have hn9 : bl.length = n9 := ht.1
      have ht3 : TxtR (fun j => j ≠ gr) w3 A9 n9 c9 bl := by
        refine (ht.frame (w' := w3) (fun j hj hl => HK3.out.block j hl (by have : w1.heap.size ≤ j := hj; have := HGL.out; omega)) HK3.out.size).weak (fun j hj _ => ?_)
        have h1 : w1.heap.size ≤ j := hj
        have h2 := HGL.out
        show j ≠ gr
        omega
      have HT3 := Lib.hid ht3
      have HN9 := Lib.hid hn9
      clear ht hd h0 hn9 ht3
      go_upto_region 6 with (first
        | (refine wpList_store_row rfl 29 (.tmp 6) (.tmp 14) rfl g6 #[.int .u16 (st : Int), .int .u16 (ec : Int), .int .u64 (ak : Int), .int .u64 (th : Int), .bool has, .int .u32 (id : Int), .int .i64 ix, .int .i64 ct, .slice A9 n9 c9] rfl rfl 29 _ HH2.out HSI.out HSZ.out HO.out ?_))
      rw [← EW3.out]
      go_wp2_with (first
        | ((with_reducible refine wpList_open (o := ⟨some 30, _, _, _, _, _⟩) rfl ?_); refine wpList_load_row rfl 29 (.tmp 6) rfl g6 rfl 29 #[.int .u16 (st : Int), .int .u16 (ec : Int), .int .u64 (ak : Int), .int .u64 (th : Int), .bool has, .int .u32 (id : Int), .int .i64 ix, .int .i64 ct, .slice A9 n9 c9] (0, 0) _ HH3.out Try.underlying29 rfl HSI.out ?_))
      refine (dataMay21_c st ec ak th has id ix ct A9 n9 c9 bl w3 HN9.out HT3.out.2.1 (Nat.le_trans HT3.out.2.2.1 HT3.out.2.2.2.1)).mono ?_
      rintro _ w4 ⟨rfl, hb⟩
      obtain ⟨M, eM⟩ : ∃ M, dataB has id ix ct n9 = M := ⟨_, rfl⟩
      rw [eM]
      have HM : Hid ((⟨st, ec, ak, th, has, ⟨id, ix, ct, bl⟩⟩ : DataD).may = M) := Lib.hid (by unfold DataD.may; dsimp only; rw [HN9.out, eM])
      have HG4 := Lib.hid ((hb.block gr (heap_lt HG3.out)).trans HG3.out)
      have HH4 := Lib.hid ((hb.block g6 (heap_lt HH3.out)).trans HH3.out)
      have HB4 := Lib.hid (HB3.out.trans (hb.mono HB3.out.size))
      have HT4 := Lib.hid (HT3.out.frame (w' := w4) (fun j hj hl => hb.block j hl) hb.size)
      clear eM hb
      have hg1 : (getG 1 bs).1 = 0 := by rw [HGV.out, HE1.out]; exact H0.out
      have hg2 : (getG 1 bs).2 = ⟨st, ec, ak, th, has, ⟨id, ix, ct, bl⟩⟩ := by rw [HGV.out, HD1.out]
      cases M with
      | false =>
        have hE : E = 3 := by rw [← HE.out, getE, if_pos ⟨hg1, by rw [hg2]; exact HM.out⟩]
        have EE := Lib.hid hE
        have ED : Hid (D = dzD) := Lib.hid (by rw [← HDD.out, getD, if_neg (by rw [HE.out, hE]; decide)])
        clear hE hg1 hg2
        go_wp2_with (first
          | (refine wpList_store_row rfl 29 (.tmp 4) (.tmp 36) rfl gr #[.int .u16 0, .int .u16 0, .int .u64 0, .int .u64 0, .bool false, .int .u32 0, .int .i64 0, .int .i64 0, .slice none 0 0] rfl rfl 29 _ HG4.out info_dat rfl zd_one ?_))
        have HBF := Lib.hid (below_setRow (g := gr) HB4.out HGG.out.2.1 #[.int .u16 0, .int .u16 0, .int .u64 0, .int .u64 0, .bool false, .int .u32 0, .int .i64 0, .int .i64 0, .slice none 0 0])
        refine bodyPost_ret (v := .tuple #[.agg #[.int .u16 0, .int .u16 0, .int .u64 0, .int .u64 0, .bool false, .int .u32 0, .int .i64 0, .int .i64 0, .slice none 0 0], .int .i64 (3 : Int)]) (refdata_results _ gr 29 _ (0, 0) (3 : Int) rfl rfl _ (setRow_heap w4 gr _ _ _ _ HG4.out) info_dat) rfl ?_
        rw [EE.out, ED.out]
        exact ⟨_, rfl, DatT.zero _, HBF.out⟩
      | true =>
        have hE : E = 0 := by rw [← HE.out, getE, if_neg (fun q => by rw [hg2, HM.out] at q; cases q.2), hg1]
        have ED : Hid (D = ⟨st, ec, ak, th, has, ⟨id, ix, ct, bl⟩⟩) := Lib.hid (by rw [← HDD.out, getD, if_pos (HE.out.trans hE), hg2])
        have EE := Lib.hid hE
        have dne : ((E1 : Int) != 0) = false := by rw [H0.out]; rfl
        clear hE hg1 hg2
        go_wp2_with (first
          | (refine wpList_load_row rfl 29 (.tmp 6) rfl g6 rfl 29 #[.int .u16 (st : Int), .int .u16 (ec : Int), .int .u64 (ak : Int), .int .u64 (th : Int), .bool has, .int .u32 (id : Int), .int .i64 ix, .int .i64 ct, .slice A9 n9 c9] (0, 0) _ HH4.out Try.underlying29 rfl HSI.out ?_)
          | (refine wpList_store_row rfl 29 (.tmp 4) (.tmp 38) rfl gr #[.int .u16 (st : Int), .int .u16 (ec : Int), .int .u64 (ak : Int), .int .u64 (th : Int), .bool has, .int .u32 (id : Int), .int .i64 ix, .int .i64 ct, .slice A9 n9 c9] rfl rfl 29 _ HG4.out HSI.out HSZ.out HO.out ?_))
        have HBF := Lib.hid (below_setRow (g := gr) HB4.out HGG.out.2.1 #[.int .u16 (st : Int), .int .u16 (ec : Int), .int .u64 (ak : Int), .int .u64 (th : Int), .bool has, .int .u32 (id : Int), .int .i64 ix, .int .i64 ct, .slice A9 n9 c9])
        refine bodyPost_ret (v := .tuple #[.agg #[.int .u16 (st : Int), .int .u16 (ec : Int), .int .u64 (ak : Int), .int .u64 (th : Int), .bool has, .int .u32 (id : Int), .int .i64 ix, .int .i64 ct, .slice A9 n9 c9], .int .i64 0]) (refdata_results _ gr 29 _ (0, 0) 0 rfl rfl _ (setRow_heap w4 gr _ _ _ _ HG4.out) HSI.out) rfl ?_
        rw [EE.out, ED.out]
        refine ⟨_, rfl, ⟨A9, n9, c9, rfl, ?_⟩, HBF.out⟩
        exact (HT4.out.frame (fun j (hj : j ≠ gr) hl => setRow_other w4 gr j #[.int .u16 (st : Int), .int .u16 (ec : Int), .int .u64 (ak : Int), .int .u64 (th : Int), .bool has, .int .u32 (id : Int), .int .i64 ix, .int .i64 ct, .slice A9 n9 c9] hj) (by rw [show (w4.setRow gr #[.int .u16 (st : Int), .int .u16 (ec : Int), .int .u64 (ak : Int), .int .u64 (th : Int), .bool has, .int .u32 (id : Int), .int .i64 ix, .int .i64 ct, .slice A9 n9 c9]).heap.size = w4.heap.size from by simp [World.setRow]]; exact Nat.le_refl _)).weak (fun _ _ _ => trivial)
    · have d0 : ((E1 : Int) == 0) = false := by rw [beq_eq_false_iff_ne]; omega
      have dne : ((E1 : Int) != 0) = true := by rw [bne_iff_ne]; omega
      have hE : E = E1 := by rw [← HE.out, getE, HGV.out, if_neg (fun q => h0 (HE1.out.symm.trans q.1))]; exact HE1.out
      have EE := Lib.hid hE
      have ED : Hid (D = dzD) := Lib.hid (by rw [← HDD.out, getD, if_neg (by rw [HE.out, hE]; exact h0)])
      clear hE h0 hd
      go_upto_region 6 with (first
        | (refine wpList_store_row rfl 29 (.tmp 6) (.tmp 14) rfl g6 cs rfl rfl 29 _ HH2.out HSI.out HSZ.out HO.out ?_))
      rw [← EW3.out]
      go_wp2_with (first
        | (refine wpList_store_row rfl 29 (.tmp 4) (.tmp 36) rfl gr #[.int .u16 0, .int .u16 0, .int .u64 0, .int .u64 0, .bool false, .int .u32 0, .int .i64 0, .int .i64 0, .slice none 0 0] rfl rfl 29 _ HG3.out info_dat rfl zd_one ?_))
      have HBF := Lib.hid (below_setRow (g := gr) HB3.out HGG.out.2.1 #[.int .u16 0, .int .u16 0, .int .u64 0, .int .u64 0, .bool false, .int .u32 0, .int .i64 0, .int .i64 0, .slice none 0 0])
      refine bodyPost_ret (v := .tuple #[.agg #[.int .u16 0, .int .u16 0, .int .u64 0, .int .u64 0, .bool false, .int .u32 0, .int .i64 0, .int .i64 0, .slice none 0 0], .int .i64 (E1 : Int)]) (refdata_results _ gr 29 _ (0, 0) (E1 : Int) rfl rfl _ (setRow_heap w3 gr _ _ _ _ HG3.out) info_dat) rfl ?_
      rw [EE.out, ED.out]
      exact ⟨_, rfl, DatT.zero _, HBF.out⟩
  · by_cases v2 : v = 2
    · subst v2
      clear v1
      have HGV : Hid (getG 2 bs = (itmE bs, itmD bs)) := Lib.hid (by unfold getG; rw [if_neg (by decide), if_pos (by decide)])
      obtain ⟨E1, eE1⟩ : ∃ e, itmE bs = e := ⟨_, rfl⟩
      obtain ⟨D1, eD1⟩ : ∃ d, itmD bs = d := ⟨_, rfl⟩
      have HE1 := Lib.hid eE1
      have HD1 := Lib.hid eD1
      clear eE1 eD1
      go_enter Try.func28, Try.ntmps28
      go_upto_region 1 with (fail)
      rw [← EW0.out, ← EGR.out]
      go_upto_region 2 with (first | (refine wpList_store_row rfl 29 (.tmp 6) (.tmp 8) rfl w0.heap.size #[.int .u16 0, .int .u16 0, .int .u64 0, .int .u64 0, .bool false, .int .u32 0, .int .i64 0, .int .i64 0, .slice none 0 0] rfl rfl 29 _ (heap_alloc_new w0 _) info_dat rfl zd_one ?_))
      rw [← EW1.out, ← EG6.out]
      go_wp2_with (fail)
      refine (refItems_c bs A n c w1 HN.out HR1.out HC.out HCM.out HL.out).mono ?_
      rintro _ w2 ⟨cs, rfl, hd, hb⟩
      rw [HE1.out] at hd ⊢
      rw [HD1.out] at hd
      obtain ⟨hs, ho, hd⟩ := hd
      have HG2 := Lib.hid ((hb.block gr (heap_lt HG1.out)).trans HG1.out)
      have HH2 := Lib.hid ((hb.block g6 (heap_lt HH1.out)).trans HH1.out)
      have HB2 := Lib.hid (HB1.out.trans (hb.mono HB1.out.size))
      have HGL : Hid (gr < w1.heap.size ∧ g6 < w1.heap.size) := Lib.hid ⟨heap_lt HG1.out, heap_lt HH1.out⟩
      have HS : Hid (cs.size = 9) := Lib.hid hs
      have HSI : Hid ((Try.prog.info? 29).map (·.size) = some cs.size) := Lib.hid (by rw [hs]; exact info_dat)
      have HSZ : Hid ((#[.int .u16 0, .int .u16 0, .int .u64 0, .int .u64 0, .bool false, .int .u32 0, .int .i64 0, .int .i64 0, .slice none 0 0] : Array Value).size = cs.size) := Lib.hid (by rw [hs]; rfl)
      have HO := Lib.hid ho
      clear hs ho hb
      obtain ⟨w3, ew3⟩ : ∃ w3, w3 = w2.setRow g6 cs := ⟨_, rfl⟩
      have HK3 : Hid (Keeps (fun j => j = g6) w2 w3) := Lib.hid (by rw [ew3]; exact (Zg.row HH2.out).1)
      have HG3 := Lib.hid ((HK3.out.block gr (heap_lt HG2.out) (by have := HGG.out; omega)).trans HG2.out)
      have HH3 : Hid (w3.heap[g6]? = some (.cells cs 29 (0, 0))) := Lib.hid (by rw [ew3]; exact setRow_heap w2 g6 _ _ _ _ HH2.out)
      have HB3 : Hid (Below w.heap.size w w3) := Lib.hid (by rw [ew3]; exact below_setRow (g := g6) HB2.out HGG.out.2.2 cs)
      have EW3 := Lib.hid ew3
      clear ew3
      by_cases h0 : E1 = 0
      · obtain ⟨A9, n9, c9, rfl, ht⟩ := hd h0
        have d0 : ((E1 : Int) == 0) = true := by rw [h0]; rfl
        have H0 := Lib.hid h0
        obtain ⟨st, ec, ak, th, has, ⟨id, ix, ct, bl⟩⟩ := D1
        unfold datC at *
        dsimp only at *
        have hn9 : bl.length = n9 := ht.1
        have ht3 : TxtR (fun j => j ≠ gr) w3 A9 n9 c9 bl := by
          refine (ht.frame (w' := w3) (fun j hj hl => HK3.out.block j hl (by have : w1.heap.size ≤ j := hj; have := HGL.out; omega)) HK3.out.size).weak (fun j hj _ => ?_)
          have h1 : w1.heap.size ≤ j := hj
          have h2 := HGL.out
          show j ≠ gr
          omega
        have HT3 := Lib.hid ht3
        have HN9 := Lib.hid hn9
        clear ht hd h0 hn9 ht3
        go_upto_region 6 with (first
          | (refine wpList_store_row rfl 29 (.tmp 6) (.tmp 25) rfl g6 #[.int .u16 (st : Int), .int .u16 (ec : Int), .int .u64 (ak : Int), .int .u64 (th : Int), .bool has, .int .u32 (id : Int), .int .i64 ix, .int .i64 ct, .slice A9 n9 c9] rfl rfl 29 _ HH2.out HSI.out HSZ.out HO.out ?_))
        rw [← EW3.out]
        go_wp2_with (first
          | ((with_reducible refine wpList_open (o := ⟨some 30, _, _, _, _, _⟩) rfl ?_); refine wpList_load_row rfl 29 (.tmp 6) rfl g6 rfl 29 #[.int .u16 (st : Int), .int .u16 (ec : Int), .int .u64 (ak : Int), .int .u64 (th : Int), .bool has, .int .u32 (id : Int), .int .i64 ix, .int .i64 ct, .slice A9 n9 c9] (0, 0) _ HH3.out Try.underlying29 rfl HSI.out ?_))
        refine (dataMay21_c st ec ak th has id ix ct A9 n9 c9 bl w3 HN9.out HT3.out.2.1 (Nat.le_trans HT3.out.2.2.1 HT3.out.2.2.2.1)).mono ?_
        rintro _ w4 ⟨rfl, hb⟩
        obtain ⟨M, eM⟩ : ∃ M, dataB has id ix ct n9 = M := ⟨_, rfl⟩
        rw [eM]
        have HM : Hid ((⟨st, ec, ak, th, has, ⟨id, ix, ct, bl⟩⟩ : DataD).may = M) := Lib.hid (by unfold DataD.may; dsimp only; rw [HN9.out, eM])
        have HG4 := Lib.hid ((hb.block gr (heap_lt HG3.out)).trans HG3.out)
        have HH4 := Lib.hid ((hb.block g6 (heap_lt HH3.out)).trans HH3.out)
        have HB4 := Lib.hid (HB3.out.trans (hb.mono HB3.out.size))
        have HT4 := Lib.hid (HT3.out.frame (w' := w4) (fun j hj hl => hb.block j hl) hb.size)
        clear eM hb
        have hg1 : (getG 2 bs).1 = 0 := by rw [HGV.out, HE1.out]; exact H0.out
        have hg2 : (getG 2 bs).2 = ⟨st, ec, ak, th, has, ⟨id, ix, ct, bl⟩⟩ := by rw [HGV.out, HD1.out]
        cases M with
        | false =>
          have hE : E = 3 := by rw [← HE.out, getE, if_pos ⟨hg1, by rw [hg2]; exact HM.out⟩]
          have EE := Lib.hid hE
          have ED : Hid (D = dzD) := Lib.hid (by rw [← HDD.out, getD, if_neg (by rw [HE.out, hE]; decide)])
          clear hE hg1 hg2
          go_wp2_with (first
            | (refine wpList_store_row rfl 29 (.tmp 4) (.tmp 36) rfl gr #[.int .u16 0, .int .u16 0, .int .u64 0, .int .u64 0, .bool false, .int .u32 0, .int .i64 0, .int .i64 0, .slice none 0 0] rfl rfl 29 _ HG4.out info_dat rfl zd_one ?_))
          have HBF := Lib.hid (below_setRow (g := gr) HB4.out HGG.out.2.1 #[.int .u16 0, .int .u16 0, .int .u64 0, .int .u64 0, .bool false, .int .u32 0, .int .i64 0, .int .i64 0, .slice none 0 0])
          refine bodyPost_ret (v := .tuple #[.agg #[.int .u16 0, .int .u16 0, .int .u64 0, .int .u64 0, .bool false, .int .u32 0, .int .i64 0, .int .i64 0, .slice none 0 0], .int .i64 (3 : Int)]) (refdata_results _ gr 29 _ (0, 0) (3 : Int) rfl rfl _ (setRow_heap w4 gr _ _ _ _ HG4.out) info_dat) rfl ?_
          rw [EE.out, ED.out]
          exact ⟨_, rfl, DatT.zero _, HBF.out⟩
        | true =>
          have hE : E = 0 := by rw [← HE.out, getE, if_neg (fun q => by rw [hg2, HM.out] at q; cases q.2), hg1]
          have ED : Hid (D = ⟨st, ec, ak, th, has, ⟨id, ix, ct, bl⟩⟩) := Lib.hid (by rw [← HDD.out, getD, if_pos (HE.out.trans hE), hg2])
          have EE := Lib.hid hE
          have dne : ((E1 : Int) != 0) = false := by rw [H0.out]; rfl
          clear hE hg1 hg2
          go_wp2_with (first
            | (refine wpList_load_row rfl 29 (.tmp 6) rfl g6 rfl 29 #[.int .u16 (st : Int), .int .u16 (ec : Int), .int .u64 (ak : Int), .int .u64 (th : Int), .bool has, .int .u32 (id : Int), .int .i64 ix, .int .i64 ct, .slice A9 n9 c9] (0, 0) _ HH4.out Try.underlying29 rfl HSI.out ?_)
            | (refine wpList_store_row rfl 29 (.tmp 4) (.tmp 38) rfl gr #[.int .u16 (st : Int), .int .u16 (ec : Int), .int .u64 (ak : Int), .int .u64 (th : Int), .bool has, .int .u32 (id : Int), .int .i64 ix, .int .i64 ct, .slice A9 n9 c9] rfl rfl 29 _ HG4.out HSI.out HSZ.out HO.out ?_))
          have HBF := Lib.hid (below_setRow (g := gr) HB4.out HGG.out.2.1 #[.int .u16 (st : Int), .int .u16 (ec : Int), .int .u64 (ak : Int), .int .u64 (th : Int), .bool has, .int .u32 (id : Int), .int .i64 ix, .int .i64 ct, .slice A9 n9 c9])
          refine bodyPost_ret (v := .tuple #[.agg #[.int .u16 (st : Int), .int .u16 (ec : Int), .int .u64 (ak : Int), .int .u64 (th : Int), .bool has, .int .u32 (id : Int), .int .i64 ix, .int .i64 ct, .slice A9 n9 c9], .int .i64 0]) (refdata_results _ gr 29 _ (0, 0) 0 rfl rfl _ (setRow_heap w4 gr _ _ _ _ HG4.out) HSI.out) rfl ?_
          rw [EE.out, ED.out]
          refine ⟨_, rfl, ⟨A9, n9, c9, rfl, ?_⟩, HBF.out⟩
          exact (HT4.out.frame (fun j (hj : j ≠ gr) hl => setRow_other w4 gr j #[.int .u16 (st : Int), .int .u16 (ec : Int), .int .u64 (ak : Int), .int .u64 (th : Int), .bool has, .int .u32 (id : Int), .int .i64 ix, .int .i64 ct, .slice A9 n9 c9] hj) (by rw [show (w4.setRow gr #[.int .u16 (st : Int), .int .u16 (ec : Int), .int .u64 (ak : Int), .int .u64 (th : Int), .bool has, .int .u32 (id : Int), .int .i64 ix, .int .i64 ct, .slice A9 n9 c9]).heap.size = w4.heap.size from by simp [World.setRow]]; exact Nat.le_refl _)).weak (fun _ _ _ => trivial)
      · have d0 : ((E1 : Int) == 0) = false := by rw [beq_eq_false_iff_ne]; omega
        have dne : ((E1 : Int) != 0) = true := by rw [bne_iff_ne]; omega
        have hE : E = E1 := by rw [← HE.out, getE, HGV.out, if_neg (fun q => h0 (HE1.out.symm.trans q.1))]; exact HE1.out
        have EE := Lib.hid hE
        have ED : Hid (D = dzD) := Lib.hid (by rw [← HDD.out, getD, if_neg (by rw [HE.out, hE]; exact h0)])
        clear hE h0 hd
        go_upto_region 6 with (first
          | (refine wpList_store_row rfl 29 (.tmp 6) (.tmp 25) rfl g6 cs rfl rfl 29 _ HH2.out HSI.out HSZ.out HO.out ?_))
        rw [← EW3.out]
        go_wp2_with (first
          | (refine wpList_store_row rfl 29 (.tmp 4) (.tmp 36) rfl gr #[.int .u16 0, .int .u16 0, .int .u64 0, .int .u64 0, .bool false, .int .u32 0, .int .i64 0, .int .i64 0, .slice none 0 0] rfl rfl 29 _ HG3.out info_dat rfl zd_one ?_))
        have HBF := Lib.hid (below_setRow (g := gr) HB3.out HGG.out.2.1 #[.int .u16 0, .int .u16 0, .int .u64 0, .int .u64 0, .bool false, .int .u32 0, .int .i64 0, .int .i64 0, .slice none 0 0])
        refine bodyPost_ret (v := .tuple #[.agg #[.int .u16 0, .int .u16 0, .int .u64 0, .int .u64 0, .bool false, .int .u32 0, .int .i64 0, .int .i64 0, .slice none 0 0], .int .i64 (E1 : Int)]) (refdata_results _ gr 29 _ (0, 0) (E1 : Int) rfl rfl _ (setRow_heap w3 gr _ _ _ _ HG3.out) info_dat) rfl ?_
        rw [EE.out, ED.out]
        exact ⟨_, rfl, DatT.zero _, HBF.out⟩
    · by_cases v3 : v = 3
      · subst v3
        clear v1 v2
        have HGV : Hid (getG 3 bs = (itmE bs, itmD bs)) := Lib.hid (by unfold getG; rw [if_neg (by decide), if_pos (by decide)])
        obtain ⟨E1, eE1⟩ : ∃ e, itmE bs = e := ⟨_, rfl⟩
        obtain ⟨D1, eD1⟩ : ∃ d, itmD bs = d := ⟨_, rfl⟩
        have HE1 := Lib.hid eE1
        have HD1 := Lib.hid eD1
        clear eE1 eD1
        go_enter Try.func28, Try.ntmps28
        go_upto_region 1 with (fail)
        rw [← EW0.out, ← EGR.out]
        go_upto_region 2 with (first | (refine wpList_store_row rfl 29 (.tmp 6) (.tmp 8) rfl w0.heap.size #[.int .u16 0, .int .u16 0, .int .u64 0, .int .u64 0, .bool false, .int .u32 0, .int .i64 0, .int .i64 0, .slice none 0 0] rfl rfl 29 _ (heap_alloc_new w0 _) info_dat rfl zd_one ?_))
        rw [← EW1.out, ← EG6.out]
        go_wp2_with (fail)
        refine (refItems_c bs A n c w1 HN.out HR1.out HC.out HCM.out HL.out).mono ?_
        rintro _ w2 ⟨cs, rfl, hd, hb⟩
        rw [HE1.out] at hd ⊢
        rw [HD1.out] at hd
        obtain ⟨hs, ho, hd⟩ := hd
        have HG2 := Lib.hid ((hb.block gr (heap_lt HG1.out)).trans HG1.out)
        have HH2 := Lib.hid ((hb.block g6 (heap_lt HH1.out)).trans HH1.out)
        have HB2 := Lib.hid (HB1.out.trans (hb.mono HB1.out.size))
        have HGL : Hid (gr < w1.heap.size ∧ g6 < w1.heap.size) := Lib.hid ⟨heap_lt HG1.out, heap_lt HH1.out⟩
        have HS : Hid (cs.size = 9) := Lib.hid hs
        have HSI : Hid ((Try.prog.info? 29).map (·.size) = some cs.size) := Lib.hid (by rw [hs]; exact info_dat)
        have HSZ : Hid ((#[.int .u16 0, .int .u16 0, .int .u64 0, .int .u64 0, .bool false, .int .u32 0, .int .i64 0, .int .i64 0, .slice none 0 0] : Array Value).size = cs.size) := Lib.hid (by rw [hs]; rfl)
        have HO := Lib.hid ho
        clear hs ho hb
        obtain ⟨w3, ew3⟩ : ∃ w3, w3 = w2.setRow g6 cs := ⟨_, rfl⟩
        have HK3 : Hid (Keeps (fun j => j = g6) w2 w3) := Lib.hid (by rw [ew3]; exact (Zg.row HH2.out).1)
        have HG3 := Lib.hid ((HK3.out.block gr (heap_lt HG2.out) (by have := HGG.out; omega)).trans HG2.out)
        have HH3 : Hid (w3.heap[g6]? = some (.cells cs 29 (0, 0))) := Lib.hid (by rw [ew3]; exact setRow_heap w2 g6 _ _ _ _ HH2.out)
        have HB3 : Hid (Below w.heap.size w w3) := Lib.hid (by rw [ew3]; exact below_setRow (g := g6) HB2.out HGG.out.2.2 cs)
        have EW3 := Lib.hid ew3
        clear ew3
        by_cases h0 : E1 = 0
        · obtain ⟨A9, n9, c9, rfl, ht⟩ := hd h0
          have d0 : ((E1 : Int) == 0) = true := by rw [h0]; rfl
          have H0 := Lib.hid h0
          obtain ⟨st, ec, ak, th, has, ⟨id, ix, ct, bl⟩⟩ := D1
          unfold datC at *
          dsimp only at *
          have hn9 : bl.length = n9 := ht.1
          have ht3 : TxtR (fun j => j ≠ gr) w3 A9 n9 c9 bl := by
            refine (ht.frame (w' := w3) (fun j hj hl => HK3.out.block j hl (by have : w1.heap.size ≤ j := hj; have := HGL.out; omega)) HK3.out.size).weak (fun j hj _ => ?_)
            have h1 : w1.heap.size ≤ j := hj
            have h2 := HGL.out
            show j ≠ gr
            omega
          have HT3 := Lib.hid ht3
          have HN9 := Lib.hid hn9
          clear ht hd h0 hn9 ht3
          go_upto_region 6 with (first
            | (refine wpList_store_row rfl 29 (.tmp 6) (.tmp 25) rfl g6 #[.int .u16 (st : Int), .int .u16 (ec : Int), .int .u64 (ak : Int), .int .u64 (th : Int), .bool has, .int .u32 (id : Int), .int .i64 ix, .int .i64 ct, .slice A9 n9 c9] rfl rfl 29 _ HH2.out HSI.out HSZ.out HO.out ?_))
          rw [← EW3.out]
          go_wp2_with (first
            | ((with_reducible refine wpList_open (o := ⟨some 30, _, _, _, _, _⟩) rfl ?_); refine wpList_load_row rfl 29 (.tmp 6) rfl g6 rfl 29 #[.int .u16 (st : Int), .int .u16 (ec : Int), .int .u64 (ak : Int), .int .u64 (th : Int), .bool has, .int .u32 (id : Int), .int .i64 ix, .int .i64 ct, .slice A9 n9 c9] (0, 0) _ HH3.out Try.underlying29 rfl HSI.out ?_))
          refine (dataMay21_c st ec ak th has id ix ct A9 n9 c9 bl w3 HN9.out HT3.out.2.1 (Nat.le_trans HT3.out.2.2.1 HT3.out.2.2.2.1)).mono ?_
          rintro _ w4 ⟨rfl, hb⟩
          obtain ⟨M, eM⟩ : ∃ M, dataB has id ix ct n9 = M := ⟨_, rfl⟩
          rw [eM]
          have HM : Hid ((⟨st, ec, ak, th, has, ⟨id, ix, ct, bl⟩⟩ : DataD).may = M) := Lib.hid (by unfold DataD.may; dsimp only; rw [HN9.out, eM])
          have HG4 := Lib.hid ((hb.block gr (heap_lt HG3.out)).trans HG3.out)
          have HH4 := Lib.hid ((hb.block g6 (heap_lt HH3.out)).trans HH3.out)
          have HB4 := Lib.hid (HB3.out.trans (hb.mono HB3.out.size))
          have HT4 := Lib.hid (HT3.out.frame (w' := w4) (fun j hj hl => hb.block j hl) hb.size)
          clear eM hb
          have hg1 : (getG 3 bs).1 = 0 := by rw [HGV.out, HE1.out]; exact H0.out
          have hg2 : (getG 3 bs).2 = ⟨st, ec, ak, th, has, ⟨id, ix, ct, bl⟩⟩ := by rw [HGV.out, HD1.out]
          cases M with
          | false =>
            have hE : E = 3 := by rw [← HE.out, getE, if_pos ⟨hg1, by rw [hg2]; exact HM.out⟩]
            have EE := Lib.hid hE
            have ED : Hid (D = dzD) := Lib.hid (by rw [← HDD.out, getD, if_neg (by rw [HE.out, hE]; decide)])
            clear hE hg1 hg2
            go_wp2_with (first
              | (refine wpList_store_row rfl 29 (.tmp 4) (.tmp 36) rfl gr #[.int .u16 0, .int .u16 0, .int .u64 0, .int .u64 0, .bool false, .int .u32 0, .int .i64 0, .int .i64 0, .slice none 0 0] rfl rfl 29 _ HG4.out info_dat rfl zd_one ?_))
            have HBF := Lib.hid (below_setRow (g := gr) HB4.out HGG.out.2.1 #[.int .u16 0, .int .u16 0, .int .u64 0, .int .u64 0, .bool false, .int .u32 0, .int .i64 0, .int .i64 0, .slice none 0 0])
            refine bodyPost_ret (v := .tuple #[.agg #[.int .u16 0, .int .u16 0, .int .u64 0, .int .u64 0, .bool false, .int .u32 0, .int .i64 0, .int .i64 0, .slice none 0 0], .int .i64 (3 : Int)]) (refdata_results _ gr 29 _ (0, 0) (3 : Int) rfl rfl _ (setRow_heap w4 gr _ _ _ _ HG4.out) info_dat) rfl ?_
            rw [EE.out, ED.out]
            exact ⟨_, rfl, DatT.zero _, HBF.out⟩
          | true =>
            have hE : E = 0 := by rw [← HE.out, getE, if_neg (fun q => by rw [hg2, HM.out] at q; cases q.2), hg1]
            have ED : Hid (D = ⟨st, ec, ak, th, has, ⟨id, ix, ct, bl⟩⟩) := Lib.hid (by rw [← HDD.out, getD, if_pos (HE.out.trans hE), hg2])
            have EE := Lib.hid hE
            have dne : ((E1 : Int) != 0) = false := by rw [H0.out]; rfl
            clear hE hg1 hg2
            go_wp2_with (first
              | (refine wpList_load_row rfl 29 (.tmp 6) rfl g6 rfl 29 #[.int .u16 (st : Int), .int .u16 (ec : Int), .int .u64 (ak : Int), .int .u64 (th : Int), .bool has, .int .u32 (id : Int), .int .i64 ix, .int .i64 ct, .slice A9 n9 c9] (0, 0) _ HH4.out Try.underlying29 rfl HSI.out ?_)
              | (refine wpList_store_row rfl 29 (.tmp 4) (.tmp 38) rfl gr #[.int .u16 (st : Int), .int .u16 (ec : Int), .int .u64 (ak : Int), .int .u64 (th : Int), .bool has, .int .u32 (id : Int), .int .i64 ix, .int .i64 ct, .slice A9 n9 c9] rfl rfl 29 _ HG4.out HSI.out HSZ.out HO.out ?_))
            have HBF := Lib.hid (below_setRow (g := gr) HB4.out HGG.out.2.1 #[.int .u16 (st : Int), .int .u16 (ec : Int), .int .u64 (ak : Int), .int .u64 (th : Int), .bool has, .int .u32 (id : Int), .int .i64 ix, .int .i64 ct, .slice A9 n9 c9])
            refine bodyPost_ret (v := .tuple #[.agg #[.int .u16 (st : Int), .int .u16 (ec : Int), .int .u64 (ak : Int), .int .u64 (th : Int), .bool has, .int .u32 (id : Int), .int .i64 ix, .int .i64 ct, .slice A9 n9 c9], .int .i64 0]) (refdata_results _ gr 29 _ (0, 0) 0 rfl rfl _ (setRow_heap w4 gr _ _ _ _ HG4.out) HSI.out) rfl ?_
            rw [EE.out, ED.out]
            refine ⟨_, rfl, ⟨A9, n9, c9, rfl, ?_⟩, HBF.out⟩
            exact (HT4.out.frame (fun j (hj : j ≠ gr) hl => setRow_other w4 gr j #[.int .u16 (st : Int), .int .u16 (ec : Int), .int .u64 (ak : Int), .int .u64 (th : Int), .bool has, .int .u32 (id : Int), .int .i64 ix, .int .i64 ct, .slice A9 n9 c9] hj) (by rw [show (w4.setRow gr #[.int .u16 (st : Int), .int .u16 (ec : Int), .int .u64 (ak : Int), .int .u64 (th : Int), .bool has, .int .u32 (id : Int), .int .i64 ix, .int .i64 ct, .slice A9 n9 c9]).heap.size = w4.heap.size from by simp [World.setRow]]; exact Nat.le_refl _)).weak (fun _ _ _ => trivial)
        · have d0 : ((E1 : Int) == 0) = false := by rw [beq_eq_false_iff_ne]; omega
          have dne : ((E1 : Int) != 0) = true := by rw [bne_iff_ne]; omega
          have hE : E = E1 := by rw [← HE.out, getE, HGV.out, if_neg (fun q => h0 (HE1.out.symm.trans q.1))]; exact HE1.out
          have EE := Lib.hid hE
          have ED : Hid (D = dzD) := Lib.hid (by rw [← HDD.out, getD, if_neg (by rw [HE.out, hE]; exact h0)])
          clear hE h0 hd
          go_upto_region 6 with (first
            | (refine wpList_store_row rfl 29 (.tmp 6) (.tmp 25) rfl g6 cs rfl rfl 29 _ HH2.out HSI.out HSZ.out HO.out ?_))
          rw [← EW3.out]
          go_wp2_with (first
            | (refine wpList_store_row rfl 29 (.tmp 4) (.tmp 36) rfl gr #[.int .u16 0, .int .u16 0, .int .u64 0, .int .u64 0, .bool false, .int .u32 0, .int .i64 0, .int .i64 0, .slice none 0 0] rfl rfl 29 _ HG3.out info_dat rfl zd_one ?_))
          have HBF := Lib.hid (below_setRow (g := gr) HB3.out HGG.out.2.1 #[.int .u16 0, .int .u16 0, .int .u64 0, .int .u64 0, .bool false, .int .u32 0, .int .i64 0, .int .i64 0, .slice none 0 0])
          refine bodyPost_ret (v := .tuple #[.agg #[.int .u16 0, .int .u16 0, .int .u64 0, .int .u64 0, .bool false, .int .u32 0, .int .i64 0, .int .i64 0, .slice none 0 0], .int .i64 (E1 : Int)]) (refdata_results _ gr 29 _ (0, 0) (E1 : Int) rfl rfl _ (setRow_heap w3 gr _ _ _ _ HG3.out) info_dat) rfl ?_
          rw [EE.out, ED.out]
          exact ⟨_, rfl, DatT.zero _, HBF.out⟩
      · have d1 : (v == 1) = false := by rw [beq_eq_false_iff_ne]; exact v1
        have d2 : (v == 2) = false := by rw [beq_eq_false_iff_ne]; exact v2
        have d3 : (v == 3) = false := by rw [beq_eq_false_iff_ne]; exact v3
        have hG : getG v bs = (1, dzD) := by unfold getG; rw [if_neg v1, if_neg (by rintro (q | q); exact v2 q; exact v3 q)]
        have hE : E = 1 := by rw [← HE.out, getE, hG, if_neg (fun q => by cases q.1)]
        have EE := Lib.hid hE
        have ED : Hid (D = dzD) := Lib.hid (by rw [← HDD.out, getD, if_neg (by rw [HE.out, hE]; decide)])
        clear v1 v2 v3 hG hE
        go_enter Try.func28, Try.ntmps28
        go_upto_region 1 with (fail)
        rw [← EW0.out, ← EGR.out]
        go_upto_region 2 with (first | (refine wpList_store_row rfl 29 (.tmp 6) (.tmp 8) rfl w0.heap.size #[.int .u16 0, .int .u16 0, .int .u64 0, .int .u64 0, .bool false, .int .u32 0, .int .i64 0, .int .i64 0, .slice none 0 0] rfl rfl 29 _ (heap_alloc_new w0 _) info_dat rfl zd_one ?_))
        rw [← EW1.out, ← EG6.out]
        go_wp2_with (first
          | (refine wpList_store_row rfl 29 (.tmp 4) (.tmp 36) rfl gr #[.int .u16 0, .int .u16 0, .int .u64 0, .int .u64 0, .bool false, .int .u32 0, .int .i64 0, .int .i64 0, .slice none 0 0] rfl rfl 29 _ HG1.out info_dat rfl zd_one ?_))
        have HBF := Lib.hid (below_setRow (g := gr) HB1.out HGG.out.2.1 #[.int .u16 0, .int .u16 0, .int .u64 0, .int .u64 0, .bool false, .int .u32 0, .int .i64 0, .int .i64 0, .slice none 0 0])
        refine bodyPost_ret (v := .tuple #[.agg #[.int .u16 0, .int .u16 0, .int .u64 0, .int .u64 0, .bool false, .int .u32 0, .int .i64 0, .int .i64 0, .slice none 0 0], .int .i64 (1 : Int)]) (refdata_results _ gr 29 _ (0, 0) (1 : Int) rfl rfl _ (setRow_heap w1 gr _ _ _ _ HG1.out) info_dat) rfl ?_
        rw [EE.out, ED.out]
        exact ⟨_, rfl, DatT.zero _, HBF.out⟩
end Go.Proofs.Ytcffinkkfdfcaaa

/- The walk of the law BodyReads: it returns true. Conditions: the row's own. -/
namespace Go.Proofs.Ytcffinkkfdfcaaa
open Go Go.RowKit

theorem Own.high {w : World} {B B' : Nat} {e : TypeId} {v : Value} {vs : List Value} (h : Own w B e v vs) (hB : ∀ g, v.ownBlock = some g → B' ≤ g) : Own w B' e v vs := by
  refine ⟨h.1, ?_⟩
  rcases h.2 with h2 | ⟨g, cap, cur, hv, hb, r⟩
  · exact .inl h2
  · exact .inr ⟨g, cap, cur, hv, hB g (by rw [hv]; rfl), r⟩
theorem open_own {w : World} {B n c : Nat} {Ao : Option Addr} {l : List UInt8} (h : OwnB w B (.slice Ao n c) l) (h0 : 0 < n) : ∃ g, Ao = some ⟨g, 0, none⟩ ∧ B ≤ g ∧ g < w.heap.size ∧ l.length = n := by
  obtain ⟨A7, c7, e7, _, _, rd7, hA7⟩ := OwnB.form h
  injection e7 with e1 e2 e3
  subst e1 e2
  obtain ⟨b, off, rfl, hb, _⟩ := rd7.addrB h0
  obtain ⟨q1, q2, q3, _⟩ := hA7 _ rfl
  simp only at q1 q2 q3
  subst q3
  exact ⟨b, rfl, q1, q2, rfl⟩
theorem rd_own {w : World} {B n c : Nat} {Ao : Option Addr} {l : List UInt8} (h : OwnB w B (.slice Ao n c) l) : Rd w Ao (l.map bv) := by
  obtain ⟨A7, c7, e7, _, _, rd7, _⟩ := OwnB.form h
  injection e7 with e1 e2 e3
  subst e1
  exact rd7
theorem mod_u8 (z : Int) : ∃ b : UInt8, Value.int .u8 (z % 256) = bv b := by
  refine ⟨UInt8.ofNat (z % 256).toNat, ?_⟩
  unfold bv
  rw [UInt8.toNat_ofNat']
  congr 1
  omega
set_option maxRecDepth 100000 in
set_option maxHeartbeats 8000000 in
theorem BodyReads_walk (w : World) (v : Int) (hv : (Lit.int .i64 v).wf = true) (A : Option Addr) (n c : Nat) (bs : List UInt8) (hn : bs.length = n) (hr : Rd w A (bs.map bv)) (hc : n ≤ c) (hm : c ≤ maxLen) (hl : n ≤ 140737488351232) :
    Calls Try.prog 6 #[.int .i64 v, .slice A n c] w fun r w' => r = .returned (.bool true) ∧ Below w.heap.size w w' := by
  have HR := Lib.hid hr
  have HN := Lib.hid hn
  have HC := Lib.hid hc
  have HM := Lib.hid hm
  have HL := Lib.hid (show n ≤ 140737488355328 by omega)
  clear hr hn hc hm hl hv
  go_enter Try.func6, Try.ntmps6
  by_cases hb : 16384 < n
  · have hb' : (16384 : Int) < (n : Int) := by omega
    clear hb
    go_wp2_with (fail)
    refine (fixedB_c w).mono ?_
    rintro _ w2 ⟨rfl, hk2⟩
    have K2 := Lib.hid hk2
    clear hk2
    go_wp2_with (fail)
    go_ret
    exact ⟨rfl, K2.out⟩
  · have hb' : (n : Int) ≤ 16384 := by omega
    clear hb
    go_wp2_with (fail)
    refine (Copy_c A n c bs w HN.out HR.out HL.out).mono ?_
    rintro _ w1 ⟨v1, rfl, ho, hb⟩
    obtain ⟨A1, c1, rfl, hc1, hm1, r1, f1⟩ := OwnB.form ho
    rw [HN.out] at hc1 ⊢
    have HA1 := Lib.hid r1
    have HF1 : Hid (∀ a, A1 = some a → a.block < w1.heap.size) := Lib.hid (fun a e => (f1 a e).2.1)
    have HB1 := Lib.hid hb
    have HC1 := Lib.hid (Nat.le_trans hc1 hm1)
    clear ho hb hc1 hm1 r1 f1
    obtain ⟨E, eE⟩ : ∃ E, getE v bs = E := ⟨_, rfl⟩
    obtain ⟨⟨st, ec, ak, th, has, ⟨id, ix, ct, L⟩⟩, eD⟩ : ∃ D, getD v bs = D := ⟨_, rfl⟩
    have HE := Lib.hid eE
    have HD := Lib.hid eD
    clear eE eD
    obtain ⟨Bv, eBv⟩ : ∃ B, B = w1.heap.size := ⟨_, rfl⟩
    have HBV := Lib.hid eBv
    go_wp2_with (fail)
    refine (GetData_c v bs A1 n c1 w1 HN.out HA1.out HL.out).mono ?_
    rintro _ w2 ⟨cs, rfl, hd, hb⟩
    rw [HE.out]
    rw [HD.out] at hd
    obtain ⟨A5, ln, c5, rfl, ht⟩ := hd
    unfold datC
    dsimp only at ht ⊢
    have HLN : Hid (L.length = ln) := Lib.hid ht.1
    have HLM : Hid (ln ≤ maxLen) := Lib.hid (by have := ht.2.2.2; unfold maxLen; omega)
    have HO2 : Hid (OwnB w2 Bv (.slice A5 ln c5) L) := Lib.hid (Own.high ht.2.1 (fun g e => by
      cases A5 with
      | none => cases e
      | some a => cases e; have : w1.heap.size ≤ a.block := ht.2.2.1 a rfl; omega))
    have HB2 := Lib.hid (HB1.out.trans (hb.mono HB1.out.size))
    have HA2 := Lib.hid (HA1.out.below hb)
    have HZ12 : Hid (w1.heap.size ≤ w2.heap.size) := Lib.hid hb.size
    clear ht hb eBv
    obtain ⟨w3, ew⟩ : ∃ w', w' = w2.alloc (.cells #[.int .u16 (st : Int), .int .u16 (ec : Int), .int .u64 (ak : Int), .int .u64 (th : Int), .bool has, .int .u32 (id : Int), .int .i64 ix, .int .i64 ct, .slice A5 ln c5] 29) := ⟨_, rfl⟩
    obtain ⟨g6, eg⟩ : ∃ g, g = w2.heap.size := ⟨_, rfl⟩
    have b3 : Below w2.heap.size w2 w3 := by rw [ew]; exact (Below.refl _ _).alloc (Nat.le_refl _) _
    have HX3 : Hid (D9 w3 g6 #[.int .u16 (st : Int), .int .u16 (ec : Int), .int .u64 (ak : Int), .int .u64 (th : Int), .bool has, .int .u32 (id : Int), .int .i64 ix, .int .i64 ct, .slice A5 ln c5]) := Lib.hid (by rw [ew, eg]; exact heap_alloc_new _ _)
    have HO3 := Lib.hid (Own.below HO2.out b3)
    have HA3 := Lib.hid (HA2.out.below b3)
    have HB3 := Lib.hid (HB2.out.trans (b3.mono HB2.out.size))
    have HA5 : Hid (∀ g, (Value.slice A5 ln c5).ownBlock = some g → Bv ≤ g ∧ g < g6) := Lib.hid (fun g e => by rw [eg]; exact Own.lt HO2.out g e)
    have EW3 := Lib.hid ew
    have EG6 := Lib.hid eg
    clear ew eg b3 HO2 HA2 HB2
    go_wp2_with (fail)
    rw [← EW3.out, ← EG6.out]
    refine (refGetData_c v bs A n c w3 HN.out (HR.out.below HB3.out) HC.out HM.out HL.out).mono ?_
    rintro _ w4 ⟨cs, rfl, hd, hb⟩
    rw [HE.out]
    rw [HD.out] at hd
    obtain ⟨A6, n6, c6, rfl, ht⟩ := hd
    unfold datC
    dsimp only at ht ⊢
    obtain rfl : n6 = ln := ht.1.symm.trans HLN.out
    have HT4 := Lib.hid ht.2.1
    have HX4 := Lib.hid (HX3.out.below hb (heap_lt HX3.out))
    have HO4 := Lib.hid (Own.below HO3.out hb)
    have HA4 := Lib.hid (HA3.out.below hb)
    have HB4 := Lib.hid (HB3.out.trans (hb.mono HB3.out.size))
    clear ht hb HX3 HO3 HA3 HB3
    obtain ⟨w5, ew⟩ : ∃ w', w' = w4.alloc (.cells #[.int .u16 (st : Int), .int .u16 (ec : Int), .int .u64 (ak : Int), .int .u64 (th : Int), .bool has, .int .u32 (id : Int), .int .i64 ix, .int .i64 ct, .slice A6 n6 c6] 29) := ⟨_, rfl⟩
    obtain ⟨g8, eg⟩ : ∃ g, g = w4.heap.size := ⟨_, rfl⟩
    have b5 : Below w4.heap.size w4 w5 := by rw [ew]; exact (Below.refl _ _).alloc (Nat.le_refl _) _
    have HY5 : Hid (D9 w5 g8 #[.int .u16 (st : Int), .int .u16 (ec : Int), .int .u64 (ak : Int), .int .u64 (th : Int), .bool has, .int .u32 (id : Int), .int .i64 ix, .int .i64 ct, .slice A6 n6 c6]) := Lib.hid (by rw [ew, eg]; exact heap_alloc_new _ _)
    have HT5 := Lib.hid (HT4.out.below b5)
    have HX5 := Lib.hid (HX4.out.below b5 (heap_lt HX4.out))
    have HO5 := Lib.hid (Own.below HO4.out b5)
    have HA5r := Lib.hid (HA4.out.below b5)
    have HB5 := Lib.hid (HB4.out.trans (b5.mono HB4.out.size))
    have EW5 := Lib.hid ew
    have EG8 := Lib.hid eg
    clear ew eg b5 HT4 HX4 HO4 HA4 HB4
    go_wp2_with (fail)
    rw [← EW5.out, ← EG8.out]
    refine (fixedB_c w5).mono ?_
    rintro _ w6 ⟨rfl, hb⟩
    have HT6 := Lib.hid (HT5.out.below hb)
    have HX6 := Lib.hid (HX5.out.below hb (heap_lt HX5.out))
    have HY6 := Lib.hid (HY5.out.below hb (heap_lt HY5.out))
    have HO6 := Lib.hid (Own.below HO5.out hb)
    have HA6 := Lib.hid (HA5r.out.below hb)
    have HB6 := Lib.hid (HB5.out.trans (hb.mono HB5.out.size))
    clear hb HT5 HX5 HY5 HO5 HA5r HB5
    have dE : ((E : Int) != (E : Int)) = false := by simp
    obtain ⟨x0, x1, x2, x3, x4, x5, x6, x7, x8⟩ := nine_of HX6.out
    obtain ⟨y0, y1, y2, y3, y4, y5, y6, y7, y8⟩ := nine_of HY6.out
    go_wp2_with (fail)
    clear x0 x1 x2 x3 x4 x5 x6 x7 x8 y0 y1 y2 y3 y4 y5 y6 y7 y8
    refine (SameData_t st ec ak th has id ix ct A5 A6 n6 c5 c6 L w6 HLN.out (rd_own HO6.out) HT6.out HLM.out).mono ?_
    rintro _ w7 ⟨rfl, hb⟩
    have hx7 := HX6.out.below hb (heap_lt HX6.out)
    have HO7 := Lib.hid (Own.below HO6.out hb)
    have HA7 := Lib.hid (HA6.out.below hb)
    have hb7 := HB6.out.trans (hb.mono HB6.out.size)
    have x8 : w7.cell? ⟨g6, 8, none⟩ = some (.slice A5 n6 c5) := D9.cell hx7 8 rfl
    have HX7 := Lib.hid hx7
    have HB7 := Lib.hid hb7
    have hwB : w.heap.size ≤ Bv := by rw [HBV.out]; exact HB1.out.size
    have HWB := Lib.hid hwB
    clear hb hb7 hx7 hwB HT6 HX6 HY6 HO6 HA6 HB6
    go_wp2_with (fail)
    clear x8
    have lnm2 := HLM.out
    unfold maxLen at lnm2
    go_loopw [46] (fun i wr => ∃ (j : Nat) (l : List UInt8), j ≤ n6 ∧ i = .int .i64 j ∧ Hid (OwnB wr Bv (.slice A5 n6 c5) l) ∧ Hid (Rd wr A1 (bs.map bv)) ∧ Hid (D9 wr g6 #[.int .u16 (st : Int), .int .u16 (ec : Int), .int .u64 (ak : Int), .int .u64 (th : Int), .bool has, .int .u32 (id : Int), .int .i64 ix, .int .i64 ct, .slice A5 n6 c5]) ∧ Hid (Below w.heap.size w wr)) (fun i _ => n6 - (intOf i).toNat)
    case atStart => exact ⟨0, L, Nat.zero_le _, rfl, HO7, HA7, HX7, HB7⟩
    case round =>
      clear HO7 HA7 HX7 HB7
      obtain ⟨j, l, hj, rfl, HO, HP1, HX, HB⟩ := hrel
      have x8 : wr.cell? ⟨g6, 8, none⟩ = some (.slice A5 n6 c5) := D9.cell HX.out 8 rfl
      by_cases hlt : j < n6
      · obtain ⟨g, rfl, g1, g2, hll⟩ := open_own HO.out (by omega)
        have hlt' : (j : Int) < (n6 : Int) := by omega
        have e0 := OwnB.cell HO.out j (by rw [hll]; exact hlt)
        have f0 := OwnB.free HO.out j
        obtain ⟨x, ex⟩ : ∃ x, x = (l[j]'(by rw [hll]; exact hlt)).toNat := ⟨_, rfl⟩
        unfold bv at e0
        rw [← ex] at e0
        clear ex
        have HLL := Lib.hid hll; clear hll
        have hne := (HA5.out g rfl)
        have HNE := Lib.hid hne
        clear hne
        go_wp2
        go_roundw
        case rel =>
          obtain ⟨b', eb⟩ := mod_u8 ((x : Int) + 1)
          rw [eb]
          refine ⟨j + 1, l.set j b', by omega, by go_num, Lib.hid (OwnB.set HO.out j b'), Lib.hid (HP1.out.far _ (fun a e => by have := HF1.out a e; have := HNE.out; have := HBV.out; show a.block ≠ g; omega)), Lib.hid ?_, Lib.hid (HB.out.setCell (by have := HNE.out; have := HWB.out; show w.heap.size ≤ g; omega) _)⟩
          exact (heap_far _ (by have := HNE.out; show g6 ≠ g; omega)).trans HX.out
        case measure => simp [intOf]; omega
      · obtain rfl : n6 = j := by omega
        clear HO x8
        go_wp2_with (fail)
        refine (Same_t A1 A n n c1 c bs _ HN.out HN.out HP1.out (HR.out.below HB.out) HC1.out).mono ?_
        rintro r w8 ⟨rfl, a10, rfl⟩
        have HBF := Lib.hid (below_drewN HB.out a10)
        go_wp2_with (fail)
        go_ret
        exact ⟨rfl, HBF.out⟩
end Go.Proofs.Ytcffinkkfdfcaaa
