/- Parts one behind the other: What bytes say as data in a version: body.GetData; The number whose bytes an item is, by the reference: whole; What bytes say as data, in the later versions: the first fault stays; the reference's numbers. Conditions: as told at each. -/
import Derived.Test.YtcffinkkfdfcaaaPB20
import Derived.Test.YtcffinkkfdfcaaaPB18
import Derived.Test.YtcffinkkfdfcaaaPB19
import Derived.Test.YtcffinkkfdfcaaaPB9

set_option linter.unusedVariables false
set_option linter.unusedSimpArgs false
/- What bytes say as data in a version: body.GetData. Conditions: bytes that can be read. -/
namespace Go.Proofs.Ytcffinkkfdfcaaa
open Go Go.RowKit

def getG (v : Int) (bs : List UInt8) : Nat × DataD := if v = 1 then (firE bs, firD bs) else if v = 2 ∨ v = 3 then (itmE bs, itmD bs) else (1, dzD)
/-- What bytes say as data in a version: the error; the data. -/
def getE (v : Int) (bs : List UInt8) : Nat := if (getG v bs).1 = 0 ∧ (getG v bs).2.may = false then 3 else (getG v bs).1
def getD (v : Int) (bs : List UInt8) : DataD := if getE v bs = 0 then (getG v bs).2 else dzD
/-- What is answered: data's nine cells, its bytes the call's own. -/
def DatO (ok : Nat → Prop) (w : World) (cs : Array Value) (d : DataD) : Prop := ∃ A n c, cs = datC d A n c ∧ TxtO ok w A n c d.p.bs
theorem DatO.zero (ok : Nat → Prop) (w : World) : DatO ok w #[.int .u16 0, .int .u16 0, .int .u64 0, .int .u64 0, .bool false, .int .u32 0, .int .i64 0, .int .i64 0, .slice none 0 0] dzD := ⟨none, 0, 0, rfl, TxtO.nil_ _ _⟩
theorem data_results (tmps : Array Value) (g : Nat) (t : TypeId) (cs : Array Value) (fr : Nat × Nat) (y : Int) (h2 : tmps.getD 4 undef = .pointer (some ⟨g, 0, none⟩)) (h3 : tmps.getD 5 undef = .int .i64 y) (w : World) (hg : w.heap[g]? = some (.cells cs t fr)) (hi : (Try.prog.info? 29).map (·.size) = some cs.size) :
    (results Try.f27 tmps).run Try.prog w = .ok (.tuple #[.agg cs, .int .i64 y]) w := by
  have h2' : tmps[4]?.getD undef = .pointer (some ⟨g, 0, none⟩) := by simpa using h2
  have h3' : tmps[5]?.getD undef = .int .i64 y := by simpa using h3
  simp [results, Try.results27, h2', h3', asAddr, run_loadVar_row w g t 29 cs fr _ hg Try.underlying29 rfl hi]
set_option maxRecDepth 100000 in
set_option maxHeartbeats 8000000 in
theorem GetData_c (v : Int) (bs : List UInt8) (A : Option Addr) (n c : Nat) (w : World) (hn : bs.length = n) (hr : Rd w A (bs.map bv)) (hl : n ≤ 140737488355328) :
    Calls Try.prog 27 #[.int .i64 v, .slice A n c] w fun r w' => ∃ cs, r = .returned (.tuple #[.agg cs, .int .i64 (getE v bs : Int)]) ∧ DatO (w.heap.size ≤ ·) w' cs (getD v bs) ∧ Below w.heap.size w w' := by
  have HN := Lib.hid hn
  have HL := Lib.hid hl
  obtain ⟨w1, ew1⟩ : ∃ w1, w1 = w.alloc (.cells #[.int .u16 0, .int .u16 0, .int .u64 0, .int .u64 0, .bool false, .int .u32 0, .int .i64 0, .int .i64 0, .slice none 0 0] 29) := ⟨_, rfl⟩
  obtain ⟨gr, egr⟩ : ∃ gr, gr = w.heap.size := ⟨_, rfl⟩
  have b1 : Below w.heap.size w w1 := by rw [ew1]; exact (Below.refl _ _).alloc (Nat.le_refl _) _
  have HG1 : Hid (w1.heap[gr]? = some (.cells #[.int .u16 0, .int .u16 0, .int .u64 0, .int .u64 0, .bool false, .int .u32 0, .int .i64 0, .int .i64 0, .slice none 0 0] 29 (0, 0))) := Lib.hid (by rw [ew1, egr]; exact heap_alloc_new _ _)
  have HR1 := Lib.hid (hr.below b1)
  have HB1 := Lib.hid b1
  have EW1 := Lib.hid ew1
  have EGR := Lib.hid egr
  obtain ⟨E, eE⟩ : ∃ E, getE v bs = E := ⟨_, rfl⟩
  obtain ⟨D, eD⟩ : ∃ D, getD v bs = D := ⟨_, rfl⟩
  rw [eE, eD]
  have HE := Lib.hid eE
  have HDD := Lib.hid eD
  clear ew1 egr b1 hn hr hl eE eD
  by_cases v1 : v = 1
  · subst v1
    have HGV : Hid (getG 1 bs = (firE bs, firD bs)) := Lib.hid (by unfold getG; rw [if_pos rfl])
    obtain ⟨E1, eE1⟩ : ∃ e, firE bs = e := ⟨_, rfl⟩
    obtain ⟨D1, eD1⟩ : ∃ d, firD bs = d := ⟨_, rfl⟩
    have HE1 := Lib.hid eE1
    have HD1 := Lib.hid eD1
    clear eE1 eD1
    go_enter Try.func27, Try.ntmps27
    go_upto_region 1 with (fail)
    rw [← EW1.out, ← EGR.out]
    go_wp2_with (fail)
    refine (getFirst_c bs A n c w1 HN.out HR1.out HL.out).mono ?_
    rintro _ w2 ⟨cs, rfl, hd, hb⟩
    rw [HE1.out] at hd ⊢
    rw [HD1.out] at hd
    obtain ⟨hs, ho, hd⟩ := hd
    have HG2 := Lib.hid ((hb.block gr (heap_lt HG1.out)).trans HG1.out)
    have HB2 := Lib.hid (HB1.out.trans (hb.mono HB1.out.size))
    have HGL : Hid (gr < w1.heap.size) := Lib.hid (heap_lt HG1.out)
    have HS : Hid (cs.size = 9) := Lib.hid hs
    have HSI : Hid ((Try.prog.info? 29).map (·.size) = some cs.size) := Lib.hid (by rw [hs]; exact info_dat)
    have HSZ : Hid ((#[.int .u16 0, .int .u16 0, .int .u64 0, .int .u64 0, .bool false, .int .u32 0, .int .i64 0, .int .i64 0, .slice none 0 0] : Array Value).size = cs.size) := Lib.hid (by rw [hs]; rfl)
    have HSZ2 : Hid (cs.size = (#[.int .u16 0, .int .u16 0, .int .u64 0, .int .u64 0, .bool false, .int .u32 0, .int .i64 0, .int .i64 0, .slice none 0 0] : Array Value).size) := Lib.hid (by rw [hs]; rfl)
    have HO := Lib.hid ho
    clear hs ho hb
    obtain ⟨w3, ew3⟩ : ∃ w3, w3 = w2.setRow gr cs := ⟨_, rfl⟩
    have HG3 : Hid (w3.heap[gr]? = some (.cells cs 29 (0, 0))) := Lib.hid (by rw [ew3]; exact setRow_heap w2 gr _ _ _ _ HG2.out)
    have HB3 : Hid (Below w.heap.size w w3) := Lib.hid (by rw [ew3]; exact below_setRow (g := gr) HB2.out (Nat.le_of_eq EGR.out.symm) cs)
    have HK3 : Hid (Keeps (fun j => j = gr) w2 w3) := Lib.hid (by rw [ew3]; exact (Zg.row HG2.out).1)
    have EW3 := Lib.hid ew3
    clear ew3
    by_cases h0 : E1 = 0
    · obtain ⟨A9, n9, c9, rfl, ht⟩ := hd h0
      have d0 : ((E1 : Int) == 0) = true := by rw [h0]; rfl
      have H0 := Lib.hid h0
      obtain ⟨st, ec, ak, th, has, ⟨id, ix, ct, bl⟩⟩ := D1
      unfold datC at *
      dsimp only at *
      have hn9 : bl.length = n9 := ht.1
      have HT3 : Hid (TxtO (w1.heap.size ≤ ·) w3 A9 n9 c9 bl) := Lib.hid (ht.frame (fun j hj hl => HK3.out.block j hl (by have : w1.heap.size ≤ j := hj; have := HGL.out; omega)))
      have HN9 := Lib.hid hn9
      clear ht hd h0 hn9
      go_upto_region 8 with (first
        | (refine wpList_store_row rfl 29 (.tmp 4) (.tmp 12) rfl gr #[.int .u16 (st : Int), .int .u16 (ec : Int), .int .u64 (ak : Int), .int .u64 (th : Int), .bool has, .int .u32 (id : Int), .int .i64 ix, .int .i64 ct, .slice A9 n9 c9] rfl rfl 29 _ HG2.out HSI.out HSZ.out HO.out ?_))
      rw [← EW3.out]
      go_wp2_with (first
        | ((with_reducible refine wpList_open (o := ⟨some 25, _, _, _, _, _⟩) rfl ?_); refine wpList_load_row rfl 29 (.tmp 4) rfl gr rfl 29 #[.int .u16 (st : Int), .int .u16 (ec : Int), .int .u64 (ak : Int), .int .u64 (th : Int), .bool has, .int .u32 (id : Int), .int .i64 ix, .int .i64 ct, .slice A9 n9 c9] (0, 0) _ HG3.out Try.underlying29 rfl HSI.out ?_))
      refine (dataMay_c st ec ak th has id ix ct A9 n9 c9 w3).mono ?_
      rintro _ w4 ⟨rfl, hb⟩
      obtain ⟨M, eM⟩ : ∃ M, dataB has id ix ct n9 = M := ⟨_, rfl⟩
      rw [eM]
      have HM : Hid ((⟨st, ec, ak, th, has, ⟨id, ix, ct, bl⟩⟩ : DataD).may = M) := Lib.hid (by unfold DataD.may; dsimp only; rw [HN9.out, eM])
      have HG4 := Lib.hid ((hb.block gr (heap_lt HG3.out)).trans HG3.out)
      have HB4 := Lib.hid (HB3.out.trans (hb.mono HB3.out.size))
      have HT4 := Lib.hid (HT3.out.frame (w' := w4) (fun j hj hl => hb.block j hl))
      clear eM hb
      have hg1 : (getG 1 bs).1 = 0 := by rw [HGV.out, HE1.out]; exact H0.out
      have hg2 : (getG 1 bs).2 = ⟨st, ec, ak, th, has, ⟨id, ix, ct, bl⟩⟩ := by rw [HGV.out, HD1.out]
      cases M with
      | false =>
        have hE : E = 3 := by rw [← HE.out, getE, if_pos ⟨hg1, by rw [hg2]; exact HM.out⟩]
        have EE := Lib.hid hE
        have ED : Hid (D = dzD) := Lib.hid (by rw [← HDD.out, getD, if_neg (by rw [HE.out, hE]; decide)])
        clear hE hg1 hg2
        go_wp2_with (first
          | (refine wpList_store_row rfl 29 (.tmp 4) (.tmp 31) rfl gr #[.int .u16 0, .int .u16 0, .int .u64 0, .int .u64 0, .bool false, .int .u32 0, .int .i64 0, .int .i64 0, .slice none 0 0] rfl rfl 29 _ HG4.out info_dat rfl zd_one ?_))
        have HBF := Lib.hid (below_setRow (g := gr) HB4.out (Nat.le_of_eq EGR.out.symm) #[.int .u16 0, .int .u16 0, .int .u64 0, .int .u64 0, .bool false, .int .u32 0, .int .i64 0, .int .i64 0, .slice none 0 0])
        refine bodyPost_ret (v := .tuple #[.agg #[.int .u16 0, .int .u16 0, .int .u64 0, .int .u64 0, .bool false, .int .u32 0, .int .i64 0, .int .i64 0, .slice none 0 0], .int .i64 (3 : Int)]) (data_results _ gr 29 _ (0, 0) (3 : Int) rfl rfl _ (setRow_heap w4 gr _ _ _ _ HG4.out) info_dat) rfl ?_
        rw [EE.out, ED.out]
        exact ⟨_, rfl, DatO.zero _ _, HBF.out⟩
      | true =>
        have hE : E = 0 := by rw [← HE.out, getE, if_neg (fun q => by rw [hg2, HM.out] at q; cases q.2), hg1]
        have ED : Hid (D = ⟨st, ec, ak, th, has, ⟨id, ix, ct, bl⟩⟩) := Lib.hid (by rw [← HDD.out, getD, if_pos (HE.out.trans hE), hg2])
        have EE := Lib.hid hE
        have dne : ((E1 : Int) != 0) = false := by rw [H0.out]; rfl
        clear hE hg1 hg2
        go_wp2_with (first
          | (refine wpList_load_row rfl 29 (.tmp 4) rfl gr rfl 29 #[.int .u16 (st : Int), .int .u16 (ec : Int), .int .u64 (ak : Int), .int .u64 (th : Int), .bool has, .int .u32 (id : Int), .int .i64 ix, .int .i64 ct, .slice A9 n9 c9] (0, 0) _ HG4.out Try.underlying29 rfl HSI.out ?_)
          | (refine wpList_store_row rfl 29 (.tmp 4) (.tmp 33) rfl gr #[.int .u16 (st : Int), .int .u16 (ec : Int), .int .u64 (ak : Int), .int .u64 (th : Int), .bool has, .int .u32 (id : Int), .int .i64 ix, .int .i64 ct, .slice A9 n9 c9] rfl rfl 29 _ HG4.out HSI.out rfl HO.out ?_))
        have HBF := Lib.hid (below_setRow (g := gr) HB4.out (Nat.le_of_eq EGR.out.symm) #[.int .u16 (st : Int), .int .u16 (ec : Int), .int .u64 (ak : Int), .int .u64 (th : Int), .bool has, .int .u32 (id : Int), .int .i64 ix, .int .i64 ct, .slice A9 n9 c9])
        refine bodyPost_ret (v := .tuple #[.agg #[.int .u16 (st : Int), .int .u16 (ec : Int), .int .u64 (ak : Int), .int .u64 (th : Int), .bool has, .int .u32 (id : Int), .int .i64 ix, .int .i64 ct, .slice A9 n9 c9], .int .i64 0]) (data_results _ gr 29 _ (0, 0) 0 rfl rfl _ (setRow_heap w4 gr _ _ _ _ HG4.out) HSI.out) rfl ?_
        rw [EE.out, ED.out]
        refine ⟨_, rfl, ⟨A9, n9, c9, rfl, ?_⟩, HBF.out⟩
        refine (HT4.out.frame (fun j hj hl => setRow_other w4 gr j #[.int .u16 (st : Int), .int .u16 (ec : Int), .int .u64 (ak : Int), .int .u64 (th : Int), .bool has, .int .u32 (id : Int), .int .i64 ix, .int .i64 ct, .slice A9 n9 c9] (by have : w1.heap.size ≤ j := hj; have := HGL.out; omega))).weak (fun j hj _ => ?_)
        have h1 : w1.heap.size ≤ j := hj
        have h2 := HB1.out.size
        show w.heap.size ≤ j
        omega
    · have d0 : ((E1 : Int) == 0) = false := by rw [beq_eq_false_iff_ne]; omega
      have dne : ((E1 : Int) != 0) = true := by rw [bne_iff_ne]; omega
      have hE : E = E1 := by rw [← HE.out, getE, HGV.out, if_neg (fun q => h0 (HE1.out.symm.trans q.1))]; exact HE1.out
      have EE := Lib.hid hE
      have ED : Hid (D = dzD) := Lib.hid (by rw [← HDD.out, getD, if_neg (by rw [HE.out, hE]; exact h0)])
      clear hE h0 hd
      go_upto_region 8 with (first
        | (refine wpList_store_row rfl 29 (.tmp 4) (.tmp 12) rfl gr cs rfl rfl 29 _ HG2.out HSI.out HSZ.out HO.out ?_))
      rw [← EW3.out]
      go_wp2_with (first
        | (refine wpList_store_row rfl 29 (.tmp 4) (.tmp 31) rfl gr #[.int .u16 0, .int .u16 0, .int .u64 0, .int .u64 0, .bool false, .int .u32 0, .int .i64 0, .int .i64 0, .slice none 0 0] rfl rfl 29 _ HG3.out info_dat HSZ2.out zd_one ?_))
      have HBF := Lib.hid (below_setRow (g := gr) HB3.out (Nat.le_of_eq EGR.out.symm) #[.int .u16 0, .int .u16 0, .int .u64 0, .int .u64 0, .bool false, .int .u32 0, .int .i64 0, .int .i64 0, .slice none 0 0])
      refine bodyPost_ret (v := .tuple #[.agg #[.int .u16 0, .int .u16 0, .int .u64 0, .int .u64 0, .bool false, .int .u32 0, .int .i64 0, .int .i64 0, .slice none 0 0], .int .i64 (E1 : Int)]) (data_results _ gr 29 _ (0, 0) (E1 : Int) rfl rfl _ (setRow_heap w3 gr _ _ _ _ HG3.out) info_dat) rfl ?_
      rw [EE.out, ED.out]
      exact ⟨_, rfl, DatO.zero _ _, HBF.out⟩
  · by_cases v2 : v = 2
    · subst v2
      clear v1
      have HGV : Hid (getG 2 bs = (itmE bs, itmD bs)) := Lib.hid (by unfold getG; rw [if_neg (by decide), if_pos (by decide)])
      obtain ⟨E1, eE1⟩ : ∃ e, itmE bs = e := ⟨_, rfl⟩
      obtain ⟨D1, eD1⟩ : ∃ d, itmD bs = d := ⟨_, rfl⟩
      have HE1 := Lib.hid eE1
      have HD1 := Lib.hid eD1
      clear eE1 eD1
      go_enter Try.func27, Try.ntmps27
      go_upto_region 1 with (fail)
      rw [← EW1.out, ← EGR.out]
      go_wp2_with (fail)
      refine (getItems_c bs A n c w1 HN.out HR1.out HL.out).mono ?_
      rintro _ w2 ⟨cs, rfl, hd, hb⟩
      rw [HE1.out] at hd ⊢
      rw [HD1.out] at hd
      obtain ⟨hs, ho, hd⟩ := hd
      have HG2 := Lib.hid ((hb.block gr (heap_lt HG1.out)).trans HG1.out)
      have HB2 := Lib.hid (HB1.out.trans (hb.mono HB1.out.size))
      have HGL : Hid (gr < w1.heap.size) := Lib.hid (heap_lt HG1.out)
      have HS : Hid (cs.size = 9) := Lib.hid hs
      have HSI : Hid ((Try.prog.info? 29).map (·.size) = some cs.size) := Lib.hid (by rw [hs]; exact info_dat)
      have HSZ : Hid ((#[.int .u16 0, .int .u16 0, .int .u64 0, .int .u64 0, .bool false, .int .u32 0, .int .i64 0, .int .i64 0, .slice none 0 0] : Array Value).size = cs.size) := Lib.hid (by rw [hs]; rfl)
      have HSZ2 : Hid (cs.size = (#[.int .u16 0, .int .u16 0, .int .u64 0, .int .u64 0, .bool false, .int .u32 0, .int .i64 0, .int .i64 0, .slice none 0 0] : Array Value).size) := Lib.hid (by rw [hs]; rfl)
      have HO := Lib.hid ho
      clear hs ho hb
      obtain ⟨w3, ew3⟩ : ∃ w3, w3 = w2.setRow gr cs := ⟨_, rfl⟩
      have HG3 : Hid (w3.heap[gr]? = some (.cells cs 29 (0, 0))) := Lib.hid (by rw [ew3]; exact setRow_heap w2 gr _ _ _ _ HG2.out)
      have HB3 : Hid (Below w.heap.size w w3) := Lib.hid (by rw [ew3]; exact below_setRow (g := gr) HB2.out (Nat.le_of_eq EGR.out.symm) cs)
      have HK3 : Hid (Keeps (fun j => j = gr) w2 w3) := Lib.hid (by rw [ew3]; exact (Zg.row HG2.out).1)
      have EW3 := Lib.hid ew3
      clear ew3
      by_cases h0 : E1 = 0
      · obtain ⟨A9, n9, c9, rfl, ht⟩ := hd h0
        have d0 : ((E1 : Int) == 0) = true := by rw [h0]; rfl
        have H0 := Lib.hid h0
        obtain ⟨st, ec, ak, th, has, ⟨id, ix, ct, bl⟩⟩ := D1
        unfold datC at *
        dsimp only at *
        have hn9 : bl.length = n9 := ht.1
        have HT3 : Hid (TxtO (w1.heap.size ≤ ·) w3 A9 n9 c9 bl) := Lib.hid (ht.frame (fun j hj hl => HK3.out.block j hl (by have : w1.heap.size ≤ j := hj; have := HGL.out; omega)))
        have HN9 := Lib.hid hn9
        clear ht hd h0 hn9
        go_upto_region 8 with (first
          | (refine wpList_store_row rfl 29 (.tmp 4) (.tmp 20) rfl gr #[.int .u16 (st : Int), .int .u16 (ec : Int), .int .u64 (ak : Int), .int .u64 (th : Int), .bool has, .int .u32 (id : Int), .int .i64 ix, .int .i64 ct, .slice A9 n9 c9] rfl rfl 29 _ HG2.out HSI.out HSZ.out HO.out ?_))
        rw [← EW3.out]
        go_wp2_with (first
          | ((with_reducible refine wpList_open (o := ⟨some 25, _, _, _, _, _⟩) rfl ?_); refine wpList_load_row rfl 29 (.tmp 4) rfl gr rfl 29 #[.int .u16 (st : Int), .int .u16 (ec : Int), .int .u64 (ak : Int), .int .u64 (th : Int), .bool has, .int .u32 (id : Int), .int .i64 ix, .int .i64 ct, .slice A9 n9 c9] (0, 0) _ HG3.out Try.underlying29 rfl HSI.out ?_))
        refine (dataMay_c st ec ak th has id ix ct A9 n9 c9 w3).mono ?_
        rintro _ w4 ⟨rfl, hb⟩
        obtain ⟨M, eM⟩ : ∃ M, dataB has id ix ct n9 = M := ⟨_, rfl⟩
        rw [eM]
        have HM : Hid ((⟨st, ec, ak, th, has, ⟨id, ix, ct, bl⟩⟩ : DataD).may = M) := Lib.hid (by unfold DataD.may; dsimp only; rw [HN9.out, eM])
        have HG4 := Lib.hid ((hb.block gr (heap_lt HG3.out)).trans HG3.out)
        have HB4 := Lib.hid (HB3.out.trans (hb.mono HB3.out.size))
        have HT4 := Lib.hid (HT3.out.frame (w' := w4) (fun j hj hl => hb.block j hl))
        clear eM hb
        have hg1 : (getG 2 bs).1 = 0 := by rw [HGV.out, HE1.out]; exact H0.out
        have hg2 : (getG 2 bs).2 = ⟨st, ec, ak, th, has, ⟨id, ix, ct, bl⟩⟩ := by rw [HGV.out, HD1.out]
        cases M with
        | false =>
          have hE : E = 3 := by rw [← HE.out, getE, if_pos ⟨hg1, by rw [hg2]; exact HM.out⟩]
          have EE := Lib.hid hE
          have ED : Hid (D = dzD) := Lib.hid (by rw [← HDD.out, getD, if_neg (by rw [HE.out, hE]; decide)])
          clear hE hg1 hg2
          go_wp2_with (first
            | (refine wpList_store_row rfl 29 (.tmp 4) (.tmp 31) rfl gr #[.int .u16 0, .int .u16 0, .int .u64 0, .int .u64 0, .bool false, .int .u32 0, .int .i64 0, .int .i64 0, .slice none 0 0] rfl rfl 29 _ HG4.out info_dat rfl zd_one ?_))
          have HBF := Lib.hid (below_setRow (g := gr) HB4.out (Nat.le_of_eq EGR.out.symm) #[.int .u16 0, .int .u16 0, .int .u64 0, .int .u64 0, .bool false, .int .u32 0, .int .i64 0, .int .i64 0, .slice none 0 0])
          refine bodyPost_ret (v := .tuple #[.agg #[.int .u16 0, .int .u16 0, .int .u64 0, .int .u64 0, .bool false, .int .u32 0, .int .i64 0, .int .i64 0, .slice none 0 0], .int .i64 (3 : Int)]) (data_results _ gr 29 _ (0, 0) (3 : Int) rfl rfl _ (setRow_heap w4 gr _ _ _ _ HG4.out) info_dat) rfl ?_
          rw [EE.out, ED.out]
          exact ⟨_, rfl, DatO.zero _ _, HBF.out⟩
        | true =>
          have hE : E = 0 := by rw [← HE.out, getE, if_neg (fun q => by rw [hg2, HM.out] at q; cases q.2), hg1]
          have ED : Hid (D = ⟨st, ec, ak, th, has, ⟨id, ix, ct, bl⟩⟩) := Lib.hid (by rw [← HDD.out, getD, if_pos (HE.out.trans hE), hg2])
          have EE := Lib.hid hE
          have dne : ((E1 : Int) != 0) = false := by rw [H0.out]; rfl
          clear hE hg1 hg2
          go_wp2_with (first
            | (refine wpList_load_row rfl 29 (.tmp 4) rfl gr rfl 29 #[.int .u16 (st : Int), .int .u16 (ec : Int), .int .u64 (ak : Int), .int .u64 (th : Int), .bool has, .int .u32 (id : Int), .int .i64 ix, .int .i64 ct, .slice A9 n9 c9] (0, 0) _ HG4.out Try.underlying29 rfl HSI.out ?_)
            | (refine wpList_store_row rfl 29 (.tmp 4) (.tmp 33) rfl gr #[.int .u16 (st : Int), .int .u16 (ec : Int), .int .u64 (ak : Int), .int .u64 (th : Int), .bool has, .int .u32 (id : Int), .int .i64 ix, .int .i64 ct, .slice A9 n9 c9] rfl rfl 29 _ HG4.out HSI.out rfl HO.out ?_))
          have HBF := Lib.hid (below_setRow (g := gr) HB4.out (Nat.le_of_eq EGR.out.symm) #[.int .u16 (st : Int), .int .u16 (ec : Int), .int .u64 (ak : Int), .int .u64 (th : Int), .bool has, .int .u32 (id : Int), .int .i64 ix, .int .i64 ct, .slice A9 n9 c9])
          refine bodyPost_ret (v := .tuple #[.agg #[.int .u16 (st : Int), .int .u16 (ec : Int), .int .u64 (ak : Int), .int .u64 (th : Int), .bool has, .int .u32 (id : Int), .int .i64 ix, .int .i64 ct, .slice A9 n9 c9], .int .i64 0]) (data_results _ gr 29 _ (0, 0) 0 rfl rfl _ (setRow_heap w4 gr _ _ _ _ HG4.out) HSI.out) rfl ?_
          rw [EE.out, ED.out]
          refine ⟨_, rfl, ⟨A9, n9, c9, rfl, ?_⟩, HBF.out⟩
          refine (HT4.out.frame (fun j hj hl => setRow_other w4 gr j #[.int .u16 (st : Int), .int .u16 (ec : Int), .int .u64 (ak : Int), .int .u64 (th : Int), .bool has, .int .u32 (id : Int), .int .i64 ix, .int .i64 ct, .slice A9 n9 c9] (by have : w1.heap.size ≤ j := hj; have := HGL.out; omega))).weak (fun j hj _ => ?_)
          have h1 : w1.heap.size ≤ j := hj
          have h2 := HB1.out.size
          show w.heap.size ≤ j
          omega
      · have d0 : ((E1 : Int) == 0) = false := by rw [beq_eq_false_iff_ne]; omega
        have dne : ((E1 : Int) != 0) = true := by rw [bne_iff_ne]; omega
        have hE : E = E1 := by rw [← HE.out, getE, HGV.out, if_neg (fun q => h0 (HE1.out.symm.trans q.1))]; exact HE1.out
        have EE := Lib.hid hE
        have ED : Hid (D = dzD) := Lib.hid (by rw [← HDD.out, getD, if_neg (by rw [HE.out, hE]; exact h0)])
        clear hE h0 hd
        go_upto_region 8 with (first
          | (refine wpList_store_row rfl 29 (.tmp 4) (.tmp 20) rfl gr cs rfl rfl 29 _ HG2.out HSI.out HSZ.out HO.out ?_))
        rw [← EW3.out]
        go_wp2_with (first
          | (refine wpList_store_row rfl 29 (.tmp 4) (.tmp 31) rfl gr #[.int .u16 0, .int .u16 0, .int .u64 0, .int .u64 0, .bool false, .int .u32 0, .int .i64 0, .int .i64 0, .slice none 0 0] rfl rfl 29 _ HG3.out info_dat HSZ2.out zd_one ?_))
        have HBF := Lib.hid (below_setRow (g := gr) HB3.out (Nat.le_of_eq EGR.out.symm) #[.int .u16 0, .int .u16 0, .int .u64 0, .int .u64 0, .bool false, .int .u32 0, .int .i64 0, .int .i64 0, .slice none 0 0])
        refine bodyPost_ret (v := .tuple #[.agg #[.int .u16 0, .int .u16 0, .int .u64 0, .int .u64 0, .bool false, .int .u32 0, .int .i64 0, .int .i64 0, .slice none 0 0], .int .i64 (E1 : Int)]) (data_results _ gr 29 _ (0, 0) (E1 : Int) rfl rfl _ (setRow_heap w3 gr _ _ _ _ HG3.out) info_dat) rfl ?_
        rw [EE.out, ED.out]
        exact ⟨_, rfl, DatO.zero _ _, HBF.out⟩
    · by_cases v3 : v = 3
      · subst v3
        clear v1 v2
        have HGV : Hid (getG 3 bs = (itmE bs, itmD bs)) := Lib.hid (by unfold getG; rw [if_neg (by decide), if_pos (by decide)])
        obtain ⟨E1, eE1⟩ : ∃ e, itmE bs = e := ⟨_, rfl⟩
        obtain ⟨D1, eD1⟩ : ∃ d, itmD bs = d := ⟨_, rfl⟩
        have HE1 := Lib.hid eE1
        have HD1 := Lib.hid eD1
        clear eE1 eD1
        go_enter Try.func27, Try.ntmps27
        go_upto_region 1 with (fail)
        rw [← EW1.out, ← EGR.out]
        go_wp2_with (fail)
        refine (getItems_c bs A n c w1 HN.out HR1.out HL.out).mono ?_
        rintro _ w2 ⟨cs, rfl, hd, hb⟩
        rw [HE1.out] at hd ⊢
        rw [HD1.out] at hd
        obtain ⟨hs, ho, hd⟩ := hd
        have HG2 := Lib.hid ((hb.block gr (heap_lt HG1.out)).trans HG1.out)
        have HB2 := Lib.hid (HB1.out.trans (hb.mono HB1.out.size))
        have HGL : Hid (gr < w1.heap.size) := Lib.hid (heap_lt HG1.out)
        have HS : Hid (cs.size = 9) := Lib.hid hs
        have HSI : Hid ((Try.prog.info? 29).map (·.size) = some cs.size) := Lib.hid (by rw [hs]; exact info_dat)
        have HSZ : Hid ((#[.int .u16 0, .int .u16 0, .int .u64 0, .int .u64 0, .bool false, .int .u32 0, .int .i64 0, .int .i64 0, .slice none 0 0] : Array Value).size = cs.size) := Lib.hid (by rw [hs]; rfl)
        have HSZ2 : Hid (cs.size = (#[.int .u16 0, .int .u16 0, .int .u64 0, .int .u64 0, .bool false, .int .u32 0, .int .i64 0, .int .i64 0, .slice none 0 0] : Array Value).size) := Lib.hid (by rw [hs]; rfl)
        have HO := Lib.hid ho
        clear hs ho hb
        obtain ⟨w3, ew3⟩ : ∃ w3, w3 = w2.setRow gr cs := ⟨_, rfl⟩
        have HG3 : Hid (w3.heap[gr]? = some (.cells cs 29 (0, 0))) := Lib.hid (by rw [ew3]; exact setRow_heap w2 gr _ _ _ _ HG2.out)
        have HB3 : Hid (Below w.heap.size w w3) := Lib.hid (by rw [ew3]; exact below_setRow (g := gr) HB2.out (Nat.le_of_eq EGR.out.symm) cs)
        have HK3 : Hid (Keeps (fun j => j = gr) w2 w3) := Lib.hid (by rw [ew3]; exact (Zg.row HG2.out).1)
        have EW3 := Lib.hid ew3
        clear ew3
        by_cases h0 : E1 = 0
        · obtain ⟨A9, n9, c9, rfl, ht⟩ := hd h0
          have d0 : ((E1 : Int) == 0) = true := by rw [h0]; rfl
          have H0 := Lib.hid h0
          obtain ⟨st, ec, ak, th, has, ⟨id, ix, ct, bl⟩⟩ := D1
          unfold datC at *
          dsimp only at *
          have hn9 : bl.length = n9 := ht.1
          have HT3 : Hid (TxtO (w1.heap.size ≤ ·) w3 A9 n9 c9 bl) := Lib.hid (ht.frame (fun j hj hl => HK3.out.block j hl (by have : w1.heap.size ≤ j := hj; have := HGL.out; omega)))
          have HN9 := Lib.hid hn9
          clear ht hd h0 hn9
          go_upto_region 8 with (first
            | (refine wpList_store_row rfl 29 (.tmp 4) (.tmp 20) rfl gr #[.int .u16 (st : Int), .int .u16 (ec : Int), .int .u64 (ak : Int), .int .u64 (th : Int), .bool has, .int .u32 (id : Int), .int .i64 ix, .int .i64 ct, .slice A9 n9 c9] rfl rfl 29 _ HG2.out HSI.out HSZ.out HO.out ?_))
          rw [← EW3.out]
          go_wp2_with (first
            | ((with_reducible refine wpList_open (o := ⟨some 25, _, _, _, _, _⟩) rfl ?_); refine wpList_load_row rfl 29 (.tmp 4) rfl gr rfl 29 #[.int .u16 (st : Int), .int .u16 (ec : Int), .int .u64 (ak : Int), .int .u64 (th : Int), .bool has, .int .u32 (id : Int), .int .i64 ix, .int .i64 ct, .slice A9 n9 c9] (0, 0) _ HG3.out Try.underlying29 rfl HSI.out ?_))
          refine (dataMay_c st ec ak th has id ix ct A9 n9 c9 w3).mono ?_
          rintro _ w4 ⟨rfl, hb⟩
          obtain ⟨M, eM⟩ : ∃ M, dataB has id ix ct n9 = M := ⟨_, rfl⟩
          rw [eM]
          have HM : Hid ((⟨st, ec, ak, th, has, ⟨id, ix, ct, bl⟩⟩ : DataD).may = M) := Lib.hid (by unfold DataD.may; dsimp only; rw [HN9.out, eM])
          have HG4 := Lib.hid ((hb.block gr (heap_lt HG3.out)).trans HG3.out)
          have HB4 := Lib.hid (HB3.out.trans (hb.mono HB3.out.size))
          have HT4 := Lib.hid (HT3.out.frame (w' := w4) (fun j hj hl => hb.block j hl))
          clear eM hb
          have hg1 : (getG 3 bs).1 = 0 := by rw [HGV.out, HE1.out]; exact H0.out
          have hg2 : (getG 3 bs).2 = ⟨st, ec, ak, th, has, ⟨id, ix, ct, bl⟩⟩ := by rw [HGV.out, HD1.out]
          cases M with
          | false =>
            have hE : E = 3 := by rw [← HE.out, getE, if_pos ⟨hg1, by rw [hg2]; exact HM.out⟩]
            have EE := Lib.hid hE
            have ED : Hid (D = dzD) := Lib.hid (by rw [← HDD.out, getD, if_neg (by rw [HE.out, hE]; decide)])
            clear hE hg1 hg2
            go_wp2_with (first
              | (refine wpList_store_row rfl 29 (.tmp 4) (.tmp 31) rfl gr #[.int .u16 0, .int .u16 0, .int .u64 0, .int .u64 0, .bool false, .int .u32 0, .int .i64 0, .int .i64 0, .slice none 0 0] rfl rfl 29 _ HG4.out info_dat rfl zd_one ?_))
            have HBF := Lib.hid (below_setRow (g := gr) HB4.out (Nat.le_of_eq EGR.out.symm) #[.int .u16 0, .int .u16 0, .int .u64 0, .int .u64 0, .bool false, .int .u32 0, .int .i64 0, .int .i64 0, .slice none 0 0])
            refine bodyPost_ret (v := .tuple #[.agg #[.int .u16 0, .int .u16 0, .int .u64 0, .int .u64 0, .bool false, .int .u32 0, .int .i64 0, .int .i64 0, .slice none 0 0], .int .i64 (3 : Int)]) (data_results _ gr 29 _ (0, 0) (3 : Int) rfl rfl _ (setRow_heap w4 gr _ _ _ _ HG4.out) info_dat) rfl ?_
            rw [EE.out, ED.out]
            exact ⟨_, rfl, DatO.zero _ _, HBF.out⟩
          | true =>
            have hE : E = 0 := by rw [← HE.out, getE, if_neg (fun q => by rw [hg2, HM.out] at q; cases q.2), hg1]
            have ED : Hid (D = ⟨st, ec, ak, th, has, ⟨id, ix, ct, bl⟩⟩) := Lib.hid (by rw [← HDD.out, getD, if_pos (HE.out.trans hE), hg2])
            have EE := Lib.hid hE
            have dne : ((E1 : Int) != 0) = false := by rw [H0.out]; rfl
            clear hE hg1 hg2
            go_wp2_with (first
              | (refine wpList_load_row rfl 29 (.tmp 4) rfl gr rfl 29 #[.int .u16 (st : Int), .int .u16 (ec : Int), .int .u64 (ak : Int), .int .u64 (th : Int), .bool has, .int .u32 (id : Int), .int .i64 ix, .int .i64 ct, .slice A9 n9 c9] (0, 0) _ HG4.out Try.underlying29 rfl HSI.out ?_)
              | (refine wpList_store_row rfl 29 (.tmp 4) (.tmp 33) rfl gr #[.int .u16 (st : Int), .int .u16 (ec : Int), .int .u64 (ak : Int), .int .u64 (th : Int), .bool has, .int .u32 (id : Int), .int .i64 ix, .int .i64 ct, .slice A9 n9 c9] rfl rfl 29 _ HG4.out HSI.out rfl HO.out ?_))
            have HBF := Lib.hid (below_setRow (g := gr) HB4.out (Nat.le_of_eq EGR.out.symm) #[.int .u16 (st : Int), .int .u16 (ec : Int), .int .u64 (ak : Int), .int .u64 (th : Int), .bool has, .int .u32 (id : Int), .int .i64 ix, .int .i64 ct, .slice A9 n9 c9])
            refine bodyPost_ret (v := .tuple #[.agg #[.int .u16 (st : Int), .int .u16 (ec : Int), .int .u64 (ak : Int), .int .u64 (th : Int), .bool has, .int .u32 (id : Int), .int .i64 ix, .int .i64 ct, .slice A9 n9 c9], .int .i64 0]) (data_results _ gr 29 _ (0, 0) 0 rfl rfl _ (setRow_heap w4 gr _ _ _ _ HG4.out) HSI.out) rfl ?_
            rw [EE.out, ED.out]
            refine ⟨_, rfl, ⟨A9, n9, c9, rfl, ?_⟩, HBF.out⟩
            refine (HT4.out.frame (fun j hj hl => setRow_other w4 gr j #[.int .u16 (st : Int), .int .u16 (ec : Int), .int .u64 (ak : Int), .int .u64 (th : Int), .bool has, .int .u32 (id : Int), .int .i64 ix, .int .i64 ct, .slice A9 n9 c9] (by have : w1.heap.size ≤ j := hj; have := HGL.out; omega))).weak (fun j hj _ => ?_)
            have h1 : w1.heap.size ≤ j := hj
            have h2 := HB1.out.size
            show w.heap.size ≤ j
            omega
        · have d0 : ((E1 : Int) == 0) = false := by rw [beq_eq_false_iff_ne]; omega
          have dne : ((E1 : Int) != 0) = true := by rw [bne_iff_ne]; omega
          have hE : E = E1 := by rw [← HE.out, getE, HGV.out, if_neg (fun q => h0 (HE1.out.symm.trans q.1))]; exact HE1.out
          have EE := Lib.hid hE
          have ED : Hid (D = dzD) := Lib.hid (by rw [← HDD.out, getD, if_neg (by rw [HE.out, hE]; exact h0)])
          clear hE h0 hd
          go_upto_region 8 with (first
            | (refine wpList_store_row rfl 29 (.tmp 4) (.tmp 20) rfl gr cs rfl rfl 29 _ HG2.out HSI.out HSZ.out HO.out ?_))
          rw [← EW3.out]
          go_wp2_with (first
            | (refine wpList_store_row rfl 29 (.tmp 4) (.tmp 31) rfl gr #[.int .u16 0, .int .u16 0, .int .u64 0, .int .u64 0, .bool false, .int .u32 0, .int .i64 0, .int .i64 0, .slice none 0 0] rfl rfl 29 _ HG3.out info_dat HSZ2.out zd_one ?_))
          have HBF := Lib.hid (below_setRow (g := gr) HB3.out (Nat.le_of_eq EGR.out.symm) #[.int .u16 0, .int .u16 0, .int .u64 0, .int .u64 0, .bool false, .int .u32 0, .int .i64 0, .int .i64 0, .slice none 0 0])
          refine bodyPost_ret (v := .tuple #[.agg #[.int .u16 0, .int .u16 0, .int .u64 0, .int .u64 0, .bool false, .int .u32 0, .int .i64 0, .int .i64 0, .slice none 0 0], .int .i64 (E1 : Int)]) (data_results _ gr 29 _ (0, 0) (E1 : Int) rfl rfl _ (setRow_heap w3 gr _ _ _ _ HG3.out) info_dat) rfl ?_
          rw [EE.out, ED.out]
          exact ⟨_, rfl, DatO.zero _ _, HBF.out⟩
      · have d1 : (v == 1) = false := by rw [beq_eq_false_iff_ne]; exact v1
        have d2 : (v == 2) = false := by rw [beq_eq_false_iff_ne]; exact v2
        have d3 : (v == 3) = false := by rw [beq_eq_false_iff_ne]; exact v3
        have hG : getG v bs = (1, dzD) := by unfold getG; rw [if_neg v1, if_neg (by rintro (q | q); exact v2 q; exact v3 q)]
        have hE : E = 1 := by rw [← HE.out, getE, hG, if_neg (fun q => by cases q.1)]
        have EE := Lib.hid hE
        have ED : Hid (D = dzD) := Lib.hid (by rw [← HDD.out, getD, if_neg (by rw [HE.out, hE]; decide)])
        clear v1 v2 v3 hG hE
        go_enter Try.func27, Try.ntmps27
        go_upto_region 1 with (fail)
        rw [← EW1.out, ← EGR.out]
        go_wp2_with (first
          | (refine wpList_store_row rfl 29 (.tmp 4) (.tmp 31) rfl gr #[.int .u16 0, .int .u16 0, .int .u64 0, .int .u64 0, .bool false, .int .u32 0, .int .i64 0, .int .i64 0, .slice none 0 0] rfl rfl 29 _ HG1.out info_dat rfl zd_one ?_))
        have HBF := Lib.hid (below_setRow (g := gr) HB1.out (Nat.le_of_eq EGR.out.symm) #[.int .u16 0, .int .u16 0, .int .u64 0, .int .u64 0, .bool false, .int .u32 0, .int .i64 0, .int .i64 0, .slice none 0 0])
        refine bodyPost_ret (v := .tuple #[.agg #[.int .u16 0, .int .u16 0, .int .u64 0, .int .u64 0, .bool false, .int .u32 0, .int .i64 0, .int .i64 0, .slice none 0 0], .int .i64 (1 : Int)]) (data_results _ gr 29 _ (0, 0) (1 : Int) rfl rfl _ (setRow_heap w1 gr _ _ _ _ HG1.out) info_dat) rfl ?_
        rw [EE.out, ED.out]
        exact ⟨_, rfl, DatO.zero _ _, HBF.out⟩
end Go.Proofs.Ytcffinkkfdfcaaa

/- The number whose bytes an item is, by the reference: whole. Conditions: an item that can be read. -/
namespace Go.Proofs.Ytcffinkkfdfcaaa
open Go Go.RowKit

def whN (I : Fo) : Nat := (varR ⟨itB I, 0, 0, none⟩).1
def whB (I : Fo) : Bool := !itL I && decide (endR (varR ⟨itB I, 0, 0, none⟩).2 = 0)
set_option maxRecDepth 100000 in
set_option maxHeartbeats 4000000 in
theorem whole_c (dk : Int) (dc dl : Bool) (dA : Option Addr) (dn dcc : Nat) (dAs : Option Addr) (dns dcs : Nat) (I : Fo) (w : World) (hli : dl = itL I) (hn : (itB I).length = dn) (hr : Rd w dA ((itB I).map bv)) (hc : dn ≤ dcc) (hm : dcc ≤ maxLen) (hl : dn ≤ 140737488355328) :
    Calls Try.prog 81 #[.agg #[.int .i64 dk, .bool dc, .bool dl, .slice dA dn dcc, .slice dAs dns dcs]] w fun r w' => r = .returned (.tuple #[.int .u64 (whN I : Int), .bool (whB I)]) ∧ Below w.heap.size w w' := by
  obtain ⟨w1, ew1⟩ : ∃ w1, w1 = w.alloc (.cells #[.int .i64 dk, .bool dc, .bool dl, .slice dA dn dcc, .slice dAs dns dcs] 76) := ⟨_, rfl⟩
  obtain ⟨g1, eg1⟩ : ∃ g, g = w.heap.size := ⟨_, rfl⟩
  have b1 : Below w.heap.size w w1 := by rw [ew1]; exact (Below.refl _ _).alloc (Nat.le_refl _) _
  have hx1 : w1.heap[g1]? = some (.cells (ItV.cells ⟨dk, dc, dl, dA, dn, dcc, dAs, dns, dcs⟩).toArray 76 (0, 0)) := by rw [ew1, eg1]; exact heap_alloc_new _ _
  have HOK : Hid (RsOk w1 dA dcc ⟨itB I, 0, 0, none⟩) := Lib.hid ⟨hr.below b1, by rw [hn]; exact hc, hm, Nat.zero_le _, by rw [hn]; exact hl⟩
  have HN := Lib.hid hn
  have HX1 := Lib.hid hx1
  have HB1 := Lib.hid b1
  have EW1 := Lib.hid ew1
  have EG1 := Lib.hid eg1
  have HLI := Lib.hid hli
  obtain ⟨⟨x0, x1, x2, x3, x4⟩, -⟩ := five_of hx1
  dsimp only at x0 x1 x2 x3 x4
  obtain ⟨V, eV⟩ : ∃ V, whN I = V := ⟨_, rfl⟩
  obtain ⟨B, eB⟩ : ∃ V, whB I = V := ⟨_, rfl⟩
  rw [eV, eB]
  have HV := Lib.hid eV
  have HBB := Lib.hid eB
  clear hli hn hr hc hm hl ew1 eg1 b1 hx1 eV eB
  go_enter Try.func81, Try.ntmps81
  go_upto_region 1 with (fail)
  rw [← EW1.out, ← EG1.out]
  go_wp2_with (fail)
  rw [← HN.out]
  have hv := refVarR_c dA dcc ⟨itB I, 0, 0, none⟩ w1 HOK.out
  unfold rsV at hv
  refine hv.mono ?_
  rintro _ w2 ⟨rfl, hb⟩
  obtain ⟨S, eS⟩ : ∃ S, (varR ⟨itB I, 0, 0, none⟩).2 = S := ⟨_, rfl⟩
  rw [show (varR ⟨itB I, 0, 0, none⟩).1 = V from HV.out, eS]
  obtain ⟨q1, q2, -, q3, -, -⟩ := varR_step (s := ⟨itB I, 0, 0, none⟩) (n := (varR ⟨itB I, 0, 0, none⟩).1) (s1 := (varR ⟨itB I, 0, 0, none⟩).2) rfl rfl (Nat.zero_le _)
  rw [eS] at q1 q3
  have HS := Lib.hid eS
  have HOK2 : Hid (RsOk w2 dA dcc S) := Lib.hid (by
    obtain ⟨o1, o2, o3, o4, o5⟩ := HOK.out
    exact ⟨by rw [q1]; exact o1.below hb, by rw [q1]; exact o2, o3, by rw [q1]; exact q3, by rw [q1]; exact o5⟩)
  have HX2 := Lib.hid ((hb.block g1 (heap_lt HX1.out)).trans HX1.out)
  have HB2 := Lib.hid (HB1.out.trans (hb.mono HB1.out.size))
  clear hv hb eS q1 q2 q3 x0 x1 x2 x3 x4
  obtain ⟨w3, ew3⟩ : ∃ w3, w3 = w2.alloc (.cells #[.slice dA S.b.length dcc, .int .i64 (S.at_ : Int), .int .i64 (S.err : Int)] 152) := ⟨_, rfl⟩
  obtain ⟨g5, eg5⟩ : ∃ g, g = w2.heap.size := ⟨_, rfl⟩
  have b3 : Below w2.heap.size w2 w3 := by rw [ew3]; exact (Below.refl _ _).alloc (Nat.le_refl _) _
  have h5 : w3.heap[g5]? = some (.cells #[.slice dA S.b.length dcc, .int .i64 (S.at_ : Int), .int .i64 (S.err : Int)] 152 (0, 0)) := by rw [ew3, eg5]; exact heap_alloc_new _ _
  have HX3 := Lib.hid ((b3.block g1 (heap_lt HX2.out)).trans HX2.out)
  have HB3 := Lib.hid (HB2.out.trans (b3.mono HB2.out.size))
  have HOK3 : Hid (RsOk w3 dA dcc S) := Lib.hid ⟨HOK2.out.1.below b3, HOK2.out.2⟩
  have EW3 := Lib.hid ew3
  have EG5 := Lib.hid eg5
  obtain ⟨⟨y0, y1, y2⟩, -⟩ := three_of h5
  clear ew3 eg5 b3 h5
  go_upto_region 2 with (fail)
  rw [← EW3.out, ← EG5.out]
  obtain ⟨⟨x0, x1, x2, x3, x4⟩, -⟩ := five_of HX3.out
  dsimp only at x0 x1 x2 x3 x4
  have HBE : Hid (B = (!dl && decide (endR S = 0))) := Lib.hid (by rw [← HBB.out, whB, HLI.out, HS.out])
  cases dl with
  | true =>
    have hB : B = false := HBE.out
    have EB := Lib.hid hB
    clear hB
    go_wp2_with (fail)
    refine bodyPost_ret (v := .tuple #[.int .u64 (V : Int), .bool false]) (by simp [results, Try.results81]) rfl ?_
    exact ⟨by rw [EB.out], HB3.out⟩
  | false =>
    have hB : B = decide (endR S = 0) := by rw [HBE.out]; simp
    by_cases h0 : S.err = 0
    · have d0 : ((S.err : Int) == 0) = true := by rw [h0]; rfl
      have hE : endR S = if S.at_ < S.b.length then 6 else 0 := by
        unfold endR
        by_cases q : S.at_ < S.b.length
        · rw [if_pos ⟨h0, q⟩, if_pos q]
        · rw [if_neg (fun a => q a.2), if_neg q, h0]
      obtain ⟨L, eL⟩ : ∃ L, S.b.length - S.at_ = L := ⟨_, rfl⟩
      have EB : Hid (B = ((L : Int) == 0)) := Lib.hid (by
        rw [hB, hE]
        by_cases q : S.at_ < S.b.length
        · rw [if_pos q]
          have : L ≠ 0 := by omega
          rw [show decide ((6 : Nat) = 0) = false from rfl, eq_comm, beq_eq_false_iff_ne]; omega
        · rw [if_neg q]
          have : L = 0 := by omega
          rw [this]; rfl)
      have EL := Lib.hid eL
      clear hB h0 hE eL
      go_wp2_with (fail)
      have hv := refLeft_c dA dcc S w3 HOK3.out
      unfold rsV at hv
      rw [EL.out] at hv
      refine hv.mono ?_
      rintro _ w4 ⟨rfl, hb⟩
      have HB4 := Lib.hid (HB3.out.trans (hb.mono HB3.out.size))
      clear hv hb x0 x1 x2 x3 x4 y0 y1 y2
      go_wp2_with (fail)
      refine bodyPost_ret (v := .tuple #[.int .u64 (V : Int), .bool ((L : Int) == 0)]) (by simp [results, Try.results81]) rfl ?_
      exact ⟨by rw [EB.out], HB4.out⟩
    · have d0 : ((S.err : Int) == 0) = false := by rw [beq_eq_false_iff_ne]; omega
      have EB : Hid (B = false) := Lib.hid (by
        rw [hB, decide_eq_false_iff_not, endR, if_neg (fun a => h0 a.1)]
        exact h0)
      clear hB h0
      go_wp2_with (fail)
      refine bodyPost_ret (v := .tuple #[.int .u64 (V : Int), .bool false]) (by simp [results, Try.results81]) rfl ?_
      exact ⟨by rw [EB.out], HB3.out⟩
end Go.Proofs.Ytcffinkkfdfcaaa

/- What bytes say as data, in the later versions: the first fault stays; the reference's numbers. Conditions: none. -/
namespace Go.Proofs.Ytcffinkkfdfcaaa
open Go Go.RowKit

/-- The walk over a part's items behind k numbers. -/
def pS (l : Fo) : Nat → FS
  | 0 => ptP1 l 0
  | k + 1 => nuS (pS l k) true
theorem pS_at (l : Fo) : ∀ k, (pS l k).at_ = k
  | 0 => ptP1_at l 0
  | k + 1 => by rw [pS, nuS_at, pS_at l k]
theorem pS_l (l : Fo) : ∀ k, (pS l k).l = (pS l 0).l
  | 0 => rfl
  | k + 1 => by
    show (nuS (pS l k) true).l = _
    rw [nuS_l, pS_l l k]
theorem pS_sticks {l : Fo} {k : Nat} (h : (pS l k).err ≠ 0) : ∀ j, (pS l (k + j)).err = (pS l k).err
  | 0 => rfl
  | j + 1 => by
    have h1 := pS_sticks h j
    rw [← Nat.add_assoc, pS, nuS_sticks (by rw [h1]; exact h), h1]
theorem pS_end {l : Fo} {k : Nat} (hk : k ≤ 3) (h : (pS l k).err ≠ 0) : (ptP5 l 0).err = (pS l k).err := by
  have h3 : (pS l 3).err = (pS l k).err := by
    have := pS_sticks h (3 - k)
    rwa [show k + (3 - k) = 3 by omega] at this
  have h3' : (ptP4 l 0).err = (pS l k).err := h3
  have h4 : (nxS (ptP4 l 0) true).err = (pS l k).err := by rw [nxS_sticks (by rw [h3']; exact h), h3']
  rw [ptP5, badS_sticks (by rw [h4]; exact h), h4]
theorem nxB_0 {s : FS} (h : s.err = 0) : nxB s = hasI ((s.at_ + 1 : Nat) : Int) s.l := by unfold nxB; rw [if_pos h]
theorem nxI_0 {s : FS} (h : s.err = 0) : nxI s = getI ((s.at_ + 1 : Nat) : Int) s.l := by unfold nxI; rw [if_pos h]
/-- The next number, told by the reference's. -/
theorem nuS_none {s : FS} (h : s.err = 0) (hb : nxB s = false) : (nuS s true).err = 12 := by
  unfold nuS
  rw [if_neg (by rw [hb]; simp)]
  unfold nxS
  simp [h, hb]
theorem nuS_wrong {s : FS} (hb : nxB s = true) (hw : whB (nxI s) = false) (m : Bool) : (nuS s m).err = 3 := by
  have h0 := nxS_ok (m := m) hb
  unfold whB at hw
  have hx : (itL (nxI s) || (decide (endR (varR ⟨itB (nxI s), 0, 0, none⟩).2 ≠ 0) || (!m && decide (nuN s = 0)))) = true := by
    cases hl : itL (nxI s) with
    | true => rfl
    | false =>
      rw [hl] at hw
      simp only [Bool.not_false, Bool.true_and, decide_eq_false_iff_not] at hw
      rw [decide_eq_true hw]; rfl
  unfold nuS
  rw [if_pos hb, hx]
  unfold badS
  rw [if_pos ⟨h0, rfl⟩]
theorem nuN_some {s : FS} (hb : nxB s = true) : nuN s = whN (nxI s) := by unfold nuN; rw [if_pos hb]; rfl
theorem nuN_none {s : FS} (hb : nxB s = false) : nuN s = 0 := by unfold nuN; rw [if_neg (by rw [hb]; simp)]
theorem nuS_right {s : FS} (hb : nxB s = true) (hw : whB (nxI s) = true) : (nuS s true).err = 0 := by
  have h0 := nxS_ok (m := true) hb
  unfold whB at hw
  simp only [Bool.and_eq_true, Bool.not_eq_true', decide_eq_true_eq] at hw
  unfold nuS
  rw [if_pos hb, hw.1, decide_eq_false (fun a => a hw.2)]
  simp [badS, h0]
theorem nuS_zero {s : FS} (hb : nxB s = true) (hn : nuN s = 0) : (nuS s false).err = 3 := by
  have h0 := nxS_ok (m := false) hb
  unfold nuS
  rw [if_pos hb, hn]
  unfold badS
  rw [if_pos ⟨h0, by simp⟩]
theorem nuS_good {s : FS} (hb : nxB s = true) (hw : whB (nxI s) = true) (hn : nuN s ≠ 0) : (nuS s false).err = 0 := by
  have h0 := nxS_ok (m := false) hb
  unfold whB at hw
  simp only [Bool.and_eq_true, Bool.not_eq_true', decide_eq_true_eq] at hw
  unfold nuS
  rw [if_pos hb, hw.1, decide_eq_false (fun a => a hw.2), decide_eq_false hn]
  simp [badS, h0]
theorem nuS_absent {s : FS} (h : s.err = 0) (hb : nxB s = false) : (nuS s false).err = 0 := by
  unfold nuS
  rw [if_neg (by rw [hb]; simp)]
  unfold nxS
  simp [h]
theorem whN_u64 (I : Fo) : U64 (whN I) := varR_u64 _
/-- Behind a fault nothing turns. -/
theorem itm5 {bs : List UInt8} (h : (itA5 bs).err ≠ 0) : itmE bs = (itA5 bs).err := by
  have hb : nxB (itA5 bs) = false := by simp [nxB, h]
  rw [itmE, if_neg (by rw [hb]; simp), itA6, nxS_sticks h]
theorem itm4 {bs : List UInt8} (h : (itA4 bs).err ≠ 0) : itmE bs = (itA4 bs).err := by
  have h5 : (itA5 bs).err = (itA4 bs).err := by rw [itA5, nuS_sticks h]
  rw [itm5 (by rw [h5]; exact h), h5]
theorem itm3 {bs : List UInt8} (h : (itA3 bs).err ≠ 0) : itmE bs = (itA3 bs).err := by
  have h5 : (itA4 bs).err = (itA3 bs).err := by rw [itA4, nuS_sticks h]
  rw [itm4 (by rw [h5]; exact h), h5]
theorem itm2 {bs : List UInt8} (h : (itA2 bs).err ≠ 0) : itmE bs = (itA2 bs).err := by
  have h5 : (itA3 bs).err = (itA2 bs).err := by rw [itA3, ecS_sticks h]
  rw [itm3 (by rw [h5]; exact h), h5]
theorem itm1 {bs : List UInt8} (h : (itA1 bs).err ≠ 0) : itmE bs = (itA1 bs).err := by
  have h5 : (itA2 bs).err = (itA1 bs).err := by rw [itA2, byS_sticks h]
  rw [itm2 (by rw [h5]; exact h), h5]
theorem itm_none {bs : List UInt8} (h : (itA5 bs).err = 0) (hb : nxB (itA5 bs) = false) : itmE bs = 0 := by
  rw [itmE, if_neg (by rw [hb]; simp), itA6, nxS]
  simp [h]
theorem itm_flat {bs : List UInt8} (hb : nxB (itA5 bs) = true) (hl : itL (itI5 bs) = false) : itmE bs = 3 := by
  have h6 : (itA6 bs).err = 0 := nxS_ok hb
  have h7 : (itA7 bs).err = 3 := by rw [itA7, hl]; simp [badS, h6]
  have hk : ∀ l : Fo, (ptP1 l 3).err = 3 := fun l => by unfold ptP1 knS; rw [if_pos (by decide)]
  rw [itmE, if_pos hb, h7]
  generalize itS (itI5 bs) = l
  have e1 := hk l
  have e2 : (ptP2 l 3).err = 3 := by rw [ptP2, nuS_sticks (by rw [e1]; decide), e1]
  have e3 : (ptP3 l 3).err = 3 := by rw [ptP3, nuS_sticks (by rw [e2]; decide), e2]
  have e4 : (ptP4 l 3).err = 3 := by rw [ptP4, nuS_sticks (by rw [e3]; decide), e3]
  have e5 : (nxS (ptP4 l 3) true).err = 3 := by rw [nxS_sticks (by rw [e4]; decide), e4]
  rw [ptP5, badS_sticks (by rw [e5]; decide), e5]
theorem itm_part {bs : List UInt8} (hb : nxB (itA5 bs) = true) (hl : itL (itI5 bs) = true) : itmE bs = (ptP5 (itS (itI5 bs)) 0).err ∧ itmD bs = ⟨itSt bs, itEc bs, itAk bs, itTh bs, true, ptD (itS (itI5 bs)) 0⟩ := by
  have h6 : (itA6 bs).err = 0 := nxS_ok hb
  have h7 : (itA7 bs).err = 0 := by rw [itA7, hl]; simp [badS, h6]
  rw [itmE, itmD, if_pos hb, if_pos hb, h7]
  exact ⟨rfl, rfl⟩
/-- The last item of a part. -/
theorem pt_none {l : Fo} (h : (ptP4 l 0).err = 0) (hb : nxB (ptP4 l 0) = false) : (ptP5 l 0).err = 12 := by
  have h5 : (nxS (ptP4 l 0) true).err = 12 := by unfold nxS; simp [h, hb]
  rw [ptP5, badS_sticks (by rw [h5]; decide), h5]
theorem pt_bad {l : Fo} (hb : nxB (ptP4 l 0) = true) (hx : ptBad (ptY l 0) (nuN (ptP1 l 0)) (nuN (ptP2 l 0)) (nuN (ptP3 l 0)) = true) : (ptP5 l 0).err = 3 := by
  have h5 : (nxS (ptP4 l 0) true).err = 0 := nxS_ok hb
  rw [ptP5, hx]; simp [badS, h5]
theorem pt_good {l : Fo} (hb : nxB (ptP4 l 0) = true) (hx : ptBad (ptY l 0) (nuN (ptP1 l 0)) (nuN (ptP2 l 0)) (nuN (ptP3 l 0)) = false) : (ptP5 l 0).err = 0 := by
  have h5 : (nxS (ptP4 l 0) true).err = 0 := nxS_ok hb
  rw [ptP5, hx]; simp [badS, h5]
/-- The echo's item. -/
theorem ec_none {s : FS} (h : s.err = 0) (hb : nxB s = false) : (ecS s).err = 0 ∧ ecN s = 65535 := by
  unfold ecS ecN
  rw [if_neg (by rw [hb]; simp), if_neg (by rw [hb]; simp)]
  unfold nxS
  simp [h]
theorem ec_bad {s : FS} (hb : nxB s = true) (hx : itL (nxI s) = true ∨ (itB (nxI s)).length ≠ 2) : (ecS s).err = 3 := by
  have h5 : (nxS s false).err = 0 := nxS_ok hb
  have h6 : (badS (nxS s false) (itL (nxI s) || !decide ((itB (nxI s)).length = 2))).err = 3 := by
    unfold badS
    rw [if_pos ⟨h5, by rcases hx with q | q; · rw [q]; rfl
                       · rw [decide_eq_false q]; simp⟩]
  rw [ecS, if_pos hb, badS_sticks (by rw [h6]; decide), h6]
theorem ec_some {s : FS} (hb : nxB s = true) (hl : itL (nxI s) = false) (hn : (itB (nxI s)).length = 2) : ecN s = beN (itB (nxI s)) ∧ (ecS s).err = if beN (itB (nxI s)) = 65535 then 3 else 0 := by
  have h5 : (nxS s false).err = 0 := nxS_ok hb
  have he : echN (nxI s) = beN (itB (nxI s)) := by
    unfold echN numR
    rw [if_neg (by simp), if_neg (by decide), if_neg (by simp [hn])]
    simp [List.take_of_length_le, hn]
  refine ⟨by rw [ecN, if_pos hb, he], ?_⟩
  rw [ecS, if_pos hb, hl, decide_eq_true hn, he]
  by_cases q : beN (itB (nxI s)) = 65535
  · rw [if_pos q, decide_eq_true q]; simp [badS, h5]
  · rw [if_neg q, decide_eq_false q]; simp [badS, h5]
/-- The stamp's item. -/
theorem by_none {s : FS} {n : Nat} (h : s.err = 0) (hb : nxB s = false) : (byS s n).err = 12 := by
  unfold byS
  rw [if_neg (by rw [hb]; simp)]
  unfold nxS
  simp [h, hb]
theorem by_bad {s : FS} {n : Nat} (hb : nxB s = true) (hx : itL (nxI s) = true ∨ (itB (nxI s)).length ≠ n) : (byS s n).err = 3 := by
  have h5 : (nxS s true).err = 0 := nxS_ok hb
  unfold byS
  rw [if_pos hb]
  unfold badS
  rw [if_pos ⟨h5, by rcases hx with q | q; · rw [q]; rfl
                     · rw [decide_eq_false q]; simp⟩]
theorem by_good {s : FS} {n : Nat} (hb : nxB s = true) (hl : itL (nxI s) = false) (hn : (itB (nxI s)).length = n) : (byS s n).err = 0 ∧ byB s n = itB (nxI s) := by
  have h5 : (nxS s true).err = 0 := nxS_ok hb
  refine ⟨?_, by rw [byB, if_pos ⟨hb, hl, hn⟩]⟩
  rw [byS, if_pos hb, hl, decide_eq_true hn]
  simp [badS, h5]
end Go.Proofs.Ytcffinkkfdfcaaa
