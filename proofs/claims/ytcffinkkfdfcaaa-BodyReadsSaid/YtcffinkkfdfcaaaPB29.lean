/- Parts one behind the other: What the later versions' bytes say, by the reference: items. Conditions: as told at each. -/
import Derived.Test.YtcffinkkfdfcaaaPB28
import Derived.Test.YtcffinkkfdfcaaaPB10
import Derived.Test.YtcffinkkfdfcaaaPB16

set_option linter.unusedVariables false
set_option linter.unusedSimpArgs false
/- What the later versions' bytes say, by the reference: items. Conditions: bytes that can be read. -/
namespace Go.Proofs.Ytcffinkkfdfcaaa
open Go Go.RowKit

theorem ritems_results (tmps : Array Value) (g : Nat) (t : TypeId) (cs : Array Value) (fr : Nat × Nat) (y : Int) (h2 : tmps.getD 2 undef = .pointer (some ⟨g, 0, none⟩)) (h3 : tmps.getD 3 undef = .int .i64 y) (w : World) (hg : w.heap[g]? = some (.cells cs t fr)) (hi : (Try.prog.info? 29).map (·.size) = some cs.size) :
    (results Try.f57 tmps).run Try.prog w = .ok (.tuple #[.agg cs, .int .i64 y]) w := by
  have h2' : tmps[2]?.getD undef = .pointer (some ⟨g, 0, none⟩) := by simpa using h2
  have h3' : tmps[3]?.getD undef = .int .i64 y := by simpa using h3
  simp [results, Try.results57, h2', h3', asAddr, run_loadVar_row w g t 29 cs fr _ hg Try.underlying29 rfl hi]
theorem info_itm : (Try.prog.info? 76).map (·.size) = some 5 := by kernel_rfl
theorem item_one {d : ItV} : (d.cells.toArray).all (·.oneCell') = true := by simp [ItV.cells, Value.oneCell']
/-- The blocks of a walk over a list: the result's gr, the data's g4, the item's g7. -/
structure RiQ (w w3 w5 : World) (gr g4 g7 : Nat) : Prop where
  h1 : gr < w3.heap.size
  h2 : g4 < w3.heap.size
  h3 : gr ≠ g4
  h4 : w.heap.size ≤ gr
  h5 : w.heap.size ≤ g4
  h6 : w5.heap.size ≤ g7
  h7 : w3.heap.size ≤ w5.heap.size
structure RiW (w w3 w5 wx : World) (gr g4 g7 : Nat) (Al : Option Addr) (L1 : Fo) (cs : Array Value) (d : ItV) : Prop where
  g : wx.heap[gr]? = some (.cells #[.int .u16 0, .int .u16 0, .int .u64 0, .int .u64 0, .bool false, .int .u32 0, .int .i64 0, .int .i64 0, .slice none 0 0] 29 (0, 0))
  h : wx.heap[g4]? = some (.cells cs 29 (0, 0))
  x : wx.heap[g7]? = some (.cells d.cells.toArray 76 (0, 0))
  b : Below w.heap.size w wx
  l : FoR (fun j => w3.heap.size ≤ j ∧ j < w5.heap.size) wx Al 0 L1
section
variable {w w3 w5 wx wy : World} {gr g4 g7 : Nat} {Al : Option Addr} {L1 : Fo} {cs cs' : Array Value} {d d' : ItV}
theorem RiW.below (h : RiW w w3 w5 wx gr g4 g7 Al L1 cs d) (hb : Below wx.heap.size wx wy) : RiW w w3 w5 wy gr g4 g7 Al L1 cs d :=
  ⟨(hb.block gr (heap_lt h.g)).trans h.g, (hb.block g4 (heap_lt h.h)).trans h.h, (hb.block g7 (heap_lt h.x)).trans h.x, h.b.trans (hb.mono h.b.size), h.l.below hb⟩
theorem RiW.setX (Q : RiQ w w3 w5 gr g4 g7) (h : RiW w w3 w5 wx gr g4 g7 Al L1 cs d) (hk : Keeps (fun j => j = g7) wx wy) (hx : wy.heap[g7]? = some (.cells d'.cells.toArray 76 (0, 0))) : RiW w w3 w5 wy gr g4 g7 Al L1 cs d' := by
  have h1 := Q.h1; have h2 := Q.h2; have h3 := Q.h3; have h4 := Q.h4; have h5 := Q.h5; have h6 := Q.h6; have h7 := Q.h7
  exact ⟨(hk.block gr (heap_lt h.g) (by omega)).trans h.g, (hk.block g4 (heap_lt h.h) (by omega)).trans h.h, hx, keepsP_b h.b hk (by omega) (Nat.le_refl _), h.l.frame (fun j hj hl => hk.block j hl (by have : w3.heap.size ≤ j ∧ j < w5.heap.size := hj; omega)) hk.size⟩
theorem RiW.setH (Q : RiQ w w3 w5 gr g4 g7) (h : RiW w w3 w5 wx gr g4 g7 Al L1 cs d) (hk : Keeps (fun j => j = g4) wx wy) (hh : wy.heap[g4]? = some (.cells cs' 29 (0, 0))) : RiW w w3 w5 wy gr g4 g7 Al L1 cs' d := by
  have h1 := Q.h1; have h2 := Q.h2; have h3 := Q.h3; have h4 := Q.h4; have h5 := Q.h5; have h6 := Q.h6; have h7 := Q.h7
  exact ⟨(hk.block gr (heap_lt h.g) h3).trans h.g, hh, (hk.block g7 (heap_lt h.x) (by omega)).trans h.x, keepsP_b h.b hk h5 (Nat.le_refl _), h.l.frame (fun j hj hl => hk.block j hl (by have : w3.heap.size ≤ j ∧ j < w5.heap.size := hj; omega)) hk.size⟩
end
structure RiZ (w wx : World) (gr g4 : Nat) (cs : Array Value) : Prop where
  g : wx.heap[gr]? = some (.cells #[.int .u16 0, .int .u16 0, .int .u64 0, .int .u64 0, .bool false, .int .u32 0, .int .i64 0, .int .i64 0, .slice none 0 0] 29 (0, 0))
  h : wx.heap[g4]? = some (.cells cs 29 (0, 0))
  b : Below w.heap.size w wx
theorem itA1_of (bs : List UInt8) (h : (decT bs).1 = 0) : itA1 bs = ⟨(pickT (kindsL 5) (decT bs).2).2, 0, (pickT (kindsL 5) (decT bs).2).1⟩ := by
  unfold itA1 opS knS; rw [if_neg (by simpa using h)]
theorem itA1_bad (bs : List UInt8) (h : (decT bs).1 ≠ 0) : (itA1 bs).err = (decT bs).1 := by
  unfold itA1 opS knS; rw [if_pos h]
/-- The numbers behind the kinds 3 and 4. -/
def akQ (bs : List UInt8) (q : Nat) : Nat := if 3 < q then itAk bs else 0
def thQ (bs : List UInt8) (q : Nat) : Nat := if 4 < q then itTh bs else 0
def stQ (bs : List UInt8) (q : Nat) : FS := if q ≤ 3 then itA3 bs else if q = 4 then itA4 bs else itA5 bs
def csQ (bs : List UInt8) (st ec q : Nat) : Array Value := #[.int .u16 (st : Int), .int .u16 (ec : Int), .int .u64 (akQ bs q : Int), .int .u64 (thQ bs q : Int), .bool false, .int .u32 0, .int .i64 0, .int .i64 0, .slice none 0 0]
theorem csQ_one (bs : List UInt8) (st ec q : Nat) : (csQ bs st ec q).all (·.oneCell') = true := nine_one _ _ _ _ _ _ _ _ _ _ _
set_option maxRecDepth 100000 in
set_option maxHeartbeats 16000000 in
theorem refItems_c (bs : List UInt8) (A : Option Addr) (n c : Nat) (w : World) (hn : bs.length = n) (hr : Rd w A (bs.map bv)) (hc : n ≤ c) (hcm : c ≤ maxLen) (hl : n ≤ 140737488355328) :
    Calls Try.prog 57 #[.slice A n c] w fun r w' => ∃ cs, r = .returned (.tuple #[.agg cs, .int .i64 (itmE bs : Int)]) ∧ PtR (w.heap.size ≤ ·) w' cs (itmE bs) (itmD bs) ∧ Below w.heap.size w w' := by
  have HN := Lib.hid hn
  have HC := Lib.hid hc
  have HCM := Lib.hid hcm
  have HLN := Lib.hid hl
  obtain ⟨w1, ew1⟩ : ∃ w1, w1 = w.alloc (.cells #[.int .u16 0, .int .u16 0, .int .u64 0, .int .u64 0, .bool false, .int .u32 0, .int .i64 0, .int .i64 0, .slice none 0 0] 29) := ⟨_, rfl⟩
  obtain ⟨gr, egr⟩ : ∃ gr, gr = w.heap.size := ⟨_, rfl⟩
  have b1 : Below w.heap.size w w1 := by rw [ew1]; exact (Below.refl _ _).alloc (Nat.le_refl _) _
  have g1 : w1.heap[gr]? = some (.cells #[.int .u16 0, .int .u16 0, .int .u64 0, .int .u64 0, .bool false, .int .u32 0, .int .i64 0, .int .i64 0, .slice none 0 0] 29 (0, 0)) := by rw [ew1, egr]; exact heap_alloc_new _ _
  obtain ⟨w3, ew3⟩ : ∃ w', w' = (w1.alloc (.cells #[.int .u16 0, .int .u16 0, .int .u64 0, .int .u64 0, .bool false, .int .u32 0, .int .i64 0, .int .i64 0, .slice none 0 0] 29)).setRow w1.heap.size #[.int .u16 0, .int .u16 65535, .int .u64 0, .int .u64 0, .bool false, .int .u32 0, .int .i64 0, .int .i64 0, .slice none 0 0] := ⟨_, rfl⟩
  obtain ⟨g4, eg4⟩ : ∃ g, g = w1.heap.size := ⟨_, rfl⟩
  have b3 : Below w1.heap.size w1 w3 := by rw [ew3]; exact below_setRow ((Below.refl _ _).alloc (Nat.le_refl _) _) (Nat.le_refl _) _
  have HH3 : Hid (w3.heap[g4]? = some (.cells #[.int .u16 0, .int .u16 65535, .int .u64 0, .int .u64 0, .bool false, .int .u32 0, .int .i64 0, .int .i64 0, .slice none 0 0] 29 (0, 0))) := Lib.hid (by rw [ew3, eg4]; exact setRow_heap _ _ _ _ _ _ (heap_alloc_new w1 _))
  have HG3 := Lib.hid ((b3.block gr (heap_lt g1)).trans g1)
  have HB3 := Lib.hid (b1.trans (b3.mono b1.size))
  have HR3 := Lib.hid ((hr.below b1).below b3)
  have HGG : Hid (gr < g4) := Lib.hid (by rw [eg4]; exact heap_lt g1)
  have EW1 := Lib.hid ew1
  have EGR := Lib.hid egr
  have EW3 := Lib.hid ew3
  have EG4 := Lib.hid eg4
  obtain ⟨E, eE⟩ : ∃ E, itmE bs = E := ⟨_, rfl⟩
  obtain ⟨D, eD⟩ : ∃ D, itmD bs = D := ⟨_, rfl⟩
  obtain ⟨e0, ee0⟩ : ∃ e, (decT bs).1 = e := ⟨_, rfl⟩
  rw [eE, eD]
  have HE := Lib.hid eE
  have HDD := Lib.hid eD
  have HE0 := Lib.hid ee0
  clear ew1 egr b1 g1 ew3 eg4 b3 hn hr hc hcm hl eE eD ee0
  go_enter Try.func57, Try.ntmps57
  go_upto_region 1 with (fail)
  rw [← EW1.out, ← EGR.out]
  go_wp2_with (first | (refine wpList_store_row rfl 29 (.tmp 4) (.tmp 12) rfl w1.heap.size #[.int .u16 0, .int .u16 65535, .int .u64 0, .int .u64 0, .bool false, .int .u32 0, .int .i64 0, .int .i64 0, .slice none 0 0] rfl rfl 29 _ (heap_alloc_new w1 _) info_dat rfl (nine_one _ _ _ _ _ _ _ _ _ _ _) ?_))
  rw [← EW3.out, ← EG4.out]
  refine (refDecodeT_c bs A n c w3 HN.out HR3.out HC.out HCM.out HLN.out).mono ?_
  rintro _ w4 ⟨v4, rfl, ho, hb⟩
  rw [HE0.out]
  obtain ⟨A4, c4, rfl, -, -, hfo⟩ := ho.form (n := (decT bs).2.len) rfl
  have HFO := Lib.hid hfo
  have HG4 := Lib.hid ((hb.block gr (heap_lt HG3.out)).trans HG3.out)
  have HH4 := Lib.hid ((hb.block g4 (heap_lt HH3.out)).trans HH3.out)
  have HB4 := Lib.hid (HB3.out.trans (hb.mono HB3.out.size))
  have HZ34 : Hid (w3.heap.size ≤ w4.heap.size) := Lib.hid hb.size
  have HG43 : Hid (gr < w3.heap.size ∧ g4 < w3.heap.size) := Lib.hid ⟨heap_lt HG3.out, heap_lt HH3.out⟩
  clear ho hfo hb HG3 HH3 HB3 HR3
  by_cases h0 : e0 = 0
  · have d0 : ((e0 : Int) != 0) = false := by rw [h0]; rfl
    have HA1 := Lib.hid (itA1_of bs (HE0.out.trans h0))
    obtain ⟨wk, ewk⟩ : ∃ wk, wk = w4.alloc (.cells #[.int .i64 1, .int .i64 2, .int .i64 3, .int .i64 4, .int .i64 5] 3) := ⟨_, rfl⟩
    obtain ⟨gk, egk⟩ : ∃ gk, gk = w4.heap.size := ⟨_, rfl⟩
    have bk : Below w4.heap.size w4 wk := by rw [ewk]; exact (Below.refl _ _).alloc (Nat.le_refl _) _
    have HZ : Hid (RdI wk (some ⟨gk, 0, none⟩) (kindsL 5)) := Lib.hid (.inr ⟨gk, 0, rfl, by rw [ewk, egk]; simp, fun k hk => by
      have hh : wk.heap[gk]? = some (.cells #[.int .i64 1, .int .i64 2, .int .i64 3, .int .i64 4, .int .i64 5] 3 (0, 0)) := by rw [ewk, egk]; exact heap_alloc_new _ _
      rw [Nat.zero_add, heap_cell hh]
      have : k = 0 ∨ k = 1 ∨ k = 2 ∨ k = 3 ∨ k = 4 := by rw [kindsL_len] at hk; omega
      rcases this with rfl | rfl | rfl | rfl | rfl <;> rfl⟩)
    have HFOk := Lib.hid (HFO.out.below bk)
    have HGk := Lib.hid ((bk.block gr (heap_lt HG4.out)).trans HG4.out)
    have HHk := Lib.hid ((bk.block g4 (heap_lt HH4.out)).trans HH4.out)
    have HBk := Lib.hid (HB4.out.trans (bk.mono HB4.out.size))
    have HZk : Hid (w3.heap.size ≤ wk.heap.size) := Lib.hid (Nat.le_trans HZ34.out bk.size)
    have EWk := Lib.hid ewk
    have EGk := Lib.hid egk
    clear h0 ewk egk bk HFO HG4 HH4 HB4 HZ34
    go_wp2_with (fail)
    rw [← EWk.out, ← EGk.out]
    refine (refPick_k (decT bs).2 (w3.heap.size ≤ ·) A4 _ c4 (some ⟨gk, 0, none⟩) 5 5 (kindsL 5) wk rfl HFOk.out (by have := Fo.len_le (decT bs).2; have := decT_size bs; omega) (kindsL_len 5) HZ.out (by decide)).mono ?_
    rintro _ w5 ⟨v5, rfl, hm, hb⟩
    obtain ⟨e1, ee1⟩ : ∃ e, (itA1 bs).err = e := ⟨_, rfl⟩
    obtain ⟨L1, eL1⟩ : ∃ L, (itA1 bs).l = L := ⟨_, rfl⟩
    rw [show (pickT (kindsL 5) (decT bs).2).1 = e1 from by rw [← ee1, HA1.out]]
    rw [show (pickT (kindsL 5) (decT bs).2).2 = L1 from by rw [← eL1, HA1.out]] at hm
    have hsz : L1.size ≤ 64 := by rw [← eL1, HA1.out]; exact Nat.le_trans (pickT_size _ _) (decT_size bs)
    obtain ⟨Al, cl, rfl, -, -, hfo⟩ := hm.form (n := L1.len) rfl
    have HL5 : Hid (FoR (fun j => w3.heap.size ≤ j ∧ j < w5.heap.size) w5 Al 0 L1) := Lib.hid (hfo.weak (fun j hj hl => by
      have hj' : w3.heap.size ≤ j ∨ wk.heap.size ≤ j := hj
      have := HZk.out
      show w3.heap.size ≤ j ∧ j < w5.heap.size
      omega))
    have HG5 := Lib.hid ((hb.block gr (heap_lt HGk.out)).trans HGk.out)
    have HH5 := Lib.hid ((hb.block g4 (heap_lt HHk.out)).trans HHk.out)
    have HB5 := Lib.hid (HBk.out.trans (hb.mono HBk.out.size))
    have HQ0 : Hid (gr < w3.heap.size ∧ g4 < w3.heap.size ∧ gr ≠ g4 ∧ w.heap.size ≤ gr ∧ w.heap.size ≤ g4 ∧ w3.heap.size ≤ w5.heap.size) := Lib.hid (by
      have a1 := HG43.out; have a2 := HGG.out; have a3 := EGR.out; have a4 := HZk.out; have a5 := hb.size
      exact ⟨a1.1, a1.2, by omega, by omega, by omega, by omega⟩)
    obtain ⟨nl, enl⟩ : ∃ k, L1.len = k := ⟨_, rfl⟩
    rw [enl]
    have HNL := Lib.hid enl
    have HGL : Hid (nl ≤ 2199023255488) := Lib.hid (by have := Fo.len_le L1; omega)
    have HSZ : Hid (L1.size ≤ 100000) := Lib.hid (by omega)
    have HE1 := Lib.hid ee1
    have HL1 := Lib.hid eL1
    clear hm hb hsz hfo enl ee1 eL1 HZ HFOk HGk HHk HBk HZk EWk EGk
    by_cases h1 : e1 = 0
    · have d1 : ((e1 : Int) != 0) = false := by rw [h1]; rfl
      have HS1 : Hid ((itA1 bs).err = 0) := Lib.hid (HE1.out.trans h1)
      clear h1
      obtain ⟨st, est⟩ : ∃ s, itSt bs = s := ⟨_, rfl⟩
      have HST := Lib.hid est
      clear est
      obtain ⟨B1, eB⟩ : ∃ B, nxB (itA1 bs) = B := ⟨_, rfl⟩
      obtain ⟨I1, eI⟩ : ∃ I, nxI (itA1 bs) = I := ⟨_, rfl⟩
      have HB1 := Lib.hid eB
      have HI1 := Lib.hid eI
      have HB27 : Hid (hasI 1 L1 = B1) := Lib.hid (by rw [← eB, nxB_0 HS1.out, itA1_at, show (itA1 bs).l = (itA1 bs).l from rfl, HL1.out] <;> rfl)
      have HI27 : Hid (getI 1 L1 = I1) := Lib.hid (by rw [← eI, nxI_0 HS1.out, itA1_at, show (itA1 bs).l = (itA1 bs).l from rfl, HL1.out] <;> rfl)
      clear eB eI
      go_wp2_with (fail)
      refine (refGet_k L1 _ Al nl cl 1 w5 HNL.out HL5.out HGL.out).mono ?_
      rintro _ w6 ⟨⟨dk, dc, dl, dA, dn, dcc, dAs, dns, dcs⟩, rfl, hi, hb⟩
      unfold ItV.val
      dsimp only
      rw [HB27.out]
      rw [HI27.out] at hi
      obtain ⟨w7, ew⟩ : ∃ w', w' = w6.alloc (.cells #[.int .i64 dk, .bool dc, .bool dl, .slice dA dn dcc, .slice dAs dns dcs] 76) := ⟨_, rfl⟩
      obtain ⟨g7, eg7⟩ : ∃ g, g = w6.heap.size := ⟨_, rfl⟩
      have b7 : Below w6.heap.size w6 w7 := by rw [ew]; exact (Below.refl _ _).alloc (Nat.le_refl _) _
      have HQ : Hid (RiQ w w3 w5 gr g4 g7) := Lib.hid ⟨HQ0.out.1, HQ0.out.2.1, HQ0.out.2.2.1, HQ0.out.2.2.2.1, HQ0.out.2.2.2.2.1, by rw [eg7]; exact hb.size, HQ0.out.2.2.2.2.2⟩
      have b57 := hb.trans (b7.mono hb.size)
      have HW7 : Hid (RiW w w3 w5 w7 gr g4 g7 Al L1 #[.int .u16 0, .int .u16 65535, .int .u64 0, .int .u64 0, .bool false, .int .u32 0, .int .i64 0, .int .i64 0, .slice none 0 0] ⟨dk, dc, dl, dA, dn, dcc, dAs, dns, dcs⟩) := Lib.hid ⟨(b57.block gr (heap_lt HG5.out)).trans HG5.out, (b57.block g4 (heap_lt HH5.out)).trans HH5.out, by rw [ew, eg7]; exact heap_alloc_new _ _, HB5.out.trans (b57.mono HB5.out.size), HL5.out.below b57⟩
      have HIT7 := Lib.hid (hi.frame (w' := w7) (fun j _ hj => b7.block j hj) b7.size)
      have EW7 := Lib.hid ew
      have EG7 := Lib.hid eg7
      clear hi hb ew eg7 b7 b57 HG5 HH5 HB5 HL5
      cases B1 with
      | false =>
        have EE : Hid (E = 12 ∧ E ≠ 0) := Lib.hid (by
          have h12 : (itA2 bs).err = 12 := by_none HS1.out HB1.out
          rw [← HE.out, itm2 (by rw [h12]; decide), h12]; exact ⟨rfl, by decide⟩)
        go_upto_region 10 with (fail)
        rw [← EW7.out]
        go_wp2_with (first
          | (refine wpList_load_row rfl 29 (.tmp 4) rfl g4 rfl 29 #[.int .u16 0, .int .u16 65535, .int .u64 0, .int .u64 0, .bool false, .int .u32 0, .int .i64 0, .int .i64 0, .slice none 0 0] (0, 0) _ HW7.out.h Try.underlying29 rfl info_dat ?_)
          | (refine wpList_store_row rfl 29 (.tmp 2) (.tmp 39) rfl gr #[.int .u16 0, .int .u16 65535, .int .u64 0, .int .u64 0, .bool false, .int .u32 0, .int .i64 0, .int .i64 0, .slice none 0 0] rfl rfl 29 _ HW7.out.g info_dat rfl (nine_one _ _ _ _ _ _ _ _ _ _ _) ?_))
        have HBF := Lib.hid (below_setRow (g := gr) HW7.out.b (Nat.le_of_eq EGR.out.symm) #[.int .u16 0, .int .u16 65535, .int .u64 0, .int .u64 0, .bool false, .int .u32 0, .int .i64 0, .int .i64 0, .slice none 0 0])
        refine bodyPost_ret (v := .tuple #[.agg #[.int .u16 0, .int .u16 65535, .int .u64 0, .int .u64 0, .bool false, .int .u32 0, .int .i64 0, .int .i64 0, .slice none 0 0], .int .i64 12]) (ritems_results _ gr 29 _ (0, 0) 12 rfl rfl _ (setRow_heap w7 gr _ _ _ _ HW7.out.g) info_dat) rfl ?_
        rw [EE.out.1]
        exact ⟨_, rfl, ⟨rfl, nine_one _ _ _ _ _ _ _ _ _ _ _, fun h => absurd (EE.out.1.trans h) EE.out.2⟩, HBF.out⟩
      | true =>
        go_upto_region 11 with (fail)
        rw [← EW7.out, ← EG7.out]
        obtain ⟨⟨x0, x1, x2, x3, x4⟩, -⟩ := five_of HW7.out.x
        dsimp only at x0 x1 x2 x3 x4
        obtain ⟨hli, ht, -, -, -, -, -⟩ := HIT7.out.parts
        dsimp only at hli ht
        have HLI7 := Lib.hid hli
        have HT7 := Lib.hid ht
        clear hli ht
        have bad1 : (itL I1 = true ∨ (itB I1).length ≠ 2) → E = 3 ∧ E ≠ 0 := fun h => by
          have h3 : (itA2 bs).err = 3 := by_bad HB1.out (by rw [HI1.out]; exact h)
          rw [← HE.out, itm2 (by rw [h3]; decide), h3]; exact ⟨rfl, by decide⟩
        have BAD1 := Lib.hid bad1
        clear bad1
        cases dl with
        | true =>
          have EE : Hid (E = 3 ∧ E ≠ 0) := Lib.hid (BAD1.out (.inl HLI7.out.symm))
          go_upto_region 12 with (fail)
          clear x0 x1 x2 x3 x4
          go_wp2_with (first
            | (refine wpList_load_row rfl 29 (.tmp 4) rfl g4 rfl 29 #[.int .u16 0, .int .u16 65535, .int .u64 0, .int .u64 0, .bool false, .int .u32 0, .int .i64 0, .int .i64 0, .slice none 0 0] (0, 0) _ HW7.out.h Try.underlying29 rfl info_dat ?_)
            | (refine wpList_store_row rfl 29 (.tmp 2) (.tmp 48) rfl gr #[.int .u16 0, .int .u16 65535, .int .u64 0, .int .u64 0, .bool false, .int .u32 0, .int .i64 0, .int .i64 0, .slice none 0 0] rfl rfl 29 _ HW7.out.g info_dat rfl (nine_one _ _ _ _ _ _ _ _ _ _ _) ?_))
          have HBF := Lib.hid (below_setRow (g := gr) HW7.out.b (Nat.le_of_eq EGR.out.symm) #[.int .u16 0, .int .u16 65535, .int .u64 0, .int .u64 0, .bool false, .int .u32 0, .int .i64 0, .int .i64 0, .slice none 0 0])
          refine bodyPost_ret (v := .tuple #[.agg #[.int .u16 0, .int .u16 65535, .int .u64 0, .int .u64 0, .bool false, .int .u32 0, .int .i64 0, .int .i64 0, .slice none 0 0], .int .i64 3]) (ritems_results _ gr 29 _ (0, 0) 3 rfl rfl _ (setRow_heap w7 gr _ _ _ _ HW7.out.g) info_dat) rfl ?_
          rw [EE.out.1]
          exact ⟨_, rfl, ⟨rfl, nine_one _ _ _ _ _ _ _ _ _ _ _, fun h => absurd (EE.out.1.trans h) EE.out.2⟩, HBF.out⟩
        | false =>
          by_cases hd2 : dn = 2
          · subst hd2
            obtain ⟨he2, hb2⟩ : (itA2 bs).err = 0 ∧ byB (itA1 bs) 2 = itB I1 := by
              have := by_good (n := 2) HB1.out (by rw [HI1.out]; exact HLI7.out.symm) (by rw [HI1.out]; exact HT7.out.1)
              rw [HI1.out] at this; exact this
            have HS2 := Lib.hid he2
            have hst : beN (itB I1) = st := by rw [← HST.out, itSt, hb2]
            have hst2 : st < 65536 := by rw [← HST.out]; exact itSt_lt bs
            have ys := u16w' hst2
            have HSTb := Lib.hid hst
            clear he2 hb2 hst hst2
            go_wp2_with (fail)
            refine (refNumber_c (itB I1) dA 2 dcc w7 HT7.out.1 HT7.out.2.1 (by decide)).mono ?_
            rintro _ _ ⟨rfl, rfl⟩
            rw [HSTb.out]
            clear x0 x1 x2 x3 x4
            have f0 : w7.frozen? ⟨g4, 0, none⟩ = false := heap_free HW7.out.h 0
            have c0 : w7.cell? ⟨g4, 0, none⟩ = some (.int .u16 0) := (heap_cell HW7.out.h 0).trans rfl
            go_upto_region 14 with (fail)
            obtain ⟨w8, ew⟩ : ∃ w', w' = w7.setCell ⟨g4, 0, none⟩ (.int .u16 (st : Int)) := ⟨_, rfl⟩
            rw [← ew]
            have HW8 : Hid (RiW w w3 w5 w8 gr g4 g7 Al L1 #[.int .u16 (st : Int), .int .u16 65535, .int .u64 0, .int .u64 0, .bool false, .int .u32 0, .int .i64 0, .int .i64 0, .slice none 0 0] ⟨dk, dc, false, dA, 2, dcc, dAs, dns, dcs⟩) := Lib.hid (HW7.out.setH HQ.out (by rw [ew]; exact Keeps.set (fun j => j = g4) w7 ⟨g4, 0, none⟩ _ rfl) (by rw [ew]; exact (heap_set HW7.out.h 0 _).trans rfl))
            clear f0 c0 ew ys HW7 HIT7 EW7 EG7 HLI7 HT7 HSTb BAD1
            obtain ⟨ec, eec⟩ : ∃ e, itEc bs = e := ⟨_, rfl⟩
            have HEC := Lib.hid eec
            clear eec
            obtain ⟨B2, eB⟩ : ∃ B, nxB (itA2 bs) = B := ⟨_, rfl⟩
            obtain ⟨I2, eI⟩ : ∃ I, nxI (itA2 bs) = I := ⟨_, rfl⟩
            have HB2 := Lib.hid eB
            have HI2 := Lib.hid eI
            have HB210 : Hid (hasI 2 L1 = B2) := Lib.hid (by rw [← eB, nxB_0 HS2.out, itA2_at, itA2_l, HL1.out] <;> rfl)
            have HI210 : Hid (getI 2 L1 = I2) := Lib.hid (by rw [← eI, nxI_0 HS2.out, itA2_at, itA2_l, HL1.out] <;> rfl)
            clear eB eI
            go_wp2_with (fail)
            refine (refGet_k L1 _ Al nl cl 2 w8 HNL.out HW8.out.l HGL.out).mono ?_
            rintro _ w9 ⟨⟨ek, ec_, el, eA, en, ecc, eAs, ens, ecs⟩, rfl, hi, hb⟩
            unfold ItV.val
            dsimp only
            rw [HB210.out]
            rw [HI210.out] at hi
            have hw9 := HW8.out.below hb
            obtain ⟨w10, ew⟩ : ∃ w', w' = w9.setRow g7 (ItV.cells ⟨ek, ec_, el, eA, en, ecc, eAs, ens, ecs⟩).toArray := ⟨_, rfl⟩
            have hk : Keeps (fun j => j = g7) w9 w10 := by rw [ew]; exact (Zg.row hw9.x).1
            have HX9 : Hid (w9.heap[g7]? = some (.cells _ 76 (0, 0))) := Lib.hid hw9.x
            have HW10 : Hid (RiW w w3 w5 w10 gr g4 g7 Al L1 #[.int .u16 (st : Int), .int .u16 65535, .int .u64 0, .int .u64 0, .bool false, .int .u32 0, .int .i64 0, .int .i64 0, .slice none 0 0] ⟨ek, ec_, el, eA, en, ecc, eAs, ens, ecs⟩) := Lib.hid (hw9.setX HQ.out hk (by rw [ew]; exact setRow_heap _ _ _ _ _ _ hw9.x))
            have HIT10 := Lib.hid (hi.frame (w' := w10) (fun j (hj : w3.heap.size ≤ j ∧ j < w5.heap.size) hl => hk.block j hl (by have := HQ.out.h6; omega)) hk.size)
            have EW10 := Lib.hid ew
            clear hi hb hw9 ew hk 
            go_upto_if 59 with (first | (refine wpList_store_row rfl 76 (.tmp 7) (.tmp 57) rfl g7 (ItV.cells ⟨ek, ec_, el, eA, en, ecc, eAs, ens, ecs⟩).toArray rfl rfl 76 _ HX9.out info_itm rfl item_one ?_))
            rw [← EW10.out]
            go_cut [] (fun wx => ∃ d, Hid ((itA3 bs).err = 0) ∧ Hid (RiW w w3 w5 wx gr g4 g7 Al L1 #[.int .u16 (st : Int), .int .u16 (ec : Int), .int .u64 0, .int .u64 0, .bool false, .int .u32 0, .int .i64 0, .int .i64 0, .slice none 0 0] d))
            case first =>
              cases B2 with
              | false =>
                obtain ⟨he3, hec⟩ := ec_none HS2.out HB2.out
                have h5 : ec = 65535 := by rw [← HEC.out]; exact hec
                have HS3 : Hid ((itA3 bs).err = 0) := Lib.hid he3
                have H5 := Lib.hid h5
                clear he3 hec h5
                go_wp2_with (fail)
                go_meet
                exact ⟨_, HS3, by rw [H5.out]; exact HW10⟩
              | true =>
                obtain ⟨⟨x0, x1, x2, x3, x4⟩, -⟩ := five_of HW10.out.x
                dsimp only at x0 x1 x2 x3 x4
                obtain ⟨hli, ht, -, -, -, -, -⟩ := HIT10.out.parts
                dsimp only at hli ht
                have HLI := Lib.hid hli
                have HT := Lib.hid ht
                clear hli ht
                have bad2 : (itL I2 = true ∨ (itB I2).length ≠ 2) → E = 3 ∧ E ≠ 0 := fun h => by
                  have h3 : (itA3 bs).err = 3 := ec_bad HB2.out (by rw [HI2.out]; exact h)
                  rw [← HE.out, itm3 (by rw [h3]; decide), h3]; exact ⟨rfl, by decide⟩
                have BAD2 := Lib.hid bad2
                clear bad2
                cases el with
                | true =>
                  have EE : Hid (E = 3 ∧ E ≠ 0) := Lib.hid (BAD2.out (.inl HLI.out.symm))
                  go_upto_region 17 with (fail)
                  clear x0 x1 x2 x3 x4
                  go_wp2_with (first
                    | (refine wpList_load_row rfl 29 (.tmp 4) rfl g4 rfl 29 #[.int .u16 (st : Int), .int .u16 65535, .int .u64 0, .int .u64 0, .bool false, .int .u32 0, .int .i64 0, .int .i64 0, .slice none 0 0] (0, 0) _ HW10.out.h Try.underlying29 rfl info_dat ?_)
                    | (refine wpList_store_row rfl 29 (.tmp 2) (.tmp 74) rfl gr #[.int .u16 (st : Int), .int .u16 65535, .int .u64 0, .int .u64 0, .bool false, .int .u32 0, .int .i64 0, .int .i64 0, .slice none 0 0] rfl rfl 29 _ HW10.out.g info_dat rfl (nine_one _ _ _ _ _ _ _ _ _ _ _) ?_))
                  have HBF := Lib.hid (below_setRow (g := gr) HW10.out.b (Nat.le_of_eq EGR.out.symm) #[.int .u16 (st : Int), .int .u16 65535, .int .u64 0, .int .u64 0, .bool false, .int .u32 0, .int .i64 0, .int .i64 0, .slice none 0 0])
                  refine bodyPost_ret (v := .tuple #[.agg #[.int .u16 (st : Int), .int .u16 65535, .int .u64 0, .int .u64 0, .bool false, .int .u32 0, .int .i64 0, .int .i64 0, .slice none 0 0], .int .i64 3]) (ritems_results _ gr 29 _ (0, 0) 3 rfl rfl _ (setRow_heap w10 gr _ _ _ _ HW10.out.g) info_dat) rfl ?_
                  rw [EE.out.1]
                  exact ⟨_, rfl, ⟨rfl, nine_one _ _ _ _ _ _ _ _ _ _ _, fun h => absurd (EE.out.1.trans h) EE.out.2⟩, HBF.out⟩
                | false =>
                  by_cases hd2 : en = 2
                  · subst hd2
                    obtain ⟨he1, he2⟩ := ec_some HB2.out (by rw [HI2.out]; exact HLI.out.symm) (by rw [HI2.out]; exact HT.out.1)
                    rw [HI2.out] at he1 he2
                    have hec : beN (itB I2) = ec := by rw [← HEC.out, itEc, he1]
                    rw [hec] at he2
                    have hec2 : ec < 65536 := by rw [← hec]; have := beN_lt (itB I2); rw [HT.out.1] at this; exact this
                    have HECb := Lib.hid hec
                    have HE2 : Hid ((itA3 bs).err = if ec = 65535 then 3 else 0) := Lib.hid he2
                    have ye := u16w' hec2
                    clear he1 he2 hec hec2
                    by_cases h5 : ec = 65535
                    · have EE : Hid (E = 3 ∧ E ≠ 0) := Lib.hid (by
                        have h3 : (itA3 bs).err = 3 := HE2.out.trans (if_pos h5)
                        rw [← HE.out, itm3 (by rw [h3]; decide), h3]; exact ⟨rfl, by decide⟩)
                      have d5 : ((ec : Int) == 65535) = true := by rw [h5]; rfl
                      clear h5
                      go_wp2_with (fail)
                      refine (refNumber_c (itB I2) eA 2 ecc w10 HT.out.1 HT.out.2.1 (by decide)).mono ?_
                      rintro _ _ ⟨rfl, rfl⟩
                      rw [HECb.out]
                      go_upto_region 17 with (fail)
                      clear x0 x1 x2 x3 x4
                      go_wp2_with (first
                        | (refine wpList_load_row rfl 29 (.tmp 4) rfl g4 rfl 29 #[.int .u16 (st : Int), .int .u16 65535, .int .u64 0, .int .u64 0, .bool false, .int .u32 0, .int .i64 0, .int .i64 0, .slice none 0 0] (0, 0) _ HW10.out.h Try.underlying29 rfl info_dat ?_)
                        | (refine wpList_store_row rfl 29 (.tmp 2) (.tmp 74) rfl gr #[.int .u16 (st : Int), .int .u16 65535, .int .u64 0, .int .u64 0, .bool false, .int .u32 0, .int .i64 0, .int .i64 0, .slice none 0 0] rfl rfl 29 _ HW10.out.g info_dat rfl (nine_one _ _ _ _ _ _ _ _ _ _ _) ?_))
                      have HBF := Lib.hid (below_setRow (g := gr) HW10.out.b (Nat.le_of_eq EGR.out.symm) #[.int .u16 (st : Int), .int .u16 65535, .int .u64 0, .int .u64 0, .bool false, .int .u32 0, .int .i64 0, .int .i64 0, .slice none 0 0])
                      refine bodyPost_ret (v := .tuple #[.agg #[.int .u16 (st : Int), .int .u16 65535, .int .u64 0, .int .u64 0, .bool false, .int .u32 0, .int .i64 0, .int .i64 0, .slice none 0 0], .int .i64 3]) (ritems_results _ gr 29 _ (0, 0) 3 rfl rfl _ (setRow_heap w10 gr _ _ _ _ HW10.out.g) info_dat) rfl ?_
                      rw [EE.out.1]
                      exact ⟨_, rfl, ⟨rfl, nine_one _ _ _ _ _ _ _ _ _ _ _, fun h => absurd (EE.out.1.trans h) EE.out.2⟩, HBF.out⟩
                    · have HS3 : Hid ((itA3 bs).err = 0) := Lib.hid (HE2.out.trans (if_neg h5))
                      have d5 : ((ec : Int) == 65535) = false := by rw [beq_eq_false_iff_ne]; omega
                      clear h5
                      go_wp2_with (fail)
                      refine (refNumber_c (itB I2) eA 2 ecc w10 HT.out.1 HT.out.2.1 (by decide)).mono ?_
                      rintro _ _ ⟨rfl, rfl⟩
                      rw [HECb.out]
                      go_wp2_with (fail)
                      refine (refNumber_c (itB I2) eA 2 ecc w10 HT.out.1 HT.out.2.1 (by decide)).mono ?_
                      rintro _ _ ⟨rfl, rfl⟩
                      rw [HECb.out]
                      clear x0 x1 x2 x3 x4
                      have f1 : w10.frozen? ⟨g4, 1, none⟩ = false := heap_free HW10.out.h 1
                      have c1 : w10.cell? ⟨g4, 1, none⟩ = some (.int .u16 65535) := (heap_cell HW10.out.h 1).trans rfl
                      have HW11 : Hid (RiW w w3 w5 (w10.setCell ⟨g4, 1, none⟩ (.int .u16 (ec : Int))) gr g4 g7 Al L1 #[.int .u16 (st : Int), .int .u16 (ec : Int), .int .u64 0, .int .u64 0, .bool false, .int .u32 0, .int .i64 0, .int .i64 0, .slice none 0 0] ⟨ek, ec_, false, eA, 2, ecc, eAs, ens, ecs⟩) := Lib.hid (HW10.out.setH HQ.out (Keeps.set (fun j => j = g4) w10 ⟨g4, 1, none⟩ _ rfl) ((heap_set HW10.out.h 1 _).trans rfl))
                      go_wp2_with (fail)
                      go_meet
                      exact ⟨_, HS3, HW11⟩
                  · have EE : Hid (E = 3 ∧ E ≠ 0) := Lib.hid (BAD2.out (.inr (by rw [HT.out.1]; exact hd2)))
                    have dd : ((en : Int) != 2) = true := by rw [bne_iff_ne]; omega
                    clear hd2
                    go_upto_region 17 with (fail)
                    clear x0 x1 x2 x3 x4
                    go_wp2_with (first
                      | (refine wpList_load_row rfl 29 (.tmp 4) rfl g4 rfl 29 #[.int .u16 (st : Int), .int .u16 65535, .int .u64 0, .int .u64 0, .bool false, .int .u32 0, .int .i64 0, .int .i64 0, .slice none 0 0] (0, 0) _ HW10.out.h Try.underlying29 rfl info_dat ?_)
                      | (refine wpList_store_row rfl 29 (.tmp 2) (.tmp 74) rfl gr #[.int .u16 (st : Int), .int .u16 65535, .int .u64 0, .int .u64 0, .bool false, .int .u32 0, .int .i64 0, .int .i64 0, .slice none 0 0] rfl rfl 29 _ HW10.out.g info_dat rfl (nine_one _ _ _ _ _ _ _ _ _ _ _) ?_))
                    have HBF := Lib.hid (below_setRow (g := gr) HW10.out.b (Nat.le_of_eq EGR.out.symm) #[.int .u16 (st : Int), .int .u16 65535, .int .u64 0, .int .u64 0, .bool false, .int .u32 0, .int .i64 0, .int .i64 0, .slice none 0 0])
                    refine bodyPost_ret (v := .tuple #[.agg #[.int .u16 (st : Int), .int .u16 65535, .int .u64 0, .int .u64 0, .bool false, .int .u32 0, .int .i64 0, .int .i64 0, .slice none 0 0], .int .i64 3]) (ritems_results _ gr 29 _ (0, 0) 3 rfl rfl _ (setRow_heap w10 gr _ _ _ _ HW10.out.g) info_dat) rfl ?_
                    rw [EE.out.1]
                    exact ⟨_, rfl, ⟨rfl, nine_one _ _ _ _ _ _ _ _ _ _ _, fun h => absurd (EE.out.1.trans h) EE.out.2⟩, HBF.out⟩
            case rest =>
            clear HW8 HW10 HIT10 EW10 HB2 HI2 HB210 HI210 HX9 HS1 HS2 HA1
            obtain ⟨w11, ew⟩ : ∃ x, x = wc := ⟨_, rfl⟩
            rw [← ew] at hcut ⊢
            clear ew
            obtain ⟨d11, HS3, HW11⟩ := hcut
            go_wp2_with (fail)
            go_loopw [9] (fun k wr => ∃ (q : Nat) (d : ItV), k = .int .i64 q ∧ 3 ≤ q ∧ q ≤ 5 ∧ Hid ((stQ bs q).err = 0) ∧ Hid (RiW w w3 w5 wr gr g4 g7 Al L1 (csQ bs st ec q) d)) (fun k _ => 5 - (intOf k).toNat)
            case atStart => exact ⟨3, d11, rfl, by omega, by omega, HS3, HW11⟩
            case round =>
              obtain ⟨w12, ew⟩ : ∃ x, x = wr := ⟨_, rfl⟩
              rw [← ew] at hrel ⊢
              clear ew
              obtain ⟨q, d12, rfl, hq3, hq5, HSq, HW12⟩ := hrel
              clear HW11 HS3
              by_cases hlt : q < 5
              · have hlt' : (q : Int) < 5 := by omega
                by_cases hq : q = 3
                · have d3 : ((q : Int) == 3) = true := by rw [hq]; rfl
                  have HQ3 := Lib.hid hq
                  clear hq
                  have HSk : Hid (((itA3 bs)).err = 0) := Lib.hid (by have := HSq.out; rw [HQ3.out] at this; exact this)
                  obtain ⟨B3, eB⟩ : ∃ B, nxB (itA3 bs) = B := ⟨_, rfl⟩
                  obtain ⟨I3, eI⟩ : ∃ I, nxI (itA3 bs) = I := ⟨_, rfl⟩
                  have HB3 := Lib.hid eB
                  have HI3 := Lib.hid eI
                  have HB214 : Hid (hasI (q : Int) L1 = B3) := Lib.hid (by rw [← eB, nxB_0 HSk.out, HQ3.out, itA3_at, itA3_l, HL1.out] <;> rfl)
                  have HI214 : Hid (getI (q : Int) L1 = I3) := Lib.hid (by rw [← eI, nxI_0 HSk.out, HQ3.out, itA3_at, itA3_l, HL1.out] <;> rfl)
                  clear eB eI
                  go_wp2_with (fail)
                  refine (refGet_k L1 _ Al nl cl (q : Int) w12 HNL.out HW12.out.l HGL.out).mono ?_
                  rintro _ w13 ⟨⟨fk, fc, fl, fA, fn_, fcc, fAs, fns, fcs⟩, rfl, hi, hb⟩
                  unfold ItV.val
                  dsimp only
                  rw [HB214.out]
                  rw [HI214.out] at hi
                  have hw13 := HW12.out.below hb
                  obtain ⟨w14, ew⟩ : ∃ w', w' = w13.setRow g7 (ItV.cells ⟨fk, fc, fl, fA, fn_, fcc, fAs, fns, fcs⟩).toArray := ⟨_, rfl⟩
                  have hk : Keeps (fun j => j = g7) w13 w14 := by rw [ew]; exact (Zg.row hw13.x).1
                  have HX13 : Hid (w13.heap[g7]? = some (.cells _ 76 (0, 0))) := Lib.hid hw13.x
                  have HW14 : Hid (RiW w w3 w5 w14 gr g4 g7 Al L1 (csQ bs st ec q) ⟨fk, fc, fl, fA, fn_, fcc, fAs, fns, fcs⟩) := Lib.hid (hw13.setX HQ.out hk (by rw [ew]; exact setRow_heap _ _ _ _ _ _ hw13.x))
                  have HIT14 := Lib.hid (hi.frame (w' := w14) (fun j (hj : w3.heap.size ≤ j ∧ j < w5.heap.size) hl => hk.block j hl (by have := HQ.out.h6; omega)) hk.size)
                  have EW14 := Lib.hid ew
                  clear hi hb hw13 ew hk 
                  go_upto_if 90 with (first | (refine wpList_store_row rfl 76 (.tmp 7) (.tmp 88) rfl g7 (ItV.cells ⟨fk, fc, fl, fA, fn_, fcc, fAs, fns, fcs⟩).toArray rfl rfl 76 _ HX13.out info_itm rfl item_one ?_))
                  rw [← EW14.out]
                  have HC : Hid (csQ bs st ec q = #[.int .u16 (st : Int), .int .u16 (ec : Int), .int .u64 (akQ bs q : Int), .int .u64 (thQ bs q : Int), .bool false, .int .u32 0, .int .i64 0, .int .i64 0, .slice none 0 0]) := Lib.hid rfl
                  cases B3 with
                  | false =>
                    have HSn : Hid ((stQ bs (q + 1)).err = 0) := Lib.hid (by rw [HQ3.out]; exact nuS_absent HSk.out HB3.out)
                    have HCn : Hid (csQ bs st ec (q + 1) = csQ bs st ec q) := Lib.hid (by
                      have hz : itAk bs = 0 := nuN_none HB3.out
                      rw [HQ3.out]
                      simp [csQ, akQ, thQ, hz])
                    go_wp2_with (fail)
                    go_roundw
                    case rel => exact ⟨q + 1, _, by go_num, by omega, by omega, HSn, by rw [HCn.out]; exact HW14⟩
                    case measure => simp [intOf]; omega
                  | true =>
                    obtain ⟨⟨x0, x1, x2, x3, x4⟩, -⟩ := five_of HW14.out.x
                    dsimp only at x0 x1 x2 x3 x4
                    obtain ⟨hli, ht, -, -, -, -, -⟩ := HIT14.out.parts
                    dsimp only at hli ht
                    have HLI := Lib.hid hli
                    have HT := Lib.hid ht
                    clear hli ht
                    go_wp2_with (fail)
                    clear x0 x1 x2 x3 x4
                    refine (whole_c fk fc fl fA fn_ fcc fAs fns fcs I3 w14 HLI.out HT.out.1 HT.out.2.1 HT.out.2.2.1 HT.out.2.2.2.1 HT.out.2.2.2.2.2).mono ?_
                    rintro _ w15 ⟨rfl, hb⟩
                    obtain ⟨V, eV⟩ : ∃ V, whN I3 = V := ⟨_, rfl⟩
                    obtain ⟨R, eR⟩ : ∃ V, whB I3 = V := ⟨_, rfl⟩
                    rw [eV, eR]
                    have HV : Hid (nuN (itA3 bs) = V) := Lib.hid (by rw [nuN_some HB3.out, HI3.out, eV])
                    have HR := Lib.hid eR
                    have HW15 := Lib.hid (HW14.out.below hb)
                    clear eV eR hb HW14
                    cases R with
                    | false =>
                      have EE : Hid (E = 3 ∧ E ≠ 0) := Lib.hid (by
                        have h3 : (itA4 bs).err = 3 := nuS_wrong HB3.out (by rw [HI3.out]; exact HR.out) false
                        rw [← HE.out, itm4 (by rw [h3]; decide), h3]; exact ⟨rfl, by decide⟩)
                      go_wp2_with (first
                        | (refine wpList_load_row rfl 29 (.tmp 4) rfl g4 rfl 29 (csQ bs st ec q) (0, 0) _ HW15.out.h Try.underlying29 rfl info_dat ?_)
                        | (refine wpList_store_row rfl 29 (.tmp 2) (.tmp 102) rfl gr (csQ bs st ec q) rfl rfl 29 _ HW15.out.g info_dat rfl (csQ_one _ _ _ _) ?_))
                      have HBF := Lib.hid (below_setRow (g := gr) HW15.out.b (Nat.le_of_eq EGR.out.symm) (csQ bs st ec q))
                      refine bodyPost_ret (v := .tuple #[.agg (csQ bs st ec q), .int .i64 3]) (ritems_results _ gr 29 _ (0, 0) 3 rfl rfl _ (setRow_heap w15 gr _ _ _ _ HW15.out.g) info_dat) rfl ?_
                      rw [EE.out.1]
                      exact ⟨_, rfl, ⟨rfl, csQ_one _ _ _ _, fun h => absurd (EE.out.1.trans h) EE.out.2⟩, HBF.out⟩
                    | true =>
                      by_cases hV : V = 0
                      · have dv : ((V : Int) == 0) = true := by rw [hV]; rfl
                        have EE : Hid (E = 3 ∧ E ≠ 0) := Lib.hid (by
                          have h3 : (itA4 bs).err = 3 := nuS_zero HB3.out (HV.out.trans hV)
                          rw [← HE.out, itm4 (by rw [h3]; decide), h3]; exact ⟨rfl, by decide⟩)
                        clear hV
                        go_wp2_with (first
                          | (refine wpList_load_row rfl 29 (.tmp 4) rfl g4 rfl 29 (csQ bs st ec q) (0, 0) _ HW15.out.h Try.underlying29 rfl info_dat ?_)
                          | (refine wpList_store_row rfl 29 (.tmp 2) (.tmp 102) rfl gr (csQ bs st ec q) rfl rfl 29 _ HW15.out.g info_dat rfl (csQ_one _ _ _ _) ?_))
                        have HBF := Lib.hid (below_setRow (g := gr) HW15.out.b (Nat.le_of_eq EGR.out.symm) (csQ bs st ec q))
                        refine bodyPost_ret (v := .tuple #[.agg (csQ bs st ec q), .int .i64 3]) (ritems_results _ gr 29 _ (0, 0) 3 rfl rfl _ (setRow_heap w15 gr _ _ _ _ HW15.out.g) info_dat) rfl ?_
                        rw [EE.out.1]
                        exact ⟨_, rfl, ⟨rfl, csQ_one _ _ _ _, fun h => absurd (EE.out.1.trans h) EE.out.2⟩, HBF.out⟩
                      · have dv : ((V : Int) == 0) = false := by rw [beq_eq_false_iff_ne]; omega
                        have HSn : Hid ((stQ bs (q + 1)).err = 0) := Lib.hid (by rw [HQ3.out]; exact nuS_good HB3.out (by rw [HI3.out]; exact HR.out) (by rw [HV.out]; exact hV))
                        clear hV
                        have f2 : w15.frozen? ⟨g4, 2, none⟩ = false := heap_free HW15.out.h 2
                        have c2 : w15.cell? ⟨g4, 2, none⟩ = some (.int .u64 (akQ bs q : Int)) := (heap_cell HW15.out.h 2).trans rfl
                        have HW16 : Hid (RiW w w3 w5 (w15.setCell ⟨g4, 2, none⟩ (.int .u64 (V : Int))) gr g4 g7 Al L1 (csQ bs st ec (q + 1)) ⟨fk, fc, fl, fA, fn_, fcc, fAs, fns, fcs⟩) := Lib.hid (HW15.out.setH HQ.out (Keeps.set (fun j => j = g4) w15 ⟨g4, 2, none⟩ _ rfl) (by
                          have h := heap_set HW15.out.h 2 (.int .u64 (V : Int))
                          unfold csQ at h
                          simp only [List.setIfInBounds_toArray, List.set_cons_zero, List.set_cons_succ] at h
                          have hv' : itAk bs = V := HV.out
                          rw [h, ← hv', HQ3.out]
                          rfl))
                        go_wp2_with (fail)
                        go_roundw
                        case rel => exact ⟨q + 1, _, by go_num, by omega, by omega, HSn, HW16⟩
                        case measure => simp [intOf]; omega
                · have d3 : ((q : Int) == 3) = false := by rw [beq_eq_false_iff_ne]; omega
                  have HQ3 : Hid (q = 4) := Lib.hid (by omega)
                  clear hq
                  have HSk : Hid (((itA4 bs)).err = 0) := Lib.hid (by have := HSq.out; rw [HQ3.out] at this; exact this)
                  obtain ⟨B3, eB⟩ : ∃ B, nxB (itA4 bs) = B := ⟨_, rfl⟩
                  obtain ⟨I3, eI⟩ : ∃ I, nxI (itA4 bs) = I := ⟨_, rfl⟩
                  have HB3 := Lib.hid eB
                  have HI3 := Lib.hid eI
                  have HB214 : Hid (hasI (q : Int) L1 = B3) := Lib.hid (by rw [← eB, nxB_0 HSk.out, HQ3.out, itA4_at, itA4_l, HL1.out] <;> rfl)
                  have HI214 : Hid (getI (q : Int) L1 = I3) := Lib.hid (by rw [← eI, nxI_0 HSk.out, HQ3.out, itA4_at, itA4_l, HL1.out] <;> rfl)
                  clear eB eI
                  go_wp2_with (fail)
                  refine (refGet_k L1 _ Al nl cl (q : Int) w12 HNL.out HW12.out.l HGL.out).mono ?_
                  rintro _ w13 ⟨⟨fk, fc, fl, fA, fn_, fcc, fAs, fns, fcs⟩, rfl, hi, hb⟩
                  unfold ItV.val
                  dsimp only
                  rw [HB214.out]
                  rw [HI214.out] at hi
                  have hw13 := HW12.out.below hb
                  obtain ⟨w14, ew⟩ : ∃ w', w' = w13.setRow g7 (ItV.cells ⟨fk, fc, fl, fA, fn_, fcc, fAs, fns, fcs⟩).toArray := ⟨_, rfl⟩
                  have hk : Keeps (fun j => j = g7) w13 w14 := by rw [ew]; exact (Zg.row hw13.x).1
                  have HX13 : Hid (w13.heap[g7]? = some (.cells _ 76 (0, 0))) := Lib.hid hw13.x
                  have HW14 : Hid (RiW w w3 w5 w14 gr g4 g7 Al L1 (csQ bs st ec q) ⟨fk, fc, fl, fA, fn_, fcc, fAs, fns, fcs⟩) := Lib.hid (hw13.setX HQ.out hk (by rw [ew]; exact setRow_heap _ _ _ _ _ _ hw13.x))
                  have HIT14 := Lib.hid (hi.frame (w' := w14) (fun j (hj : w3.heap.size ≤ j ∧ j < w5.heap.size) hl => hk.block j hl (by have := HQ.out.h6; omega)) hk.size)
                  have EW14 := Lib.hid ew
                  clear hi hb hw13 ew hk 
                  go_upto_if 90 with (first | (refine wpList_store_row rfl 76 (.tmp 7) (.tmp 88) rfl g7 (ItV.cells ⟨fk, fc, fl, fA, fn_, fcc, fAs, fns, fcs⟩).toArray rfl rfl 76 _ HX13.out info_itm rfl item_one ?_))
                  rw [← EW14.out]
                  have HC : Hid (csQ bs st ec q = #[.int .u16 (st : Int), .int .u16 (ec : Int), .int .u64 (akQ bs q : Int), .int .u64 (thQ bs q : Int), .bool false, .int .u32 0, .int .i64 0, .int .i64 0, .slice none 0 0]) := Lib.hid rfl
                  cases B3 with
                  | false =>
                    have HSn : Hid ((stQ bs (q + 1)).err = 0) := Lib.hid (by rw [HQ3.out]; exact nuS_absent HSk.out HB3.out)
                    have HCn : Hid (csQ bs st ec (q + 1) = csQ bs st ec q) := Lib.hid (by
                      have hz : itTh bs = 0 := nuN_none HB3.out
                      rw [HQ3.out]
                      simp [csQ, akQ, thQ, hz])
                    go_wp2_with (fail)
                    go_roundw
                    case rel => exact ⟨q + 1, _, by go_num, by omega, by omega, HSn, by rw [HCn.out]; exact HW14⟩
                    case measure => simp [intOf]; omega
                  | true =>
                    obtain ⟨⟨x0, x1, x2, x3, x4⟩, -⟩ := five_of HW14.out.x
                    dsimp only at x0 x1 x2 x3 x4
                    obtain ⟨hli, ht, -, -, -, -, -⟩ := HIT14.out.parts
                    dsimp only at hli ht
                    have HLI := Lib.hid hli
                    have HT := Lib.hid ht
                    clear hli ht
                    go_wp2_with (fail)
                    clear x0 x1 x2 x3 x4
                    refine (whole_c fk fc fl fA fn_ fcc fAs fns fcs I3 w14 HLI.out HT.out.1 HT.out.2.1 HT.out.2.2.1 HT.out.2.2.2.1 HT.out.2.2.2.2.2).mono ?_
                    rintro _ w15 ⟨rfl, hb⟩
                    obtain ⟨V, eV⟩ : ∃ V, whN I3 = V := ⟨_, rfl⟩
                    obtain ⟨R, eR⟩ : ∃ V, whB I3 = V := ⟨_, rfl⟩
                    rw [eV, eR]
                    have HV : Hid (nuN (itA4 bs) = V) := Lib.hid (by rw [nuN_some HB3.out, HI3.out, eV])
                    have HR := Lib.hid eR
                    have HW15 := Lib.hid (HW14.out.below hb)
                    clear eV eR hb HW14
                    cases R with
                    | false =>
                      have EE : Hid (E = 3 ∧ E ≠ 0) := Lib.hid (by
                        have h3 : (itA5 bs).err = 3 := nuS_wrong HB3.out (by rw [HI3.out]; exact HR.out) false
                        rw [← HE.out, itm5 (by rw [h3]; decide), h3]; exact ⟨rfl, by decide⟩)
                      go_wp2_with (first
                        | (refine wpList_load_row rfl 29 (.tmp 4) rfl g4 rfl 29 (csQ bs st ec q) (0, 0) _ HW15.out.h Try.underlying29 rfl info_dat ?_)
                        | (refine wpList_store_row rfl 29 (.tmp 2) (.tmp 102) rfl gr (csQ bs st ec q) rfl rfl 29 _ HW15.out.g info_dat rfl (csQ_one _ _ _ _) ?_))
                      have HBF := Lib.hid (below_setRow (g := gr) HW15.out.b (Nat.le_of_eq EGR.out.symm) (csQ bs st ec q))
                      refine bodyPost_ret (v := .tuple #[.agg (csQ bs st ec q), .int .i64 3]) (ritems_results _ gr 29 _ (0, 0) 3 rfl rfl _ (setRow_heap w15 gr _ _ _ _ HW15.out.g) info_dat) rfl ?_
                      rw [EE.out.1]
                      exact ⟨_, rfl, ⟨rfl, csQ_one _ _ _ _, fun h => absurd (EE.out.1.trans h) EE.out.2⟩, HBF.out⟩
                    | true =>
                      by_cases hV : V = 0
                      · have dv : ((V : Int) == 0) = true := by rw [hV]; rfl
                        have EE : Hid (E = 3 ∧ E ≠ 0) := Lib.hid (by
                          have h3 : (itA5 bs).err = 3 := nuS_zero HB3.out (HV.out.trans hV)
                          rw [← HE.out, itm5 (by rw [h3]; decide), h3]; exact ⟨rfl, by decide⟩)
                        clear hV
                        go_wp2_with (first
                          | (refine wpList_load_row rfl 29 (.tmp 4) rfl g4 rfl 29 (csQ bs st ec q) (0, 0) _ HW15.out.h Try.underlying29 rfl info_dat ?_)
                          | (refine wpList_store_row rfl 29 (.tmp 2) (.tmp 102) rfl gr (csQ bs st ec q) rfl rfl 29 _ HW15.out.g info_dat rfl (csQ_one _ _ _ _) ?_))
                        have HBF := Lib.hid (below_setRow (g := gr) HW15.out.b (Nat.le_of_eq EGR.out.symm) (csQ bs st ec q))
                        refine bodyPost_ret (v := .tuple #[.agg (csQ bs st ec q), .int .i64 3]) (ritems_results _ gr 29 _ (0, 0) 3 rfl rfl _ (setRow_heap w15 gr _ _ _ _ HW15.out.g) info_dat) rfl ?_
                        rw [EE.out.1]
                        exact ⟨_, rfl, ⟨rfl, csQ_one _ _ _ _, fun h => absurd (EE.out.1.trans h) EE.out.2⟩, HBF.out⟩
                      · have dv : ((V : Int) == 0) = false := by rw [beq_eq_false_iff_ne]; omega
                        have HSn : Hid ((stQ bs (q + 1)).err = 0) := Lib.hid (by rw [HQ3.out]; exact nuS_good HB3.out (by rw [HI3.out]; exact HR.out) (by rw [HV.out]; exact hV))
                        clear hV
                        have f2 : w15.frozen? ⟨g4, 3, none⟩ = false := heap_free HW15.out.h 3
                        have c2 : w15.cell? ⟨g4, 3, none⟩ = some (.int .u64 (thQ bs q : Int)) := (heap_cell HW15.out.h 3).trans rfl
                        have HW16 : Hid (RiW w w3 w5 (w15.setCell ⟨g4, 3, none⟩ (.int .u64 (V : Int))) gr g4 g7 Al L1 (csQ bs st ec (q + 1)) ⟨fk, fc, fl, fA, fn_, fcc, fAs, fns, fcs⟩) := Lib.hid (HW15.out.setH HQ.out (Keeps.set (fun j => j = g4) w15 ⟨g4, 3, none⟩ _ rfl) (by
                          have h := heap_set HW15.out.h 3 (.int .u64 (V : Int))
                          unfold csQ at h
                          simp only [List.setIfInBounds_toArray, List.set_cons_zero, List.set_cons_succ] at h
                          have hv' : itTh bs = V := HV.out
                          rw [h, ← hv', HQ3.out]
                          rfl))
                        go_wp2_with (fail)
                        go_roundw
                        case rel => exact ⟨q + 1, _, by go_num, by omega, by omega, HSn, HW16⟩
                        case measure => simp [intOf]; omega
              · have hq : q = 5 := by omega
                have hlt' : ¬ ((q : Int) < 5) := by omega
                have HQ5 := Lib.hid hq
                obtain ⟨ak, eak⟩ : ∃ a, itAk bs = a := ⟨_, rfl⟩
                obtain ⟨th, eth⟩ : ∃ a, itTh bs = a := ⟨_, rfl⟩
                have HS5 : Hid ((itA5 bs).err = 0) := Lib.hid (by have := HSq.out; rw [hq] at this; exact this)
                have hcs : csQ bs st ec q = #[.int .u16 (st : Int), .int .u16 (ec : Int), .int .u64 (ak : Int), .int .u64 (th : Int), .bool false, .int .u32 0, .int .i64 0, .int .i64 0, .slice none 0 0] := by rw [hq, ← eak, ← eth]; rfl
                have hw12 := HW12.out
                rw [hcs] at hw12
                obtain ⟨w13, ew13⟩ : ∃ x, x = w12 := ⟨_, rfl⟩
                rw [← ew13] at hw12 ⊢
                have HW13 := Lib.hid hw12
                have HAK := Lib.hid eak
                have HTH := Lib.hid eth
                clear hq hcs hw12 HW12 HSq hlt eak eth ew13
                obtain ⟨B5, eB⟩ : ∃ B, nxB (itA5 bs) = B := ⟨_, rfl⟩
                obtain ⟨I5, eI⟩ : ∃ I, nxI (itA5 bs) = I := ⟨_, rfl⟩
                have HB5 := Lib.hid eB
                have HI5 := Lib.hid eI
                have HB215 : Hid (hasI 5 L1 = B5) := Lib.hid (by rw [← eB, nxB_0 HS5.out, itA5_at, itA5_l, HL1.out] <;> rfl)
                have HI215 : Hid (getI 5 L1 = I5) := Lib.hid (by rw [← eI, nxI_0 HS5.out, itA5_at, itA5_l, HL1.out] <;> rfl)
                clear eB eI
                go_wp2_with (fail)
                refine (refGet_k L1 _ Al nl cl 5 w13 HNL.out HW13.out.l HGL.out).mono ?_
                rintro _ w14 ⟨⟨hk_, hc_, hl_, hA_, hn_, hcc, hAs, hns, hcs⟩, rfl, hi, hb⟩
                unfold ItV.val
                dsimp only
                rw [HB215.out]
                rw [HI215.out] at hi
                have hw14 := HW13.out.below hb
                obtain ⟨w15, ew⟩ : ∃ w', w' = w14.setRow g7 (ItV.cells ⟨hk_, hc_, hl_, hA_, hn_, hcc, hAs, hns, hcs⟩).toArray := ⟨_, rfl⟩
                have hk : Keeps (fun j => j = g7) w14 w15 := by rw [ew]; exact (Zg.row hw14.x).1
                have HX14 : Hid (w14.heap[g7]? = some (.cells _ 76 (0, 0))) := Lib.hid hw14.x
                have HW15 : Hid (RiW w w3 w5 w15 gr g4 g7 Al L1 #[.int .u16 (st : Int), .int .u16 (ec : Int), .int .u64 (ak : Int), .int .u64 (th : Int), .bool false, .int .u32 0, .int .i64 0, .int .i64 0, .slice none 0 0] ⟨hk_, hc_, hl_, hA_, hn_, hcc, hAs, hns, hcs⟩) := Lib.hid (hw14.setX HQ.out hk (by rw [ew]; exact setRow_heap _ _ _ _ _ _ hw14.x))
                have HIT15 := Lib.hid (hi.frame (w' := w15) (fun j (hj : w3.heap.size ≤ j ∧ j < w5.heap.size) hl => hk.block j hl (by have := HQ.out.h6; omega)) hk.size)
                have EW15 := Lib.hid ew
                clear hi hb hw14 ew hk 
                go_upto_region 31 with (first | (refine wpList_store_row rfl 76 (.tmp 7) (.tmp 112) rfl g7 (ItV.cells ⟨hk_, hc_, hl_, hA_, hn_, hcc, hAs, hns, hcs⟩).toArray rfl rfl 76 _ HX14.out info_itm rfl item_one ?_))
                rw [← EW15.out]
                cases B5 with
                | false =>
                  have EE : Hid (E = 0) := Lib.hid (by rw [← HE.out]; exact itm_none HS5.out HB5.out)
                  have ED : Hid (D = ⟨st, ec, ak, th, false, ⟨0, 0, 0, []⟩⟩) := Lib.hid (by rw [← HDD.out, itmD, if_neg (by rw [HB5.out]; simp), HST.out, HEC.out, HAK.out, HTH.out])
                  go_wp2_with (first
                    | (refine wpList_load_row rfl 29 (.tmp 4) rfl g4 rfl 29 #[.int .u16 (st : Int), .int .u16 (ec : Int), .int .u64 (ak : Int), .int .u64 (th : Int), .bool false, .int .u32 0, .int .i64 0, .int .i64 0, .slice none 0 0] (0, 0) _ HW15.out.h Try.underlying29 rfl info_dat ?_)
                    | (refine wpList_store_row rfl 29 (.tmp 2) (.tmp 116) rfl gr #[.int .u16 (st : Int), .int .u16 (ec : Int), .int .u64 (ak : Int), .int .u64 (th : Int), .bool false, .int .u32 0, .int .i64 0, .int .i64 0, .slice none 0 0] rfl rfl 29 _ HW15.out.g info_dat rfl (nine_one _ _ _ _ _ _ _ _ _ _ _) ?_))
                  have HBF := Lib.hid (below_setRow (g := gr) HW15.out.b (Nat.le_of_eq EGR.out.symm) #[.int .u16 (st : Int), .int .u16 (ec : Int), .int .u64 (ak : Int), .int .u64 (th : Int), .bool false, .int .u32 0, .int .i64 0, .int .i64 0, .slice none 0 0])
                  refine bodyPost_ret (v := .tuple #[.agg #[.int .u16 (st : Int), .int .u16 (ec : Int), .int .u64 (ak : Int), .int .u64 (th : Int), .bool false, .int .u32 0, .int .i64 0, .int .i64 0, .slice none 0 0], .int .i64 0]) (ritems_results _ gr 29 _ (0, 0) 0 rfl rfl _ (setRow_heap w15 gr _ _ _ _ HW15.out.g) info_dat) rfl ?_
                  rw [EE.out]
                  refine ⟨_, rfl, ⟨rfl, nine_one _ _ _ _ _ _ _ _ _ _ _, fun _ => ⟨none, 0, 0, ?_, ?_⟩⟩, HBF.out⟩
                  · rw [ED.out]; rfl
                  · rw [ED.out]; exact (TxtO.nil_ _ _).r
                | true =>
                  obtain ⟨⟨x0, x1, x2, x3, x4⟩, -⟩ := five_of HW15.out.x
                  dsimp only at x0 x1 x2 x3 x4
                  obtain ⟨hli, -, hsub, hns_, -, -, -⟩ := HIT15.out.parts
                  dsimp only at hli hsub hns_
                  have HLI := Lib.hid hli
                  have HSUB := Lib.hid hsub
                  have HNS := Lib.hid hns_
                  clear hli hsub hns_
                  cases hl_ with
                  | false =>
                    have EE : Hid (E = 3 ∧ E ≠ 0) := Lib.hid (by
                      have : itmE bs = 3 := itm_flat HB5.out (by show itL (nxI (itA5 bs)) = false; rw [HI5.out]; exact HLI.out.symm)
                      rw [← HE.out, this]; exact ⟨rfl, by decide⟩)
                    go_upto_region 34 with (fail)
                    clear x0 x1 x2 x3 x4
                    go_wp2_with (first
                      | (refine wpList_load_row rfl 29 (.tmp 4) rfl g4 rfl 29 #[.int .u16 (st : Int), .int .u16 (ec : Int), .int .u64 (ak : Int), .int .u64 (th : Int), .bool false, .int .u32 0, .int .i64 0, .int .i64 0, .slice none 0 0] (0, 0) _ HW15.out.h Try.underlying29 rfl info_dat ?_)
                      | (refine wpList_store_row rfl 29 (.tmp 2) (.tmp 120) rfl gr #[.int .u16 (st : Int), .int .u16 (ec : Int), .int .u64 (ak : Int), .int .u64 (th : Int), .bool false, .int .u32 0, .int .i64 0, .int .i64 0, .slice none 0 0] rfl rfl 29 _ HW15.out.g info_dat rfl (nine_one _ _ _ _ _ _ _ _ _ _ _) ?_))
                    have HBF := Lib.hid (below_setRow (g := gr) HW15.out.b (Nat.le_of_eq EGR.out.symm) #[.int .u16 (st : Int), .int .u16 (ec : Int), .int .u64 (ak : Int), .int .u64 (th : Int), .bool false, .int .u32 0, .int .i64 0, .int .i64 0, .slice none 0 0])
                    refine bodyPost_ret (v := .tuple #[.agg #[.int .u16 (st : Int), .int .u16 (ec : Int), .int .u64 (ak : Int), .int .u64 (th : Int), .bool false, .int .u32 0, .int .i64 0, .int .i64 0, .slice none 0 0], .int .i64 3]) (ritems_results _ gr 29 _ (0, 0) 3 rfl rfl _ (setRow_heap w15 gr _ _ _ _ HW15.out.g) info_dat) rfl ?_
                    rw [EE.out.1]
                    exact ⟨_, rfl, ⟨rfl, nine_one _ _ _ _ _ _ _ _ _ _ _, fun h => absurd (EE.out.1.trans h) EE.out.2⟩, HBF.out⟩
                  | true =>
                    obtain ⟨hE2, hD2⟩ := itm_part (bs := bs) HB5.out (by show itL (nxI (itA5 bs)) = true; rw [HI5.out]; exact HLI.out.symm)
                    have hi5 : itI5 bs = I5 := HI5.out
                    rw [hi5, HE.out] at hE2
                    rw [hi5, HDD.out, HST.out, HEC.out, HAK.out, HTH.out] at hD2
                    have HE2 := Lib.hid hE2
                    have HD2 := Lib.hid hD2
                    clear hE2 hD2 hi5
                    go_upto_region 35 with (fail)
                    go_wp2_with (first
                      | (refine wpList_load_row rfl 29 (.tmp 4) rfl g4 rfl 29 #[.int .u16 (st : Int), .int .u16 (ec : Int), .int .u64 (ak : Int), .int .u64 (th : Int), .bool false, .int .u32 0, .int .i64 0, .int .i64 0, .slice none 0 0] (0, 0) _ HW15.out.h Try.underlying29 rfl info_dat ?_))
                    clear x0 x1 x2 x3 x4
                    refine (refPart_c st ec ak th false 0 0 0 none 0 0 (itS I5) _ hAs hns hcs w15 HNS.out.symm HSUB.out (by rw [← HI5.out]; exact Nat.le_trans (nxI_size _) (by rw [itA5_l, HL1.out]; exact HSZ.out))).mono ?_
                    rintro _ w16 ⟨cs, rfl, ⟨hz, ho, hp⟩, hb⟩
                    rw [← HE2.out]
                    rw [← HE2.out, ← HD2.out] at hp
                    have HW16 := Lib.hid (HW15.out.below hb)
                    have HSI : Hid ((Try.prog.info? 29).map (·.size) = some cs.size) := Lib.hid (by rw [hz]; exact info_dat)
                    have HSZ2 : Hid ((#[.int .u16 0, .int .u16 0, .int .u64 0, .int .u64 0, .bool false, .int .u32 0, .int .i64 0, .int .i64 0, .slice none 0 0] : Array Value).size = cs.size) := Lib.hid (by rw [hz]; rfl)
                    have HSZ9 := Lib.hid hz
                    have HO := Lib.hid ho
                    have HPP := Lib.hid hp
                    have HZ16 : Hid (gr < w15.heap.size) := Lib.hid (heap_lt HW15.out.g)
                    clear hz ho hp hb
                    go_wp2_with (first
                      | (refine wpList_store_row rfl 29 (.tmp 2) (.tmp 125) rfl gr cs rfl rfl 29 _ HW16.out.g HSI.out HSZ2.out HO.out ?_))
                    have HBF := Lib.hid (below_setRow (g := gr) HW16.out.b (Nat.le_of_eq EGR.out.symm) cs)
                    refine bodyPost_ret (v := .tuple #[.agg cs, .int .i64 (E : Int)]) (ritems_results _ gr 29 _ (0, 0) (E : Int) rfl rfl _ (setRow_heap w16 gr _ _ _ _ HW16.out.g) HSI.out) rfl ?_
                    refine ⟨_, rfl, ⟨HSZ9.out, HO.out, fun h0 => ?_⟩, HBF.out⟩
                    obtain ⟨A9, n9, c9, h1, h2⟩ := HPP.out h0
                    refine ⟨A9, n9, c9, h1, ?_⟩
                    have far : ∀ j, ((w3.heap.size ≤ j ∧ j < w5.heap.size) ∨ w15.heap.size ≤ j) → j ≠ gr ∧ w.heap.size ≤ j := fun j hj => by
                      have a1 := HQ.out.h1; have a2 := HQ.out.h4; have a3 := HZ16.out
                      omega
                    exact (h2.frame (fun j hj hl => setRow_other w16 gr j cs (far j hj).1) (by rw [show (w16.setRow gr cs).heap.size = w16.heap.size from by simp [World.setRow]]; exact Nat.le_refl _)).weak (fun j hj _ => (far j hj).2)
          · have EE : Hid (E = 3 ∧ E ≠ 0) := Lib.hid (BAD1.out (.inr (by rw [HT7.out.1]; exact hd2)))
            have dd : ((dn : Int) != 2) = true := by rw [bne_iff_ne]; omega
            clear hd2
            go_upto_region 12 with (fail)
            clear x0 x1 x2 x3 x4
            go_wp2_with (first
              | (refine wpList_load_row rfl 29 (.tmp 4) rfl g4 rfl 29 #[.int .u16 0, .int .u16 65535, .int .u64 0, .int .u64 0, .bool false, .int .u32 0, .int .i64 0, .int .i64 0, .slice none 0 0] (0, 0) _ HW7.out.h Try.underlying29 rfl info_dat ?_)
              | (refine wpList_store_row rfl 29 (.tmp 2) (.tmp 48) rfl gr #[.int .u16 0, .int .u16 65535, .int .u64 0, .int .u64 0, .bool false, .int .u32 0, .int .i64 0, .int .i64 0, .slice none 0 0] rfl rfl 29 _ HW7.out.g info_dat rfl (nine_one _ _ _ _ _ _ _ _ _ _ _) ?_))
            have HBF := Lib.hid (below_setRow (g := gr) HW7.out.b (Nat.le_of_eq EGR.out.symm) #[.int .u16 0, .int .u16 65535, .int .u64 0, .int .u64 0, .bool false, .int .u32 0, .int .i64 0, .int .i64 0, .slice none 0 0])
            refine bodyPost_ret (v := .tuple #[.agg #[.int .u16 0, .int .u16 65535, .int .u64 0, .int .u64 0, .bool false, .int .u32 0, .int .i64 0, .int .i64 0, .slice none 0 0], .int .i64 3]) (ritems_results _ gr 29 _ (0, 0) 3 rfl rfl _ (setRow_heap w7 gr _ _ _ _ HW7.out.g) info_dat) rfl ?_
            rw [EE.out.1]
            exact ⟨_, rfl, ⟨rfl, nine_one _ _ _ _ _ _ _ _ _ _ _, fun h => absurd (EE.out.1.trans h) EE.out.2⟩, HBF.out⟩
    · have d1 : ((e1 : Int) != 0) = true := by rw [bne_iff_ne]; omega
      have EE : Hid (E = e1 ∧ E ≠ 0) := Lib.hid (by
        have : E = e1 := by rw [← HE.out, itm1 (by rw [HE1.out]; exact h1), HE1.out]
        exact ⟨this, by rw [this]; exact h1⟩)
      clear h1
      go_wp2_with (first
        | (refine wpList_load_row rfl 29 (.tmp 4) rfl g4 rfl 29 #[.int .u16 0, .int .u16 65535, .int .u64 0, .int .u64 0, .bool false, .int .u32 0, .int .i64 0, .int .i64 0, .slice none 0 0] (0, 0) _ (RiZ.mk HG5.out HH5.out HB5.out).h Try.underlying29 rfl info_dat ?_)
        | (refine wpList_store_row rfl 29 (.tmp 2) (.tmp 30) rfl gr #[.int .u16 0, .int .u16 65535, .int .u64 0, .int .u64 0, .bool false, .int .u32 0, .int .i64 0, .int .i64 0, .slice none 0 0] rfl rfl 29 _ (RiZ.mk HG5.out HH5.out HB5.out).g info_dat rfl (nine_one _ _ _ _ _ _ _ _ _ _ _) ?_))
      have HBF := Lib.hid (below_setRow (g := gr) (RiZ.mk HG5.out HH5.out HB5.out).b (Nat.le_of_eq EGR.out.symm) #[.int .u16 0, .int .u16 65535, .int .u64 0, .int .u64 0, .bool false, .int .u32 0, .int .i64 0, .int .i64 0, .slice none 0 0])
      refine bodyPost_ret (v := .tuple #[.agg #[.int .u16 0, .int .u16 65535, .int .u64 0, .int .u64 0, .bool false, .int .u32 0, .int .i64 0, .int .i64 0, .slice none 0 0], .int .i64 (e1 : Int)]) (ritems_results _ gr 29 _ (0, 0) (e1 : Int) rfl rfl _ (setRow_heap w5 gr _ _ _ _ (RiZ.mk HG5.out HH5.out HB5.out).g) info_dat) rfl ?_
      rw [EE.out.1]
      exact ⟨_, rfl, ⟨rfl, nine_one _ _ _ _ _ _ _ _ _ _ _, fun h => absurd (EE.out.1.trans h) EE.out.2⟩, HBF.out⟩
  · have d0 : ((e0 : Int) != 0) = true := by rw [bne_iff_ne]; omega
    have EE : Hid (E = e0 ∧ E ≠ 0) := Lib.hid (by
      have h2 := itA1_bad bs (by rw [HE0.out]; exact h0)
      rw [HE0.out] at h2
      have : E = e0 := by rw [← HE.out, itm1 (by rw [h2]; exact h0), h2]
      exact ⟨this, by rw [this]; exact h0⟩)
    clear h0
    go_wp2_with (first
      | (refine wpList_load_row rfl 29 (.tmp 4) rfl g4 rfl 29 #[.int .u16 0, .int .u16 65535, .int .u64 0, .int .u64 0, .bool false, .int .u32 0, .int .i64 0, .int .i64 0, .slice none 0 0] (0, 0) _ (RiZ.mk HG4.out HH4.out HB4.out).h Try.underlying29 rfl info_dat ?_)
      | (refine wpList_store_row rfl 29 (.tmp 2) (.tmp 20) rfl gr #[.int .u16 0, .int .u16 65535, .int .u64 0, .int .u64 0, .bool false, .int .u32 0, .int .i64 0, .int .i64 0, .slice none 0 0] rfl rfl 29 _ (RiZ.mk HG4.out HH4.out HB4.out).g info_dat rfl (nine_one _ _ _ _ _ _ _ _ _ _ _) ?_))
    have HBF := Lib.hid (below_setRow (g := gr) (RiZ.mk HG4.out HH4.out HB4.out).b (Nat.le_of_eq EGR.out.symm) #[.int .u16 0, .int .u16 65535, .int .u64 0, .int .u64 0, .bool false, .int .u32 0, .int .i64 0, .int .i64 0, .slice none 0 0])
    refine bodyPost_ret (v := .tuple #[.agg #[.int .u16 0, .int .u16 65535, .int .u64 0, .int .u64 0, .bool false, .int .u32 0, .int .i64 0, .int .i64 0, .slice none 0 0], .int .i64 (e0 : Int)]) (ritems_results _ gr 29 _ (0, 0) (e0 : Int) rfl rfl _ (setRow_heap w4 gr _ _ _ _ (RiZ.mk HG4.out HH4.out HB4.out).g) info_dat) rfl ?_
    rw [EE.out.1]
    exact ⟨_, rfl, ⟨rfl, nine_one _ _ _ _ _ _ _ _ _ _ _, fun h => absurd (EE.out.1.trans h) EE.out.2⟩, HBF.out⟩
end Go.Proofs.Ytcffinkkfdfcaaa
