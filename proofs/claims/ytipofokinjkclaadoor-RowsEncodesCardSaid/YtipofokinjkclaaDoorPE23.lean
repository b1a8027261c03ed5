/- Parts one behind the other: Regions that draw their order, told by relations under a growth of one's own: blocks behind a bound may turn, but keep their shapes; The walk of RowsFit: whatever bytes lead anywhere, it is a screen that fits; cut off anywhere they lead nowhere. Conditions: as told at each. -/
import Derived.Test.YtipofokinjkclaaDoorPE12
import Derived.Test.YtipofokinjkclaaDoorPE10
import Derived.Test.YtipofokinjkclaaDoorPE21

set_option linter.unusedVariables false
set_option linter.unusedSimpArgs false
/- Regions that draw their order, told by relations under a growth of one's own: blocks behind a bound may turn, but keep their shapes. Conditions: none. -/
namespace Go.Proofs.YtipofokinjkclaaDoor
open Go Go.RowKit Go.Lib

/-- Below B nothing turns; every block of cells keeps its type and its size. -/
structure Gs (B : Nat) (a b : World) : Prop where
  size : a.heap.size ≤ b.heap.size
  bel : Below B a b
  shape : ∀ (g : Nat) (cs : Array Value) (t : TypeId), a.heap[g]? = some (.cells cs t (0, 0)) → ∃ cs' : Array Value, b.heap[g]? = some (.cells cs' t (0, 0)) ∧ cs'.size = cs.size
theorem Gs.refl (B : Nat) (a : World) : Gs B a a := ⟨Nat.le_refl _, Below.refl _ _, fun g cs t h => ⟨cs, h, rfl⟩⟩
theorem Gs.trans {B : Nat} {a b c : World} (h : Gs B a b) (k : Gs B b c) : Gs B a c :=
  ⟨Nat.le_trans h.size k.size, h.bel.trans k.bel, fun g cs t e => by
    obtain ⟨cs1, e1, s1⟩ := h.shape g cs t e
    obtain ⟨cs2, e2, s2⟩ := k.shape g cs1 t e1
    exact ⟨cs2, e2, s2.trans s1⟩⟩
theorem Gs.of {B : Nat} {a b : World} (h : Below a.heap.size a b) (hB : B ≤ a.heap.size) : Gs B a b :=
  ⟨h.size, h.mono hB, fun g cs t e => ⟨cs, (h.block g (heap_lt e)).trans e, rfl⟩⟩
theorem Gs.setRow {B g : Nat} {a : World} {old cs : Array Value} {t : TypeId} (hg : a.heap[g]? = some (.cells old t (0, 0))) (hB : B ≤ g) (hs : old.size = cs.size) : Gs B a (a.setRow g cs) := by
  have hb := below_setRow (B := B) (Below.refl B a) hB cs
  refine ⟨hb.size, hb, fun j ds u e => ?_⟩
  by_cases hj : j = g
  · subst hj
    rw [hg] at e
    injection e with e
    injection e with e1 e2
    subst e1 e2
    exact ⟨cs, setRow_heap _ _ _ _ _ _ hg, hs.symm⟩
  · exact ⟨ds, (setRow_other _ _ _ _ hj).trans e, rfl⟩
/-- A relation that stays true as the world grows so. -/
structure Rq (B : Nat) where
  R : World → Value → Prop
  mono : ∀ {a b : World} {v : Value}, R a v → Gs B a b → R b v
def Rq.eq {B : Nat} (u : Value) : Rq B := ⟨fun _ v => v = u, fun h _ => h⟩
def Rq.any {B : Nat} : Rq B := ⟨fun _ _ => True, fun h _ => h⟩
/-- A block of a screen's shape. -/
def Rq.box (B : Nat) : Rq B := ⟨fun w v => ∃ g cs, v = .pointer (some ⟨g, 0, none⟩) ∧ B ≤ g ∧ w.heap[g]? = some (.cells cs 25 (0, 0)) ∧ cs.size = 9, fun ⟨g, cs, h, hB, r, s⟩ k => by
  obtain ⟨cs', r', s'⟩ := k.shape g cs _ r
  exact ⟨g, cs', h, hB, r', s'.trans s⟩⟩
def relQ {B : Nat} (l : List (Rq B)) (i : Nat) : World → Value → Prop := (l.getD i Rq.any).R
def StpQ (P : Program) (B : Nat) (ops : Array Oper) (a : Act) (W : World) (l : List (Rq B)) (i : Nat) (o : Oper) : Prop :=
  ∀ (f : Nat → Value) (w : World), Gs B W w → (∀ t, writes ops t = false → f t = a.tmps.getD t undef) →
      (∀ j d, depOn ops i j = true → dstOf ops j = some d → relQ l j w (f d)) → if Region.wanted o (yieldedF ops f) = true then Gives P o f w (fun v w'' => Gs B w w'' ∧ relQ l i w'' v) else relQ l i w undef
theorem wp_region_rq {P : Program} (n B : Nat) (l : List (Rq B)) (ws : List Nat) {id : Nat} {os : List Oper} {Q : Exit → Act → World → Prop} {a : Act} {w : World} (hm : P.follows .mixedOrders = true) (hn : a.tmps.size = n) (hok : slotsOk os.toArray n = true) (hws : allIn os.toArray ws = true)
    (steps : AllFrom (StpQ P B os.toArray a w.drew l) 0 os)
    (fin : ∀ (f : Nat → Value) (w' : World), Gs B w.drew w' → (∀ j d, dstOf os.toArray j = some d → relQ l j w' (f d)) → Q .normal ⟨putAll f ws a.tmps, a.defers⟩ w') :
    (Code.region id os.toArray true).wp P Q a w := by
  refine wp_region_rel n hm hn hok (Gs B) (relQ l) (Gs.refl B) Gs.trans (fun j _ _ _ h g => (l.getD j Rq.any).mono h g) (fun i o ho => ?_) (fun f w' g hF hD => ?_)
  · have := AllFrom.out os 0 steps i o (by simpa using ho)
    rw [Nat.zero_add] at this
    exact this
  · have e : ((List.range n).map f).toArray = putAll f ws a.tmps := by
      apply Array.ext
      · rw [putAll_size, hn]; simp
      · intro t h1 h2
        have ht : t < n := by simpa using h1
        have h3 := putAll_get f ws a.tmps t (by rw [hn]; exact ht) (by
          by_cases hw : writes os.toArray t = true
          · left
            obtain ⟨j, hj, hd⟩ := List.any_eq_true.1 hw
            have hd := beq_iff_eq.1 hd
            have := List.all_eq_true.1 hws j hj
            rw [hd] at this
            simpa using this
          · right
            exact (hF t (by simpa using hw)).symm)
        have h4 : (putAll f ws a.tmps)[t] = f t := by
          rw [← h3]; simp [h2]
        rw [h4]; simp
    rw [e]
    exact fin f w' g hD
theorem gives_store_rowQ {P : Program} {o : Oper} {f : Nat → Value} {w : World} {K : Value → World → Prop} (ty : TypeId) (x y : Operand) (ho : o.op = .store ty x y)
    (g : Nat) (cells : Array Value) (hx : evF f x = .pointer (some ⟨g, 0, none⟩)) (hy : evF f y = .agg cells)
    (t : TypeId) (old : Array Value) (hg : w.heap[g]? = some (.cells old t (0, 0))) (hi : (P.info? ty).map (·.size) = some cells.size)
    (hold : old.size = cells.size) (h1 : cells.all (·.oneCell') = true) (hK : K undef (w.setRow g cells)) : Gives P o f w K := by
  unfold Gives execOp
  simp only [ho, hx, hy, Instr.storeAt, Instr.sureAddr, Sem.run_bind, Sem.run_pure, Result.andThen_ok, run_storeVar_row w g t ty old cells hg hi hold h1]
  exact hK
end Go.Proofs.YtipofokinjkclaaDoor


/- The walk of RowsFit: whatever bytes lead anywhere, it is a screen that fits; cut off anywhere they lead nowhere. Conditions: the tables lie where they were laid. -/
namespace Go.Proofs.YtipofokinjkclaaDoor
open Go Go.RowKit Go.Lib

theorem gives_cutTo {o : Oper} {f : Nat → Value} {w : World} {K : Value → World → Prop} (x hi : Operand) (ho : o.op = .slice 29 x none (some hi) none) (A : Option Addr) (n c : Nat) (hx : evF f x = .slice A n c)
    (V : Int) (hhi : evF f hi = .int .i64 V) (h : Nat) (hV : V = (h : Int)) (h2 : h ≤ n) (hc : n ≤ c) (bs : List UInt8) (hr : Rd w A (bs.map bv))
    (hK : Rd w A ((bs.take h).map bv) → K (.slice A h c) w) : Gives Tryd.prog o f w K := by
  subst hV
  have g2 : (h : Int) ≤ (c : Int) := by omega
  have hcut := hr.take h
  rw [← List.map_take] at hcut
  unfold Gives execOp
  simp only [ho, Option.map_some, Option.map_none, hx, hhi]
  go_simp
  exact hK hcut
/-- An answer's screen and number; its screen. -/
def Rq.apr {B : Nat} (t : ScD) (E : Nat) : Rq B := ⟨fun _ v => ∃ A n c L d, v = .tuple #[.agg (scC t A n c L 0 d), .int .i64 (E : Int)], fun h _ => h⟩
def Rq.aps {B : Nat} (t : ScD) : Rq B := ⟨fun _ v => ∃ A n c L d, v = .agg (scC t A n c L 0 d), fun h _ => h⟩
set_option maxRecDepth 100000 in
set_option maxHeartbeats 16000000 in
theorem RowsFit_walk (w : World) (s : ScD) (A : Option Addr) (n c : Nat) (L : Option Addr) (m cm : Nat) (hs : ScO w s A n c L m cm) (D : Option Addr) (dn dc : Nat) (bs : List UInt8) (hdn : bs.length = dn) (hdr : Rd w D (bs.map bv)) (hdc : dn ≤ dc) (_hdm : dc ≤ maxLen) (hdl : dn ≤ 140737488351232) (x : Int) (_wx : (Lit.int .i64 x).wf = true) (hU : TabU w) :
    Calls Tryd.prog 13 #[.agg (scC s A n c L m cm), .slice D dn dc, .int .i64 x] w fun r w' => r = .returned (.bool true) ∧ Below w.heap.size w w' := by
  clear _hdm _wx
  obtain ⟨X, eX⟩ : ∃ X, X = scC s A n c L m cm := ⟨_, rfl⟩
  rw [← eX]
  obtain ⟨W0, eW0⟩ : ∃ W0, W0 = w.alloc (.cells X 25) := ⟨_, rfl⟩
  obtain ⟨p, ep⟩ : ∃ p, p = w.heap.size := ⟨_, rfl⟩
  have hb0 : Below w.heap.size w W0 := by rw [eW0]; exact (Below.refl _ _).alloc (Nat.le_refl _) _
  have HP0 : Hid (ScB W0 p s A n c L m cm) := Lib.hid (by rw [eW0, ep, eX]; exact heap_alloc_new _ _)
  have EW0 := Lib.hid eW0
  have EP := Lib.hid ep
  have HB0 := Lib.hid hb0
  have HS := Lib.hid hs
  have HU := Lib.hid hU
  have HDN := Lib.hid hdn
  have HDR := Lib.hid hdr
  have HDL := Lib.hid hdl
  clear eX eW0 ep hb0 hs hU hdn hdr hdl
  obtain ⟨GB, eGB⟩ : ∃ b, greatB n s.title.size m = b := ⟨_, rfl⟩
  have HGB := Lib.hid eGB
  obtain ⟨bl, el⟩ : ∃ b, decide ((65536 : Int) < (dn : Int)) = b := ⟨_, rfl⟩
  have eln : decide (65536 < dn) = bl := by rw [← el]; exact decide_eq_decide.2 (by omega)
  have HBL := Lib.hid eln
  clear eGB
  go_enter Tryd.func13, Tryd.ntmps13
  go_upto_region 1 with (fail)
  rw [← EW0.out, ← EP.out]
  obtain ⟨T, eT⟩ : ∃ b, (GB || bl) = b := ⟨_, rfl⟩
  have HTT := Lib.hid eT
  clear eT
  go_cut [17] (fun s17 wx => s17 = .bool T ∧ Hid (Below W0.heap.size W0 wx))
  case first =>
    cases GB <;> cases bl <;>
    · go_wp2_with (first
        | (refine wpList_load_row rfl 25 (.tmp 3) rfl p rfl 25 _ (0, 0) _ HP0.out Tryd.underlying25 rfl (info_sc.trans rfl) ?_)
        | (go_at_call 17; (refine (great16_c s A n c L m cm W0).mono ?_); rintro _ w1 ⟨rfl, hb1⟩; rw [HGB.out]; have HB1 := Lib.hid hb1; clear hb1))
      go_meet
      exact ⟨by rw [← HTT.out] <;> rfl, HB1⟩
  case rest =>
  obtain ⟨rfl, hbc⟩ := hcut
  have HBC := Lib.hid (HB0.out.trans (hbc.out.mono HB0.out.size))
  have HPC := Lib.hid (HP0.out.below hbc.out)
  clear hbc el eln
  cases T
  · have hb := HTT.out
    simp only [Bool.or_eq_false_iff] at hb
    obtain ⟨rfl, rfl⟩ := hb
    have HSM := Lib.hid (greatB_no HGB.out)
    have HRS : Hid (ScR w s A n c L m cm) := Lib.hid (HS.out.small (by have := HSM.out; omega) (by have := HSM.out; omega) (by have := HSM.out; omega))
    obtain ⟨t, E, eZ⟩ : ∃ t E, app16 s bs = (t, E) := ⟨_, _, rfl⟩
    have HZ := Lib.hid eZ
    clear eZ
    go_upto_region 4 with (first
      | (refine wpList_load_row rfl 25 (.tmp 3) rfl p rfl 25 _ (0, 0) _ HPC.out Tryd.underlying25 rfl (info_sc.trans rfl) ?_)
      | (go_at_call 45; (refine (apply16_c s A n c L m cm D dn dc bs wc (HRS.out.below HBC.out) HDN.out (HDR.out.below HBC.out) (by { have := HDL.out; omega }) (HU.out.next HBC.out)).mono ?_); rw [HZ.out]; rintro _ w3 ⟨A3, n3, c3, L3, d3, rfl, ho3, hl3, hb3⟩; have HO3 := Lib.hid ho3; have HLK := Lib.hid hl3; have HB3 := Lib.hid (HBC.out.trans (hb3.mono HBC.out.size)); have HP3 := Lib.hid (HPC.out.below hb3); clear ho3 hl3 hb3)
      | (refine wpList_store_rowTo rfl 25 (.tmp 7) (.tmp 23) rfl rfl w3.heap.size (scC t A3 n3 c3 L3 0 d3) rfl rfl 25 _ (heap_alloc_new w3 _) (info_sc.trans rfl) rfl (sc_one _ _ _ _ _ _ _) ?_))
    generalize eXX : World.alloc w3 _ = XX
    have hx : Below w3.heap.size w3 XX := by rw [← eXX]; exact (Below.refl _ _).alloc (Nat.le_refl _) _
    obtain ⟨old, hq2⟩ : ∃ old, XX.heap[w3.heap.size]? = some (.cells old 25 (0, 0)) := ⟨_, by rw [← eXX]; exact heap_alloc_new _ _⟩
    obtain ⟨g, eg⟩ : ∃ g, g = w3.heap.size := ⟨_, rfl⟩
    obtain ⟨W4, eWW⟩ : ∃ W, W = XX.setRow w3.heap.size (scC t A3 n3 c3 L3 0 d3) := ⟨_, rfl⟩
    rw [← eWW, ← eg]
    have HG4 : Hid (ScB W4 g t A3 n3 c3 L3 0 d3) := Lib.hid (by rw [eWW, eg]; exact setRow_heap _ _ _ _ _ _ hq2)
    have hbs : Below w3.heap.size w3 W4 := by rw [eWW]; exact below_setRow hx (Nat.le_refl _) _
    have EGg := Lib.hid eg
    clear eXX hx hq2 eg eWW
    have HB4 := Lib.hid (HB3.out.trans (hbs.mono HB3.out.size))
    have HP4 := Lib.hid (HP3.out.below hbs)
    have HO4 := Lib.hid (OwnC.below HO3.out hbs)
    clear hbs HO3
    by_cases hE : E = 0
    · have HE := Lib.hid hE
      have z0 : (((E : Nat) : Int) != 0) = false := by rw [bne_eq_false_iff_eq]; omega
      have HFT : Hid (fit16 t = true) := Lib.hid (app16_fit (by rw [HZ.out, hE]))
      have HRT : Hid (ScR W4 t A3 n3 c3 L3 0 d3) := Lib.hid (fit_read HFT.out HO4.out HLK.out (by have h := app16_okLn (d := bs) HRS.out.ok; rw [HZ.out] at h; exact h))
      clear hE
      go_upto_region 8 with (first
        | (go_at_call 18; (refine (fixed16_c W4 (HU.out.next HB4.out)).mono ?_); rintro _ w5 ⟨rfl, hb5⟩; have HB5 := Lib.hid (HB4.out.trans (hb5.mono HB4.out.size)); have HG5 := Lib.hid (HG4.out.below hb5); have HP5 := Lib.hid (HP4.out.below hb5); have HR5 := Lib.hid (HRT.out.below hb5); clear hb5)
        | ((with_reducible refine wpList_openG (o := ⟨some 37, _, _, _, _, _⟩) rfl ?_); (refine wpList_load_row rfl 25 (.tmp 7) rfl g rfl 25 _ (0, 0) _ HG5.out Tryd.underlying25 rfl (info_sc.trans rfl) ?_))
        | (go_at_call 25; (refine (fits16_c t A3 n3 c3 L3 0 d3 w5 HR5.out (HU.out.next HB5.out)).mono ?_); rintro _ w6 ⟨rfl, hb6⟩; rw [HFT.out]; have HB6 := Lib.hid (HB5.out.trans (hb6.mono HB5.out.size)); have HP6 := Lib.hid (HP5.out.below hb6); clear hb6))
      clear z0
      by_cases hx : x < 0
      · go_wp2_with (fail)
        go_ret
        exact ⟨rfl, HB6.out⟩
      · by_cases hy : (dn : Int) ≤ x
        · go_wp2_with (fail)
          go_ret
          exact ⟨rfl, HB6.out⟩
        · obtain ⟨k, rfl⟩ := Int.eq_ofNat_of_zero_le (show 0 ≤ x by omega)
          have hk : k < dn := by omega
          obtain ⟨t2, E2, eZ2⟩ : ∃ t E, app16 s (bs.take k) = (t, E) := ⟨_, _, rfl⟩
          have HE2 : Hid (E2 ≠ 0) := Lib.hid (by have h := app16_cut (a := s) (d := bs) (by rw [HZ.out]; exact HE.out) k (by rw [HDN.out]; exact hk); rw [eZ2] at h; exact h)
          have HZ2 := Lib.hid eZ2
          have HK := Lib.hid hk
          clear eZ2
          go_upto_region 10 with (fail)
          refine wp_region_rq 59 w6.heap.size [Rq.eq (.agg (scC s A n c L m cm)), Rq.eq (.slice D dn dc), Rq.eq (.int .i64 (k : Int)), Rq.eq (.slice D k dc), Rq.apr t2 E2, Rq.apr t2 E2, Rq.aps t2, Rq.eq (.int .i64 (E2 : Int)), Rq.box w6.heap.size, Rq.any, Rq.eq (.int .i64 (E2 : Int))] [50, 51, 52, 53, 54, 49, 55, 56, 9, 10] (by kernel_rfl) rfl (by kernel_rfl) (by kernel_rfl) ?_ ?_
          · repeat (first | exact AllFrom.nil_ | (refine AllFrom.cons_ (by rfl) ?_ ?_; rotate_left))
            · intro f_ w' g_ hF hD
              have h3 : f_ 3 = .pointer (some ⟨p, 0, none⟩) := hF 3 (by kernel_rfl)
              rw [if_pos (wanted_none rfl)]
              clear hF hD
              have kg : Below w6.heap.size w6 w' := (below_drewN (Below.refl _ _) 1).trans g_.bel
              exact gives_load_row 25 (.tmp 3) rfl p (by simp only [evF, h3]) 25 (scC s A n c L m cm) (0, 0) _ (HP6.out.below kg) Tryd.underlying25 rfl (info_sc.trans rfl) ⟨Gs.refl _ _, rfl⟩
            · intro f_ w' g_ hF hD
              have h1 : f_ 1 = .slice D dn dc := hF 1 (by kernel_rfl)
              rw [if_pos (wanted_none rfl)]
              clear hF hD
              exact gives_val (by simp only [execOp, evF, h1]; first | rfl | go_simp) ⟨Gs.refl _ _, rfl⟩
            · intro f_ w' g_ hF hD
              have h2 : f_ 2 = .int .i64 (k : Int) := hF 2 (by kernel_rfl)
              rw [if_pos (wanted_none rfl)]
              clear hF hD
              exact gives_val (by simp only [execOp, evF, h2]; first | rfl | go_simp) ⟨Gs.refl _ _, rfl⟩
            · intro f_ w' g_ hF hD
              have h51 : f_ 51 = (.slice D dn dc) := hD 1 51 (by kernel_rfl) rfl
              have h52 : f_ 52 = (.int .i64 (k : Int)) := hD 2 52 (by kernel_rfl) rfl
              rw [if_pos (wanted_none rfl)]
              clear hF hD
              have kg : Below w6.heap.size w6 w' := (below_drewN (Below.refl _ _) 1).trans g_.bel
              exact gives_cutTo (.tmp 51) (.tmp 52) rfl D dn dc (by simp only [evF, h51, h52]) (k : Int) (by simp only [evF, h51, h52]) k rfl (by have := HK.out; omega) hdc bs (HDR.out.below (HB6.out.trans (kg.mono HB6.out.size))) (fun _ => ⟨Gs.refl _ _, rfl⟩)
            · intro f_ w' g_ hF hD
              have h50 : f_ 50 = (.agg (scC s A n c L m cm)) := hD 0 50 (by kernel_rfl) rfl
              have h53 : f_ 53 = (.slice D k dc) := hD 3 53 (by kernel_rfl) rfl
              rw [if_pos (wanted_none rfl)]
              clear hF hD
              have kg : Below w6.heap.size w6 w' := (below_drewN (Below.refl _ _) 1).trans g_.bel
              have kw := HB6.out.trans (kg.mono HB6.out.size)
              refine gives_func rfl Tryd.func45 (by kernel_rfl) rfl (by simp only [List.map_toArray, List.map_cons, List.map_nil, evF, h50, h53]) ((apply16_c s A n c L m cm D k dc (bs.take k) w' (HRS.out.below kw) (by rw [List.length_take, HDN.out]; have := HK.out; omega) (by have h := (HDR.out.below kw).take k; rw [← List.map_take] at h; exact h) (by have h1 := HK.out; have h2 := HDL.out; omega) (HU.out.next kw)).mono ?_)
              rw [HZ2.out]
              rintro e w'' ⟨A9, n9, c9, L9, d9, rfl, _, _, hb⟩
              exact ⟨_, rfl, Gs.of hb kg.size, A9, n9, c9, L9, d9, rfl⟩
            · intro f_ w' g_ hF hD
              have q54 := hD 4 54 (by kernel_rfl) rfl
              rw [if_pos (wanted_none rfl)]
              clear hF hD
              exact gives_val (by simp only [execOp, evF]; first | rfl | go_simp) ⟨Gs.refl _ _, q54⟩
            · intro f_ w' g_ hF hD
              have q49 := hD 5 49 (by kernel_rfl) rfl
              rw [if_pos (wanted_none rfl)]
              clear hF hD
              obtain ⟨A9, n9, c9, L9, d9, h49⟩ := q49
              exact gives_val (by simp only [execOp, evF, h49]; first | rfl | go_simp) ⟨Gs.refl _ _, A9, n9, c9, L9, d9, rfl⟩
            · intro f_ w' g_ hF hD
              have q49 := hD 5 49 (by kernel_rfl) rfl
              rw [if_pos (wanted_none rfl)]
              clear hF hD
              obtain ⟨A9, n9, c9, L9, d9, h49⟩ := q49
              exact gives_val (by simp only [execOp, evF, h49]; first | rfl | go_simp) ⟨Gs.refl _ _, rfl⟩
            · intro f_ w' g_ hF hD
              rw [if_pos (wanted_none rfl)]
              clear hF hD
              have kg : Below w6.heap.size w6 w' := (below_drewN (Below.refl _ _) 1).trans g_.bel
              exact gives_val (by simp only [execOp, evF]; first | rfl | go_simp) ⟨Gs.of ((Below.refl _ _).alloc (Nat.le_refl _) _) kg.size, w'.heap.size, _, rfl, kg.size, heap_alloc_new _ _, rfl⟩
            · intro f_ w' g_ hF hD
              have q9 := hD 8 9 (by kernel_rfl) rfl
              have q55 := hD 6 55 (by kernel_rfl) rfl
              rw [if_pos (wanted_none rfl)]
              clear hF hD
              obtain ⟨g9, cs9, h9, hB9, hg9, hs9⟩ := q9
              obtain ⟨A9, n9, c9, L9, d9, h55⟩ := q55
              exact gives_store_rowQ 25 (.tmp 9) (.tmp 55) rfl g9 (scC t2 A9 n9 c9 L9 0 d9) (by simp only [evF, h9]) (by simp only [evF, h55]) 25 cs9 hg9 (info_sc.trans rfl) (hs9.trans rfl) (sc_one _ _ _ _ _ _ _) ⟨Gs.setRow hg9 hB9 (hs9.trans rfl), trivial⟩
            · intro f_ w' g_ hF hD
              have h56 : f_ 56 = (.int .i64 (E2 : Int)) := hD 7 56 (by kernel_rfl) rfl
              rw [if_pos (wanted_none rfl)]
              clear hF hD
              exact gives_val (by simp only [execOp, evF, h56]; first | rfl | go_simp) ⟨Gs.refl _ _, rfl⟩
          · intro f_ w9 gg hD
            have h10 : f_ 10 = .int .i64 (E2 : Int) := hD 10 10 rfl
            have kg : Below w6.heap.size w6 w9 := (below_drewN (Below.refl _ _) 1).trans gg.bel
            simp only [putAll, List.setIfInBounds_toArray, List.set_cons_zero, List.set_cons_succ, h10]
            have HB9 := Lib.hid (HB6.out.trans (kg.mono HB6.out.size))
            have z2 : ((E2 : Int) != 0) = true := by rw [bne_iff_ne]; have := HE2.out; omega
            clear hD gg kg h10
            go_wp2_with (fail)
            go_ret
            exact ⟨rfl, HB9.out⟩
    · have z0 : (((E : Nat) : Int) != 0) = true := by rw [bne_iff_ne]; omega
      have hn3 : n3 = 0 := by
        have h := app16_none (a := s) (d := bs) (by rw [HZ.out]; exact hE)
        rw [HZ.out] at h
        have h2 := HO4.out.parts.1
        rw [← h2, show t = scZ from h]; rfl
      subst hn3
      have x2 : W4.cell? ⟨g, 2, none⟩ = some (.slice A3 0 c3) := HG4.out.nine.2.2.1
      have HGL := Lib.hid (heap_lt HG4.out)
      clear hE
      go_wp2_with (first
        | (go_at_call 18; (refine (fixed16_c W4 (HU.out.next HB4.out)).mono ?_); rintro _ w5 ⟨rfl, hb5⟩; have HB5 := Lib.hid (HB4.out.trans (hb5.mono HB4.out.size)); have y2 := (hb5.cell (p := ⟨g, 2, none⟩) HGL.out).trans x2; clear hb5))
      go_ret
      exact ⟨rfl, HB5.out⟩
  · go_wp2_with (first
      | (go_at_call 18; (refine (fixed16_c wc (HU.out.next HBC.out)).mono ?_); rintro _ w9 ⟨rfl, hb9⟩; have HB9 := Lib.hid (HBC.out.trans (hb9.mono HBC.out.size)); clear hb9))
    go_ret
    exact ⟨rfl, HB9.out⟩
end Go.Proofs.YtipofokinjkclaaDoor

