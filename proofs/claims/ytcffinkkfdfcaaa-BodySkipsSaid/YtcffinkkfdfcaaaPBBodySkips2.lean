/- Parts one behind the other: The walk of the law BodySkips: it returns true. Conditions: as told at each. -/
import Derived.Test.YtcffinkkfdfcaaaPB16
import Derived.Test.YtcffinkkfdfcaaaPBBodySkips1
import Derived.Test.YtcffinkkfdfcaaaPB24
import Derived.Test.YtcffinkkfdfcaaaPB23
import Derived.Deep.CutBlock

set_option linter.unusedVariables false
set_option linter.unusedSimpArgs false
/- The walk of the law BodySkips: it returns true. Conditions: the row's own. -/
namespace Go.Proofs.Ytcffinkkfdfcaaa
open Go Go.RowKit

theorem info_helk {mx : Int} {ft : Nat} {l : List UInt8} (h : l.length = 16) : (Try.prog.info? 44).map (·.size) = some (helI mx ft l).size := info_hel.trans (congrArg some (by simp [helI, h]))
theorem neq_self {P : Program} (w : World) {m t : Nat} {cs : Array Value} (hm : m ≤ 10000) (hk : P.keyTypeAt m t = true) (hf : (Value.agg cs).formed P t = true) (hL : ∃ L, P.keyLits m t cs.toList = some L) :
    (binOp .neq t (.agg cs) (.agg cs)).run P w = .ok (.bool false) w := by
  obtain ⟨L, hL⟩ := hL
  obtain ⟨r, hr, hiff⟩ := run_equalIn_deep (P := P) (10000 - m) m t hk w m m _ _ L L hf hf hL hL
  rw [show 10000 - m + m = 10000 by omega] at hr
  rw [run_neq_struct, hr, hiff.2 rfl]
  rfl
theorem neq_hel (w : World) {Y : Array Value} {bs : List UInt8} (h : (helR bs).val = .agg Y) : (binOp .neq 44 (.agg Y) (.agg Y)).run Try.prog w = .ok (.bool false) w := by
  have e : Y = (helC (helR bs).mx (helR bs).ft (helR bs).nc).toArray := by simpa [Hel.val, helV] using h.symm
  rw [e]
  exact neq_self w (m := 3) (by decide) (by kernel_rfl) (formed_agg Try.underlying44 c_he (by simp [helC, (helR_ok bs).2.2])) (kl_hel (helR_ok bs).1 (helR_ok bs).2.1 (helR_ok bs).2.2)
theorem enc_4096 {f : Fo} (h : checkF f = 0) : (encF f).length ≤ 4096 := by
  rw [enc_lay h]
  unfold checkF at h
  split at h
  · next q => exact absurd h q
  · split at h
    · cases h
    · omega
theorem OwnI.high {w : World} {B : Nat} {v : Value} {ds : List ItV} (h : OwnI w 0 v ds) (hB : ∀ g, v.ownBlock = some g → B ≤ g) : OwnI w B v ds := by
  unfold OwnI at h ⊢
  refine ⟨h.1, ?_⟩
  rcases h.2 with h2 | ⟨g, cap, cur, hv, hb, r⟩
  · exact .inl h2
  · exact .inr ⟨g, cap, cur, hv, hB g (by rw [hv]; rfl), r⟩
theorem lit_one {ok : Nat → Prop} {w : World} {d : ItV} {T : Fo} (h : ItsR ok w [d] T) (hok : ok w.heap.size) : FoR ok (w.alloc (.cells d.cells.toArray 76)) (some ⟨w.heap.size, 0, none⟩) 0 T := by
  have hb : Below w.heap.size w (w.alloc (.cells d.cells.toArray 76)) := (Below.refl _ _).alloc (Nat.le_refl _) _
  refine FoR.of_row (by simp) hok T [d] 0 (fun k hk => ?_) (ItsR.frame (fun j _ hj => hb.block j hj) hb.size T _ h)
  rw [Nat.zero_mul, Nat.add_zero, Nat.zero_add, heap_cell (heap_alloc_new w _)]
  have e : cellsI [d] = d.cells := by simp [cellsI]
  simp only [e, List.getElem?_toArray]
  simp only [e] at hk
  exact List.getElem?_eq_getElem hk
/-- One item behind a list that was read. -/
theorem more_fo {w2 w4 : World} {Bv B0 : Nat} {v2 v4 : Value} {ds : List ItV} {F : Fo} {d : ItV} {X : Fo} {o : Obj} (ho : FoP (Bv ≤ ·) w2 v2 ds F) (hB : B0 ≤ Bv) (hx : ItsR (· < B0) (w2.alloc o) [d] X) (h4 : OwnI w4 Bv v4 (ds ++ [d])) (hg : (w2.alloc o).grownBy w4 v2.ownBlock) :
    FoM (fun _ => True) w4 v4 (F.app X) := by
  have b3 : Below w2.heap.size w2 (w2.alloc o) := (Below.refl _ _).alloc (Nat.le_refl _) _
  have hi := ItsR.frame (w' := w2.alloc o) (fun j _ hj => b3.block j hj) b3.size F ds (ItsO.r F ds ho.its)
  have hi4 := ItsR.frame (w' := w4) (fun j (hj : Bv ≤ j ∧ v2.ownBlock ≠ some j) hl => hg.block j hl (fun e => hj.2 e.symm)) hg.size F ds hi
  have hx4 := ItsR.frame (w' := w4) (fun j (hj : j < B0) hl => hg.block j hl (fun e => by have : Bv ≤ j := ho.ok_ j e.symm; omega)) hg.size X [d] hx
  exact ⟨_, h4.low (Nat.zero_le _), fun _ _ => trivial, ItsR.snoc (ItsR.weak (fun _ _ _ => trivial) X [d] hx4) F ds (ItsR.weak (fun _ _ _ => trivial) F ds hi4)⟩
set_option maxRecDepth 100000 in
set_option maxHeartbeats 8000000 in
theorem BodySkips_walk (w : World) (mx : Int) (ft : Nat) (l : List UInt8) (hh : ft < 4294967296 ∧ l.length = 16)
    (v : Int) (hv : (Lit.int .i64 v).wf = true) (st ec ak th : Nat) (has : Bool) (id : Nat) (ix ct : Int) (A : Option Addr) (n c : Nat) (bs : List UInt8)
    (hd : st < 65536 ∧ ec < 65536 ∧ ak < 18446744073709551616 ∧ th < 18446744073709551616 ∧ id < 4294967296 ∧ (Lit.int .i64 ix).wf = true ∧ (Lit.int .i64 ct).wf = true ∧ TxtR (· < w.heap.size) w A n c bs ∧ n ≤ 140737488351232)
    (kx : Int) (cr li : Bool) (Ax : Option Addr) (nx cx : Nat) (bx : List UInt8) (As : Option Addr) (ns cs : Nat) (sub : Fo) (hx : TxtR (· < w.heap.size) w Ax nx cx bx ∧ FoR (· < w.heap.size) w As 0 sub ∧ sub.len = ns ∧ ns ≤ cs ∧ cs ≤ maxLen ∧ ns ≤ 2199023255488) :
    Calls Try.prog 7 #[.agg (helI mx ft l), .int .i64 v, .agg #[.int .u16 (st : Int), .int .u16 (ec : Int), .int .u64 (ak : Int), .int .u64 (th : Int), .bool has, .int .u32 (id : Int), .int .i64 ix, .int .i64 ct, .slice A n c], .agg #[.int .i64 kx, .bool cr, .bool li, .slice Ax nx cx, .slice As ns cs]] w fun r w' => r = .returned (.bool true) ∧ Below w.heap.size w w' := by
  obtain ⟨a1, a2⟩ := hh
  have HF := Lib.hid a1
  have HL := Lib.hid a2
  obtain ⟨h1, h2, h3, h4, h5, -, -, ht, hl⟩ := hd
  have U1 : Hid (U16 st) := Lib.hid h1
  have U2 : Hid (U16 ec) := Lib.hid h2
  have U3 : Hid (U64 ak) := Lib.hid h3
  have U4 : Hid (U64 th) := Lib.hid h4
  have U5 := Lib.hid h5
  have HT := Lib.hid ht
  have HLN := Lib.hid hl
  obtain ⟨t1, t2, t3, t4, t5, t6⟩ := hx
  have ITS : Hid (ItsR (· < w.heap.size) w [⟨kx, cr, li, Ax, nx, cx, As, ns, cs⟩] (xF kx cr li bx sub)) := Lib.hid (ItsR.one t1 t3.symm t2 t4 t5 (by rw [t3]; exact t6))
  clear h1 h2 h3 h4 h5 ht hl hv a1 a2 t1 t2 t3 t4 t5 t6
  obtain ⟨u1, eu1⟩ : ∃ u, u = w.alloc (.cells (helI mx ft l) 44) := ⟨_, rfl⟩
  obtain ⟨u2, eu2⟩ : ∃ u, u = u1.alloc (.cells #[.int .u16 (st : Int), .int .u16 (ec : Int), .int .u64 (ak : Int), .int .u64 (th : Int), .bool has, .int .u32 (id : Int), .int .i64 ix, .int .i64 ct, .slice A n c] 29) := ⟨_, rfl⟩
  obtain ⟨u3, eu3⟩ : ∃ u, u = u2.alloc (.cells #[.int .i64 kx, .bool cr, .bool li, .slice Ax nx cx, .slice As ns cs] 76) := ⟨_, rfl⟩
  obtain ⟨g4, eg4⟩ : ∃ g, g = w.heap.size := ⟨_, rfl⟩
  obtain ⟨g6, eg6⟩ : ∃ g, g = w.heap.size + 1 := ⟨_, rfl⟩
  obtain ⟨g7, eg7⟩ : ∃ g, g = w.heap.size + 1 + 1 := ⟨_, rfl⟩
  have z1 : u1.heap.size = g6 := by rw [eu1, eg6]; simp
  have z2 : u2.heap.size = g7 := by rw [eu2, eg7]; simp [z1, eg6]
  have k1 : Below w.heap.size w u1 := by rw [eu1]; exact (Below.refl _ _).alloc (Nat.le_refl _) _
  have k2 : Below u1.heap.size u1 u2 := by rw [eu2]; exact (Below.refl _ _).alloc (Nat.le_refl _) _
  have k3 : Below u2.heap.size u2 u3 := by rw [eu3]; exact (Below.refl _ _).alloc (Nat.le_refl _) _
  have y1 : u1.heap[g4]? = some (.cells (helI mx ft l) 44 (0, 0)) := by rw [eu1, eg4]; exact heap_alloc_new _ _
  have y2 : u2.heap[g6]? = some (.cells #[.int .u16 (st : Int), .int .u16 (ec : Int), .int .u64 (ak : Int), .int .u64 (th : Int), .bool has, .int .u32 (id : Int), .int .i64 ix, .int .i64 ct, .slice A n c] 29 (0, 0)) := by rw [← z1, eu2]; exact heap_alloc_new _ _
  have y3 : u3.heap[g7]? = some (.cells (ItV.cells ⟨kx, cr, li, Ax, nx, cx, As, ns, cs⟩).toArray 76 (0, 0)) := by rw [← z2, eu3]; exact heap_alloc_new _ _
  have HH := Lib.hid ((k3.block _ (by omega)).trans ((k2.block _ (by omega)).trans y1))
  have HD : Hid (D9 u3 g6 #[.int .u16 (st : Int), .int .u16 (ec : Int), .int .u64 (ak : Int), .int .u64 (th : Int), .bool has, .int .u32 (id : Int), .int .i64 ix, .int .i64 ct, .slice A n c]) := Lib.hid ((k3.block _ (by omega)).trans y2)
  have HX := Lib.hid y3
  have HBU := Lib.hid (k1.trans ((k2.trans (k3.mono (by omega))).mono (by omega)))
  have EU : Hid (u3 = ((w.alloc (.cells (helI mx ft l) 44)).alloc (.cells #[.int .u16 (st : Int), .int .u16 (ec : Int), .int .u64 (ak : Int), .int .u64 (th : Int), .bool has, .int .u32 (id : Int), .int .i64 ix, .int .i64 ct, .slice A n c] 29)).alloc (.cells #[.int .i64 kx, .bool cr, .bool li, .slice Ax nx cx, .slice As ns cs] 76)) := Lib.hid (by rw [eu3, eu2, eu1])
  have EG4 := Lib.hid eg4
  have EG6 := Lib.hid eg6
  have EG7 := Lib.hid eg7
  clear eu1 eu2 eu3 z1 z2 k1 k2 k3 y1 y2 y3 eg4 eg6 eg7
  have its : ∀ w', Below u3.heap.size u3 w' → ItsR (· < w.heap.size) w' [⟨kx, cr, li, Ax, nx, cx, As, ns, cs⟩] (xF kx cr li bx sub) := fun w' hb => by
    have hb2 := HBU.out.trans (hb.mono HBU.out.size)
    exact ItsR.frame (fun j (hj : j < w.heap.size) _ => hb2.block j hj) hb2.size _ _ ITS.out
  have HITS := Lib.hid its
  clear its
  obtain ⟨ws, ews⟩ : ∃ ws, ws = u3.alloc (.cells #[.int .i64 kx, .bool cr, .bool li, .slice Ax nx cx, .slice As ns cs] 76) := ⟨_, rfl⟩
  have bs3 : Below u3.heap.size u3 ws := by rw [ews]; exact (Below.refl _ _).alloc (Nat.le_refl _) _
  have RX : Hid (FoR (fun _ => True) ws (some ⟨u3.heap.size, 0, none⟩) 0 (xF kx cr li bx sub)) := Lib.hid (by rw [ews]; exact lit_one (d := ⟨kx, cr, li, Ax, nx, cx, As, ns, cs⟩) (ItsR.weak (fun _ _ _ => trivial) _ _ (HITS.out u3 (Below.refl _ _))) trivial)
  have HBS := Lib.hid bs3
  have EWS := Lib.hid ews
  clear ews bs3
  obtain ⟨⟨x0, x1, x2, x3, x4⟩, -⟩ := five_of HX.out
  dsimp only at x0 x1 x2 x3 x4
  go_enter Try.func7, Try.ntmps7
  go_upto_region 1 with (fail)
  rw [← EU.out, ← EG7.out, ← EG6.out, ← EG4.out]
  go_wp2_with (fail)
  clear x0 x1 x2 x3 x4
  rw [← EWS.out]
  refine (Small_c (xF kx cr li bx sub) _ _ 1 1 ws rfl RX.out (by omega)).mono ?_
  rintro _ w0 ⟨b0, rfl, -, hb⟩
  have HB0 := Lib.hid (HBS.out.trans (hb.mono HBS.out.size))
  clear hb RX EWS
  have hx0 := (HB0.out.block g7 (heap_lt HX.out)).trans HX.out
  have hd0 := HD.out.below HB0.out (heap_lt HD.out)
  obtain ⟨⟨x0, x1, x2, x3, x4⟩, -⟩ := five_of hx0
  dsimp only at x0 x1 x2 x3 x4
  obtain ⟨y0, y1, y2, y3, y4, y5, y6, y7, y8⟩ := nine_of hd0
  clear hx0 hd0
  cases b0 with
  | false =>
    go_wp2_with (fail)
    clear x0 x1 x2 x3 x4 y0 y1 y2 y3 y4 y5 y6 y7 y8
    refine (fixedB_c w0).mono ?_
    rintro _ wz ⟨rfl, hb⟩
    have HBF := Lib.hid (HBU.out.trans ((HB0.out.trans (hb.mono HB0.out.size)).mono HBU.out.size))
    clear hb
    go_wp2_with (fail)
    go_ret
    exact ⟨rfl, HBF.out⟩
  | true =>
    by_cases hn : n ≤ 16384
    · have d0 : (n : Int) ≤ 16384 := by omega
      clear hn
      by_cases hk : kx < 7
      · have d1 : kx < 7 := hk
        go_wp2_with (fail)
        clear x0 x1 x2 x3 x4 y0 y1 y2 y3 y4 y5 y6 y7 y8
        refine (fixedB_c w0).mono ?_
        rintro _ wz ⟨rfl, hb⟩
        have HBF := Lib.hid (HBU.out.trans ((HB0.out.trans (hb.mono HB0.out.size)).mono HBU.out.size))
        clear hb
        go_wp2_with (fail)
        go_ret
        exact ⟨rfl, HBF.out⟩
      · have d1 : ¬ (kx < 7) := hk
        have HK : Hid (7 ≤ kx) := Lib.hid (by omega)
        clear hk
        go_upto_region 3 with (fail)
        clear x0 x1 x2 x3 x4 y0 y1 y2 y3 y4 y5 y6 y7 y8
        obtain ⟨E1, eE⟩ : ∃ E, (putH mx ft l).1 = E := ⟨_, rfl⟩
        obtain ⟨K1, eK⟩ : ∃ L, (putH mx ft l).2 = L := ⟨_, rfl⟩
        obtain ⟨n1, en⟩ : ∃ n, K1.length = n := ⟨_, rfl⟩
        have QE1 := Lib.hid eE
        have QK1 := Lib.hid eK
        have QN1 := Lib.hid en
        clear eE eK en
        go_wp2_with (first | (refine wpList_load_row rfl 44 (.tmp 4) rfl g4 rfl 44 (helI mx ft l) (0, 0) _ ((HB0.out.block _ (heap_lt HH.out)).trans HH.out) Try.underlying44 rfl (info_helk HL.out) ?_))
        refine (PutHello_c mx ft l HF.out HL.out w0).mono ?_
        rintro _ w1 ⟨x, rfl, ho, hb⟩
        rw [QE1.out]
        rw [QK1.out] at ho
        obtain ⟨A1, c1, rfl, hc, hm, r, _⟩ := OwnB.form ho
        rw [QN1.out] at hc ⊢
        have R1 := Lib.hid r
        have HM1 := Lib.hid (Nat.le_trans hc hm)
        have HB1 := Lib.hid (HB0.out.trans (hb.mono HB0.out.size))
        clear ho hb hc hm r
        go_upto_if 46 with (fail)
        go_cut [] (fun wx => Hid (Below u3.heap.size u3 wx))
        case first =>
          by_cases hE : E1 = 0
          · have d2 : (E1 == 0) = true := by rw [hE]; rfl
            have hdec := hel_dec HL.out (QE1.out.trans hE)
            rw [QK1.out] at hdec
            have HE1 : Hid ((putH mx ft l).1 = 0) := Lib.hid (QE1.out.trans hE)
            clear hE
            obtain ⟨F, eF⟩ : ∃ F, crF 0 [numL mx.toNat 1, numL ft 4, l] = F := ⟨_, rfl⟩
            rw [eF] at hdec
            have HFF := Lib.hid eF
            have HFL : Hid (F.len ≤ 64) := Lib.hid (by rw [← hdec]; exact Nat.le_trans (Fo.len_le _) (decT_size K1))
            have HDEC := Lib.hid hdec
            have HNN : Hid (n1 ≤ 140737488355328) := Lib.hid (by
              by_cases q : n1 ≤ 140737488355328
              · exact q
              · exfalso
                have := (hel_back HF.out HL.out HE1.out).2.2
                rw [QK1.out, QN1.out] at this
                omega)
            clear eF hdec
            go_wp2_with (fail)
            refine (DecodeT_p K1 A1 n1 c1 w1 QN1.out R1.out HNN.out).mono ?_
            rintro _ w2 ⟨v2, rfl, ho, hb⟩
            rw [HDEC.out] at ho
            obtain ⟨ds, ho⟩ := ho
            obtain ⟨Bv, eBv⟩ : ∃ B, B = w1.heap.size := ⟨_, rfl⟩
            rw [← eBv] at ho
            have hds : ds.length = F.len := ItsO.len F ds ho.its
            have HDS : Hid (ds.length ≤ 64) := Lib.hid (by rw [hds]; exact HFL.out)
            have HB2 := Lib.hid (HB1.out.trans (hb.mono HB1.out.size))
            have HOI : Hid (OwnI (w2.alloc (.cells #[.int .i64 kx, .bool cr, .bool li, .slice Ax nx cx, .slice As ns cs] 76)) Bv v2 ds) := Lib.hid ((OwnI.high ho.row (fun g e => ho.ok_ g e)).frame (fun g e => Below.heap_alloc w2 _ g (ho.lt g e)))
            have HBVz : Hid (Bv ≤ (w2.alloc (.cells #[.int .i64 kx, .bool cr, .bool li, .slice Ax nx cx, .slice As ns cs] 76)).heap.size) := Lib.hid (by simp; have := hb.size; omega)
            have HBW : Hid (w.heap.size ≤ Bv ∧ u3.heap.size ≤ Bv) := Lib.hid (by have := HB1.out.size; have := HBU.out.size; omega)
            have HRD3 := Lib.hid (Rd.lit w2 (cellsI [⟨kx, cr, li, Ax, nx, cx, As, ns, cs⟩]) 76)
            have HOP := Lib.hid ho
            have HIT3 : Hid (ItsR (· < w.heap.size) (w2.alloc (.cells #[.int .i64 kx, .bool cr, .bool li, .slice Ax nx cx, .slice As ns cs] 76)) [⟨kx, cr, li, Ax, nx, cx, As, ns, cs⟩] (xF kx cr li bx sub)) := Lib.hid (HITS.out _ (HB2.out.alloc HB2.out.size _))
            have HB3 : Hid (Below u3.heap.size u3 (w2.alloc (.cells #[.int .i64 kx, .bool cr, .bool li, .slice Ax nx cx, .slice As ns cs] 76))) := Lib.hid (HB2.out.alloc HB2.out.size _)
            obtain ⟨⟨x0, x1, x2, x3, x4⟩, -⟩ := five_of ((HB2.out.block g7 (heap_lt HX.out)).trans HX.out)
            dsimp only at x0 x1 x2 x3 x4
            clear ho hb hds eBv HB1 R1
            go_wp2_with (first | (at_builtin; refine wpList_appI _ rfl (.tmp 53) (.tmp 55) rfl Bv v2 ds rfl HOI.out (some ⟨w2.heap.size, 0, none⟩) 1 1 [⟨kx, cr, li, Ax, nx, cx, As, ns, cs⟩] rfl rfl HRD3.out (by have := HDS.out; omega) HBVz.out ?_; intro v4 w4 ho4 hg4 hv4; have HO4 := Lib.hid ho4; have HG4 := Lib.hid hg4; clear ho4 hg4 hv4))
            clear x0 x1 x2 x3 x4
            have hm := more_fo HOP.out HBW.out.1 HIT3.out HO4.out HG4.out
            obtain ⟨A4, c4, rfl, -, -, hfo⟩ := hm.form (n := (F.app (xF kx cr li bx sub)).len) rfl
            have HFO := Lib.hid hfo
            have HB4 : Hid (Below u3.heap.size u3 w4) := Lib.hid (HB3.out.grown HG4.out HB3.out.size (fun g e => by have : Bv ≤ g := HOP.out.ok_ g e; have := HBW.out; omega))
            clear hm hfo
            refine (EncodeT_c (F.app (xF kx cr li bx sub)) _ A4 _ c4 w4 rfl HFO.out (by rw [Fo.len_app]; have := HFL.out; simp only [xF, Fo.len]; omega)).mono ?_
            rintro _ w5 ⟨v5, rfl, ho, hb⟩
            obtain ⟨C, eC⟩ : ∃ C, checkF (F.app (xF kx cr li bx sub)) = C := ⟨_, rfl⟩
            obtain ⟨K5, eK5⟩ : ∃ K, encF (F.app (xF kx cr li bx sub)) = K := ⟨_, rfl⟩
            rw [eC]
            rw [eK5] at ho
            obtain ⟨A5, c5, rfl, hc, hm, r5, _⟩ := OwnB.form ho
            obtain ⟨n5, en5⟩ : ∃ n, K5.length = n := ⟨_, rfl⟩
            rw [en5] at hc ⊢
            have HCC := Lib.hid eC
            have HK5 := Lib.hid eK5
            have HN5 := Lib.hid en5
            have R5 := Lib.hid r5
            have HB5 := Lib.hid (HB4.out.trans (hb.mono HB4.out.size))
            clear ho hb eC eK5 en5 hc hm r5 HB2 HOI HBVz HRD3 HOP HIT3 HB3 HO4 HG4 HFO HB4
            by_cases hC : C = 0
            · have d5 : (C == 0) = true := by rw [hC]; rfl
              have hck : checkF (F.app (xF kx cr li bx sub)) = 0 := HCC.out.trans hC
              have hn5 : n5 ≤ 4096 := by rw [← HN5.out, ← HK5.out]; exact enc_4096 hck
              have hsk : (cr = true → helE K5 = 7) ∧ (cr = false → helE K5 = 0 ∧ (helR K5).val = .agg (helI mx ft l)) := by
                have := hel_skip (kx := kx) (cr := cr) (li := li) (bx := bx) (sub := sub) HF.out HL.out HE1.out HK.out (by rw [HFF.out]; exact hck)
                rw [HFF.out, HK5.out] at this
                exact this
              obtain ⟨Y, hY, hYs, hYo⟩ := helR_row K5
              obtain ⟨E5, eE5⟩ : ∃ E, helE K5 = E := ⟨_, rfl⟩
              rw [eE5, hY] at hsk
              have HSK := Lib.hid hsk
              have HY := Lib.hid hY
              have HE5 := Lib.hid eE5
              have HNQ : Hid (n5 ≤ 140737488355328) := Lib.hid (by omega)
              have HYI : Hid ((Try.prog.info? 44).map (·.size) = some Y.size) := Lib.hid (by rw [hYs]; exact info_hel)
              have HYZ : Hid ((helC 0 0 (zerB 16)).toArray.size = Y.size) := Lib.hid (by rw [hYs]; rfl)
              have HYO := Lib.hid hYo
              clear hC hck hn5 hsk hY hYs hYo eE5
              go_wp2_with (fail)
              refine (GetHello_c K5 A5 n5 c5 w5 HN5.out R5.out HNQ.out).mono ?_
              rintro _ w6 ⟨rfl, hb⟩
              rw [HE5.out, HY.out]
              have HB6 := Lib.hid (HB5.out.trans (hb.mono HB5.out.size))
              clear hb HB5
              obtain ⟨w7, ew⟩ : ∃ w', w' = (w6.alloc (.cells #[.int .i64 0, .int .u32 0, .int .u8 0, .int .u8 0, .int .u8 0, .int .u8 0, .int .u8 0, .int .u8 0, .int .u8 0, .int .u8 0, .int .u8 0, .int .u8 0, .int .u8 0, .int .u8 0, .int .u8 0, .int .u8 0, .int .u8 0, .int .u8 0] 44)).setRow w6.heap.size Y := ⟨_, rfl⟩
              obtain ⟨g15, eg⟩ : ∃ g, g = w6.heap.size := ⟨_, rfl⟩
              have b7 : Below w6.heap.size w6 w7 := by rw [ew]; exact below_setRow ((Below.refl _ _).alloc (Nat.le_refl _) _) (Nat.le_refl _) _
              have HX7 : Hid (w7.heap[g15]? = some (.cells Y 44 (0, 0))) := Lib.hid (by rw [ew, eg]; exact setRow_heap _ _ _ _ _ _ (heap_alloc_new w6 _))
              have HB7 := Lib.hid (HB6.out.trans (b7.mono HB6.out.size))
              have HH7 := Lib.hid ((HB7.out.block _ (heap_lt HH.out)).trans HH.out)
              have EW7 := Lib.hid ew
              have EG15 := Lib.hid eg
              clear ew eg b7 HB6
              go_upto_region 9 with (first
                | (refine wpList_store_row rfl 44 (.tmp 15) (.tmp 65) rfl w6.heap.size Y rfl rfl 44 _ ((heap_alloc_new w6 _).trans (congrArg (fun x => some (Obj.cells x 44 (0, 0))) hel_zero)) HYI.out HYZ.out HYO.out ?_))
              rw [← EW7.out, ← EG15.out]
              obtain ⟨⟨x0, x1, x2, x3, x4⟩, -⟩ := five_of ((HB7.out.block g7 (heap_lt HX.out)).trans HX.out)
              dsimp only at x0 x1 x2 x3 x4
              cases cr with
              | true =>
                have h7 : E5 = 7 := HSK.out.1 rfl
                have d7 : ((E5 : Int) != 7) = false := by rw [h7]; rfl
                clear h7
                go_wp2_with (fail)
                go_meet
                exact HB7
              | false =>
                obtain ⟨h7, hY2⟩ := HSK.out.2 rfl
                have d7 : ((E5 : Int) != 0) = false := by rw [h7]; rfl
                have HNE : Hid (∀ w, (binOp .neq 44 (.agg Y) (.agg (helI mx ft l))).run Try.prog w = .ok (.bool false) w) := Lib.hid (fun w => by
                  have e : Y = helI mx ft l := by injection hY2
                  have := neq_hel w HY.out
                  rw [e] at this ⊢
                  exact this)
                have hne := HNE.out
                clear h7 hY2
                go_wp2_with (first
                  | ((with_reducible refine wpList_open (o := ⟨some 81, _, _, _, _, _⟩) rfl ?_); refine wpList_load_row rfl 44 (.tmp 15) rfl g15 rfl 44 Y (0, 0) _ HX7.out Try.underlying44 rfl HYI.out ?_)
                  | ((with_reducible refine wpList_open (o := ⟨some 82, _, _, _, _, _⟩) rfl ?_); refine wpList_load_row rfl 44 (.tmp 4) rfl g4 rfl 44 (helI mx ft l) (0, 0) _ HH7.out Try.underlying44 rfl (info_helk HL.out) ?_))
                go_meet
                exact HB7
            · have d5 : (C == 0) = false := by rw [beq_eq_false_iff_ne]; exact hC
              clear hC
              go_wp2_with (fail)
              go_meet
              exact HB5
          · have d2 : (E1 == 0) = false := by rw [beq_eq_false_iff_ne]; exact hE
            clear hE
            go_wp2_with (fail)
            go_meet
            exact HB1
        case rest =>
        clear HB1 R1 HM1
        obtain ⟨wb, ew⟩ : ∃ x, x = wc := ⟨_, rfl⟩
        rw [← ew] at hcut ⊢
        clear ew
        have HBb := hcut
        clear hcut
        obtain ⟨E3, eE⟩ : ∃ E, (putD v ⟨st, ec, ak, th, has, ⟨id, ix, ct, bs⟩⟩).1 = E := ⟨_, rfl⟩
        obtain ⟨K3, eK⟩ : ∃ L, (putD v ⟨st, ec, ak, th, has, ⟨id, ix, ct, bs⟩⟩).2 = L := ⟨_, rfl⟩
        obtain ⟨n3, en⟩ : ∃ n, K3.length = n := ⟨_, rfl⟩
        have QE3 := Lib.hid eE
        have QK3 := Lib.hid eK
        have QN3 := Lib.hid en
        clear eE eK en
        have HTB : Hid (TxtR (· < wb.heap.size) wb A n c bs) := Lib.hid (by
          have hb := HBU.out.trans (HBb.out.mono HBU.out.size)
          exact (HT.out.frame (fun j hj _ => hb.block j hj) hb.size).weak (fun j (hj : j < w.heap.size) _ => Nat.lt_of_lt_of_le hj hb.size))
        obtain ⟨y0, y1, y2, y3, y4, y5, y6, y7, y8⟩ := nine_of (HD.out.below HBb.out (heap_lt HD.out))
        go_wp2_with (fail)
        clear y0 y1 y2 y3 y4 y5 y6 y7 y8
        refine (PutData_c v st ec ak th has id ix ct A n c bs wb U1.out U2.out U3.out U4.out U5.out HTB.out HLN.out).mono ?_
        rintro _ w1 ⟨x, rfl, ho, hb⟩
        rw [QE3.out]
        rw [QK3.out] at ho
        obtain ⟨A1, c1, rfl, hc, hm, r, _⟩ := OwnB.form ho
        rw [QN3.out] at hc ⊢
        have R1 := Lib.hid r
        have HM1 := Lib.hid (Nat.le_trans hc hm)
        have HB1 := Lib.hid (HBb.out.trans (hb.mono HBb.out.size))
        clear ho hb hc hm r HTB
        by_cases hE : E3 = 0
        · have d2 : (E3 == 0) = true := by rw [hE]; rfl
          by_cases hv1 : v = 1
          · have d3 : (v != 1) = false := by rw [hv1]; rfl
            clear hE
            go_wp2_with (fail)
            refine (fixedB_c w1).mono ?_
            rintro _ wz ⟨rfl, hb⟩
            have HBF := Lib.hid (HBU.out.trans ((HB1.out.trans (hb.mono HB1.out.size)).mono HBU.out.size))
            clear hb
            go_wp2_with (fail)
            go_ret
            exact ⟨rfl, HBF.out⟩
          · have d3 : (v != 1) = true := by rw [bne_iff_ne]; exact hv1
            obtain ⟨hdec, hv23, hmay⟩ := dat_dec (QE3.out.trans hE) hv1
            rw [QK3.out] at hdec
            have HV23 := Lib.hid hv23
            have HMAY := Lib.hid hmay
            have HEE := Lib.hid (QE3.out.trans hE)
            clear hE hv1 hv23 hmay
            obtain ⟨F, eF⟩ : ∃ F, d5F ⟨st, ec, ak, th, has, ⟨id, ix, ct, bs⟩⟩ = F := ⟨_, rfl⟩
            rw [eF] at hdec
            have HFF := Lib.hid eF
            have HFL : Hid (F.len ≤ 64) := Lib.hid (by rw [← hdec]; exact Nat.le_trans (Fo.len_le _) (decT_size K3))
            have HDEC := Lib.hid hdec
            have HNN : Hid (n3 ≤ 140737488355328) := Lib.hid (by
              by_cases q : n3 ≤ 140737488355328
              · exact q
              · exfalso
                have := (dat_back (v := v) (d := ⟨st, ec, ak, th, has, ⟨id, ix, ct, bs⟩⟩) U1.out U2.out U3.out U4.out U5.out HEE.out).2.2
                rw [QK3.out, QN3.out] at this
                omega)
            clear eF hdec
            go_wp2_with (fail)
            refine (DecodeT_p K3 A1 n3 c1 w1 QN3.out R1.out HNN.out).mono ?_
            rintro _ w2 ⟨v2, rfl, ho, hb⟩
            rw [HDEC.out] at ho
            obtain ⟨ds, ho⟩ := ho
            obtain ⟨Bv, eBv⟩ : ∃ B, B = w1.heap.size := ⟨_, rfl⟩
            rw [← eBv] at ho
            have hds : ds.length = F.len := ItsO.len F ds ho.its
            have HDS : Hid (ds.length ≤ 64) := Lib.hid (by rw [hds]; exact HFL.out)
            have HB2 := Lib.hid (HB1.out.trans (hb.mono HB1.out.size))
            have HOI : Hid (OwnI (w2.alloc (.cells #[.int .i64 kx, .bool cr, .bool li, .slice Ax nx cx, .slice As ns cs] 76)) Bv v2 ds) := Lib.hid ((OwnI.high ho.row (fun g e => ho.ok_ g e)).frame (fun g e => Below.heap_alloc w2 _ g (ho.lt g e)))
            have HBVz : Hid (Bv ≤ (w2.alloc (.cells #[.int .i64 kx, .bool cr, .bool li, .slice Ax nx cx, .slice As ns cs] 76)).heap.size) := Lib.hid (by simp; have := hb.size; omega)
            have HBW : Hid (w.heap.size ≤ Bv ∧ u3.heap.size ≤ Bv) := Lib.hid (by have := HB1.out.size; have := HBU.out.size; omega)
            have HRD3 := Lib.hid (Rd.lit w2 (cellsI [⟨kx, cr, li, Ax, nx, cx, As, ns, cs⟩]) 76)
            have HOP := Lib.hid ho
            have HIT3 : Hid (ItsR (· < w.heap.size) (w2.alloc (.cells #[.int .i64 kx, .bool cr, .bool li, .slice Ax nx cx, .slice As ns cs] 76)) [⟨kx, cr, li, Ax, nx, cx, As, ns, cs⟩] (xF kx cr li bx sub)) := Lib.hid (HITS.out _ (HB2.out.alloc HB2.out.size _))
            have HB3 : Hid (Below u3.heap.size u3 (w2.alloc (.cells #[.int .i64 kx, .bool cr, .bool li, .slice Ax nx cx, .slice As ns cs] 76))) := Lib.hid (HB2.out.alloc HB2.out.size _)
            obtain ⟨⟨x0, x1, x2, x3, x4⟩, -⟩ := five_of ((HB2.out.block g7 (heap_lt HX.out)).trans HX.out)
            dsimp only at x0 x1 x2 x3 x4
            clear ho hb hds eBv HB1 R1
            go_wp2_with (first | (at_builtin; refine wpList_appI _ rfl (.tmp 105) (.tmp 107) rfl Bv v2 ds rfl HOI.out (some ⟨w2.heap.size, 0, none⟩) 1 1 [⟨kx, cr, li, Ax, nx, cx, As, ns, cs⟩] rfl rfl HRD3.out (by have := HDS.out; omega) HBVz.out ?_; intro v4 w4 ho4 hg4 hv4; have HO4 := Lib.hid ho4; have HG4 := Lib.hid hg4; clear ho4 hg4 hv4))
            clear x0 x1 x2 x3 x4
            have hm := more_fo HOP.out HBW.out.1 HIT3.out HO4.out HG4.out
            obtain ⟨A4, c4, rfl, -, -, hfo⟩ := hm.form (n := (F.app (xF kx cr li bx sub)).len) rfl
            have HFO := Lib.hid hfo
            have HB4 : Hid (Below u3.heap.size u3 w4) := Lib.hid (HB3.out.grown HG4.out HB3.out.size (fun g e => by have : Bv ≤ g := HOP.out.ok_ g e; have := HBW.out; omega))
            clear hm hfo
            refine (EncodeT_c (F.app (xF kx cr li bx sub)) _ A4 _ c4 w4 rfl HFO.out (by rw [Fo.len_app]; have := HFL.out; simp only [xF, Fo.len]; omega)).mono ?_
            rintro _ w5 ⟨v5, rfl, ho, hb⟩
            obtain ⟨C, eC⟩ : ∃ C, checkF (F.app (xF kx cr li bx sub)) = C := ⟨_, rfl⟩
            obtain ⟨K5, eK5⟩ : ∃ K, encF (F.app (xF kx cr li bx sub)) = K := ⟨_, rfl⟩
            rw [eC]
            rw [eK5] at ho
            obtain ⟨A5, c5, rfl, hc, hm, r5, _⟩ := OwnB.form ho
            obtain ⟨n5, en5⟩ : ∃ n, K5.length = n := ⟨_, rfl⟩
            rw [en5] at hc ⊢
            have HCC := Lib.hid eC
            have HK5 := Lib.hid eK5
            have HN5 := Lib.hid en5
            have R5 := Lib.hid r5
            have HB5 := Lib.hid (HB4.out.trans (hb.mono HB4.out.size))
            clear ho hb eC eK5 en5 hc hm r5 HB2 HOI HBVz HRD3 HOP HIT3 HB3 HO4 HG4 HFO HB4
            by_cases hC : C = 0
            · have d5 : (C == 0) = true := by rw [hC]; rfl
              have hck : checkF (F.app (xF kx cr li bx sub)) = 0 := HCC.out.trans hC
              have hn5 : n5 ≤ 4096 := by rw [← HN5.out, ← HK5.out]; exact enc_4096 hck
              have hsk : (cr = true → getE v K5 = 7) ∧ (cr = false → getE v K5 = 0 ∧ getD v K5 = ⟨st, ec, ak, th, has, ⟨id, ix, ct, bs⟩⟩) := by
                have := dat_skip (v := v) (d := ⟨st, ec, ak, th, has, ⟨id, ix, ct, bs⟩⟩) (kx := kx) (cr := cr) (li := li) (bx := bx) (sub := sub) U1.out U2.out U3.out U4.out U5.out HV23.out HMAY.out HK.out (by rw [HFF.out]; exact hck)
                rw [HFF.out, HK5.out] at this
                exact this
              obtain ⟨E5, eE5⟩ : ∃ E, getE v K5 = E := ⟨_, rfl⟩
              obtain ⟨D5, eD5⟩ : ∃ D, getD v K5 = D := ⟨_, rfl⟩
              rw [eE5, eD5] at hsk
              have HSK := Lib.hid hsk
              have HE5 := Lib.hid eE5
              have HD5 := Lib.hid eD5
              have HNQ : Hid (n5 ≤ 140737488355328) := Lib.hid (by omega)
              clear hC hck hn5 hsk eE5 eD5
              go_wp2_with (fail)
              refine (GetData_c v K5 A5 n5 c5 w5 HN5.out R5.out HNQ.out).mono ?_
              rintro _ w6 ⟨cs6, rfl, hd6, hb⟩
              rw [HE5.out]
              rw [HD5.out] at hd6
              obtain ⟨A6, n6, c6, rfl, ht⟩ := hd6
              obtain ⟨st6, ec6, ak6, th6, has6, ⟨id6, ix6, ct6, bs6⟩⟩ := D5
              unfold datC
              dsimp only at ht ⊢
              have HT6 := Lib.hid ht.r
              have HB6 := Lib.hid (HB5.out.trans (hb.mono HB5.out.size))
              clear ht hb HB5
              obtain ⟨w7, ew⟩ : ∃ w', w' = w6.alloc (.cells #[.int .u16 (st6 : Int), .int .u16 (ec6 : Int), .int .u64 (ak6 : Int), .int .u64 (th6 : Int), .bool has6, .int .u32 (id6 : Int), .int .i64 ix6, .int .i64 ct6, .slice A6 n6 c6] 29) := ⟨_, rfl⟩
              obtain ⟨g21, eg⟩ : ∃ g, g = w6.heap.size := ⟨_, rfl⟩
              have b7 : Below w6.heap.size w6 w7 := by rw [ew]; exact (Below.refl _ _).alloc (Nat.le_refl _) _
              have HX7 : Hid (D9 w7 g21 #[.int .u16 (st6 : Int), .int .u16 (ec6 : Int), .int .u64 (ak6 : Int), .int .u64 (th6 : Int), .bool has6, .int .u32 (id6 : Int), .int .i64 ix6, .int .i64 ct6, .slice A6 n6 c6]) := Lib.hid (by rw [ew, eg]; exact heap_alloc_new _ _)
              have HB7 := Lib.hid (HB6.out.trans (b7.mono HB6.out.size))
              have HR7 := Lib.hid (HT6.out.2.1.below b7)
              have EW7 := Lib.hid ew
              have EG21 := Lib.hid eg
              clear ew eg b7 HB6
              go_upto_region 17 with (fail)
              rw [← EW7.out, ← EG21.out]
              obtain ⟨⟨x0, x1, x2, x3, x4⟩, -⟩ := five_of ((HB7.out.block g7 (heap_lt HX.out)).trans HX.out)
              dsimp only at x0 x1 x2 x3 x4
              cases cr with
              | true =>
                have h7 : E5 = 7 := HSK.out.1 rfl
                have d7 : ((E5 : Int) != 7) = false := by rw [h7]; rfl
                clear h7
                go_wp2_with (fail)
                clear x0 x1 x2 x3 x4
                refine (fixedB_c w7).mono ?_
                rintro _ wz ⟨rfl, hb⟩
                have HBF := Lib.hid (HBU.out.trans ((HB7.out.trans (hb.mono HB7.out.size)).mono HBU.out.size))
                clear hb
                go_wp2_with (fail)
                go_ret
                exact ⟨rfl, HBF.out⟩
              | false =>
                obtain ⟨h7, hD2⟩ := HSK.out.2 rfl
                have d7 : ((E5 : Int) != 0) = false := by rw [h7]; rfl
                injection hD2 with e1 e2 e3 e4 e5 e6
                injection e6 with e6 e7 e8 e9
                subst e1 e2 e3 e4 e5 e6 e7 e8 e9
                obtain rfl : n6 = n := HT6.out.1.symm.trans HT.out.1
                have HT0 : Hid (Rd w7 A (bs6.map bv)) := Lib.hid ((HT.out.2.1.below HBU.out).below HB7.out)
                clear h7
                obtain ⟨y0, y1, y2, y3, y4, y5, y6, y7, y8⟩ := nine_of (HD.out.below HB7.out (heap_lt HD.out))
                obtain ⟨z0, z1, z2, z3, z4, z5, z6, z7, z8⟩ := nine_of HX7.out
                go_wp2_with (fail)
                clear x0 x1 x2 x3 x4 y0 y1 y2 y3 y4 y5 y6 y7 y8 z0 z1 z2 z3 z4 z5 z6 z7 z8
                refine (SameData_t st6 ec6 ak6 th6 has6 id6 ix6 ct6 A6 A n6 c6 c bs6 w7 HT6.out.1 HR7.out HT0.out (by have := HLN.out; unfold maxLen; omega)).mono ?_
                rintro _ w8 ⟨rfl, hb⟩
                have HB8 := Lib.hid (HB7.out.trans (hb.mono HB7.out.size))
                clear hb
                go_wp2_with (fail)
                refine (fixedB_c w8).mono ?_
                rintro _ wz ⟨rfl, hb⟩
                have HBF := Lib.hid (HBU.out.trans ((HB8.out.trans (hb.mono HB8.out.size)).mono HBU.out.size))
                clear hb
                go_wp2_with (fail)
                go_ret
                exact ⟨rfl, HBF.out⟩
            · have d5 : (C == 0) = false := by rw [beq_eq_false_iff_ne]; exact hC
              clear hC
              go_wp2_with (fail)
              refine (fixedB_c w5).mono ?_
              rintro _ wz ⟨rfl, hb⟩
              have HBF := Lib.hid (HBU.out.trans ((HB5.out.trans (hb.mono HB5.out.size)).mono HBU.out.size))
              clear hb
              go_wp2_with (fail)
              go_ret
              exact ⟨rfl, HBF.out⟩
        · have d2 : (E3 == 0) = false := by rw [beq_eq_false_iff_ne]; exact hE
          clear hE
          go_wp2_with (fail)
          refine (fixedB_c w1).mono ?_
          rintro _ wz ⟨rfl, hb⟩
          have HBF := Lib.hid (HBU.out.trans ((HB1.out.trans (hb.mono HB1.out.size)).mono HBU.out.size))
          clear hb
          go_wp2_with (fail)
          go_ret
          exact ⟨rfl, HBF.out⟩
    · have d0 : (16384 : Int) < (n : Int) := by omega
      clear hn
      go_wp2_with (fail)
      clear x0 x1 x2 x3 x4 y0 y1 y2 y3 y4 y5 y6 y7 y8
      refine (fixedB_c w0).mono ?_
      rintro _ wz ⟨rfl, hb⟩
      have HBF := Lib.hid (HBU.out.trans ((HB0.out.trans (hb.mono HB0.out.size)).mono HBU.out.size))
      clear hb
      go_wp2_with (fail)
      go_ret
      exact ⟨rfl, HBF.out⟩
end Go.Proofs.Ytcffinkkfdfcaaa
