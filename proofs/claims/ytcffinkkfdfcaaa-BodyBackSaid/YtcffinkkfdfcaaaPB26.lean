/- Parts one behind the other: The walk of the law BodyBack: it returns true. Conditions: as told at each. -/
import Derived.Test.YtcffinkkfdfcaaaPB16
import Derived.Test.YtcffinkkfdfcaaaPB23
import Derived.Test.YtcffinkkfdfcaaaPB24
import Derived.Test.YtcffinkkfdfcaaaPB25
import Derived.Deep.MidRow
import Derived.Deep.CutBlock

set_option linter.unusedVariables false
set_option linter.unusedSimpArgs false
/- The walk of the law BodyBack: it returns true. Conditions: the row's own. -/
namespace Go.Proofs.Ytcffinkkfdfcaaa
open Go Go.RowKit

theorem info_selb : (Try.prog.info? 49).map (·.size) = some 52 := by kernel_rfl
theorem info_helb {mx : Int} {ft : Nat} {l : List UInt8} (h : l.length = 16) : (Try.prog.info? 44).map (·.size) = some (helI mx ft l).size := info_hel.trans (congrArg some (by simp [helI, h]))
theorem info_selbi {v mx : Int} {f1 f2 : Nat} {l1 l2 : List UInt8} (h1 : l1.length = 16) (h2 : l2.length = 32) : (Try.prog.info? 49).map (·.size) = some (selI v f1 mx f2 l1 l2).size := info_selb.trans (congrArg some (by simp [selI, h1, h2]))
theorem helI_one (mx : Int) (ft : Nat) (l : List UInt8) : (helI mx ft l).all (·.oneCell') = true := by unfold helI; simp [Value.oneCell', bv]
theorem selI_one (v mx : Int) (f1 f2 : Nat) (l m : List UInt8) : (selI v f1 mx f2 l m).all (·.oneCell') = true := by unfold selI; simp [Value.oneCell', bv]
theorem sel_range {w : World} {g : Nat} {v mx : Int} {f1 f2 : Nat} {l1 l2 : List UInt8} {t : TypeId} (hl : l1.length = 16) (h : w.heap[g]? = some (.cells (selI v f1 mx f2 l1 l2) t (0, 0))) : w.rangeAt g 20 (l2.map bv) := fun j x hx => by
  rw [heap_cell h, selI, List.getElem?_toArray, show 20 + j = 16 + j + 1 + 1 + 1 + 1 by omega, List.getElem?_cons_succ, List.getElem?_cons_succ, List.getElem?_cons_succ, List.getElem?_cons_succ, List.getElem?_append_right (by simp [hl])]
  simpa [hl] using hx
theorem run_selfN {P : Program} (w : World) {m t : Nat} {cs : Array Value} (hm : m ≤ 10000) (hk : P.keyTypeAt m t = true) (hf : (Value.agg cs).formed P t = true) (hL : ∃ L, P.keyLits m t cs.toList = some L) :
    (binOp .neq t (.agg cs) (.agg cs)).run P w = .ok (.bool false) w := by
  obtain ⟨L, hL⟩ := hL
  obtain ⟨r, hr, hiff⟩ := run_equalIn_deep (P := P) (10000 - m) m t hk w m m _ _ L L hf hf hL hL
  rw [show 10000 - m + m = 10000 by omega] at hr
  rw [run_neq_struct, hr, hiff.2 rfl]
  rfl
theorem selfN_hel (w : World) {Y : Array Value} {bs : List UInt8} (h : (helR bs).val = .agg Y) : (binOp .neq 44 (.agg Y) (.agg Y)).run Try.prog w = .ok (.bool false) w := by
  have e : Y = (helC (helR bs).mx (helR bs).ft (helR bs).nc).toArray := by simpa [Hel.val, helV] using h.symm
  rw [e]
  exact run_selfN w (m := 3) (by decide) (by kernel_rfl) (formed_agg Try.underlying44 c_he (by simp [helC, (helR_ok bs).2.2])) (kl_hel (helR_ok bs).1 (helR_ok bs).2.1 (helR_ok bs).2.2)
theorem selfN_sel (w : World) {Y : Array Value} {bs : List UInt8} (h : (selR bs).val = .agg Y) : (binOp .neq 49 (.agg Y) (.agg Y)).run Try.prog w = .ok (.bool false) w := by
  have e : Y = (selC (selR bs).v (selR bs).f1 (selR bs).mx (selR bs).f2 (selR bs).nc (selR bs).cf).toArray := by simpa [Sel.val] using h.symm
  rw [e]
  exact run_selfN w (m := 3) (by decide) (by kernel_rfl) (formed_agg Try.underlying49 c_se (by simp [selC, (selR_ok bs).2.2.2.2.1, (selR_ok bs).2.2.2.2.2])) (kl_sel (selR_ok bs).1 (selR_ok bs).2.1 (selR_ok bs).2.2.1 (selR_ok bs).2.2.2.1 (selR_ok bs).2.2.2.2.1 (selR_ok bs).2.2.2.2.2)
theorem selfN_a32 (w : World) {l : List UInt8} (h : l.length = 32) : (binOp .neq 47 (.agg (l.map bv).toArray) (.agg (l.map bv).toArray)).run Try.prog w = .ok (.bool false) w := by
  rw [run_neq_struct, run_eqA w _ _ h h]
  simp
set_option maxRecDepth 100000 in
set_option maxHeartbeats 8000000 in
theorem BodyBack_walk (w : World) (mx : Int) (ft : Nat) (l : List UInt8) (hh : ft < 4294967296 ∧ l.length = 16) (vr : Int) (f1 : Nat) (b : Int) (f2 : Nat) (l1 l2 : List UInt8) (hs : f1 < 4294967296 ∧ f2 < 4294967296 ∧ l1.length = 16 ∧ l2.length = 32)
    (v : Int) (hv : (Lit.int .i64 v).wf = true) (st ec ak th : Nat) (has : Bool) (id : Nat) (ix ct : Int) (A : Option Addr) (n c : Nat) (bs : List UInt8)
    (hd : st < 65536 ∧ ec < 65536 ∧ ak < 18446744073709551616 ∧ th < 18446744073709551616 ∧ id < 4294967296 ∧ (Lit.int .i64 ix).wf = true ∧ (Lit.int .i64 ct).wf = true ∧ TxtR (· < w.heap.size) w A n c bs ∧ n ≤ 140737488351232) :
    Calls Try.prog 8 #[.agg (helI mx ft l), .agg (selI vr f1 b f2 l1 l2), .int .i64 v, .agg #[.int .u16 (st : Int), .int .u16 (ec : Int), .int .u64 (ak : Int), .int .u64 (th : Int), .bool has, .int .u32 (id : Int), .int .i64 ix, .int .i64 ct, .slice A n c]] w fun r w' => r = .returned (.bool true) ∧ Below w.heap.size w w' := by
  obtain ⟨a1, a2⟩ := hh
  obtain ⟨b1, b2, b3, b4⟩ := hs
  have HF := Lib.hid a1
  have HL := Lib.hid a2
  have HF1 := Lib.hid b1
  have HF2 := Lib.hid b2
  have HL1 := Lib.hid b3
  have HL2 := Lib.hid b4
  obtain ⟨h1, h2, h3, h4, h5, -, -, ht, hl⟩ := hd
  have U1 : Hid (U16 st) := Lib.hid h1
  have U2 : Hid (U16 ec) := Lib.hid h2
  have U3 : Hid (U64 ak) := Lib.hid h3
  have U4 : Hid (U64 th) := Lib.hid h4
  have U5 := Lib.hid h5
  have HT := Lib.hid ht
  have HLN := Lib.hid hl
  clear h1 h2 h3 h4 h5 ht hl hv a1 a2 b1 b2 b3 b4
  obtain ⟨u1, eu1⟩ : ∃ u, u = w.alloc (.cells (helI mx ft l) 44) := ⟨_, rfl⟩
  obtain ⟨u2, eu2⟩ : ∃ u, u = u1.alloc (.cells (selI vr f1 b f2 l1 l2) 49) := ⟨_, rfl⟩
  obtain ⟨u3, eu3⟩ : ∃ u, u = u2.alloc (.cells #[.int .u16 (st : Int), .int .u16 (ec : Int), .int .u64 (ak : Int), .int .u64 (th : Int), .bool has, .int .u32 (id : Int), .int .i64 ix, .int .i64 ct, .slice A n c] 29) := ⟨_, rfl⟩
  obtain ⟨g4, eg4⟩ : ∃ g, g = w.heap.size := ⟨_, rfl⟩
  obtain ⟨g5, eg5⟩ : ∃ g, g = w.heap.size + 1 := ⟨_, rfl⟩
  obtain ⟨g7, eg7⟩ : ∃ g, g = w.heap.size + 1 + 1 := ⟨_, rfl⟩
  have z1 : u1.heap.size = g5 := by rw [eu1, eg5]; simp
  have z2 : u2.heap.size = g7 := by rw [eu2, eg7]; simp [z1, eg5]
  have k1 : Below w.heap.size w u1 := by rw [eu1]; exact (Below.refl _ _).alloc (Nat.le_refl _) _
  have k2 : Below u1.heap.size u1 u2 := by rw [eu2]; exact (Below.refl _ _).alloc (Nat.le_refl _) _
  have k3 : Below u2.heap.size u2 u3 := by rw [eu3]; exact (Below.refl _ _).alloc (Nat.le_refl _) _
  have y1 : u1.heap[g4]? = some (.cells (helI mx ft l) 44 (0, 0)) := by rw [eu1, eg4]; exact heap_alloc_new _ _
  have y2 : u2.heap[g5]? = some (.cells (selI vr f1 b f2 l1 l2) 49 (0, 0)) := by rw [← z1, eu2]; exact heap_alloc_new _ _
  have y3 : u3.heap[g7]? = some (.cells #[.int .u16 (st : Int), .int .u16 (ec : Int), .int .u64 (ak : Int), .int .u64 (th : Int), .bool has, .int .u32 (id : Int), .int .i64 ix, .int .i64 ct, .slice A n c] 29 (0, 0)) := by rw [← z2, eu3]; exact heap_alloc_new _ _
  have HH := Lib.hid ((k3.block _ (by omega)).trans ((k2.block _ (by omega)).trans y1))
  have HS := Lib.hid ((k3.block _ (by omega)).trans y2)
  have HD : Hid (D9 u3 g7 #[.int .u16 (st : Int), .int .u16 (ec : Int), .int .u64 (ak : Int), .int .u64 (th : Int), .bool has, .int .u32 (id : Int), .int .i64 ix, .int .i64 ct, .slice A n c]) := Lib.hid y3
  have HBU := Lib.hid (k1.trans ((k2.trans (k3.mono (by omega))).mono (by omega)))
  have EU : Hid (u3 = ((w.alloc (.cells (helI mx ft l) 44)).alloc (.cells (selI vr f1 b f2 l1 l2) 49)).alloc (.cells #[.int .u16 (st : Int), .int .u16 (ec : Int), .int .u64 (ak : Int), .int .u64 (th : Int), .bool has, .int .u32 (id : Int), .int .i64 ix, .int .i64 ct, .slice A n c] 29)) := Lib.hid (by rw [eu3, eu2, eu1])
  have EG4 := Lib.hid eg4
  have EG5 := Lib.hid eg5
  have EG7 := Lib.hid eg7
  clear eu1 eu2 eu3 z1 z2 k1 k2 k3 y1 y2 y3 eg4 eg5 eg7
  obtain ⟨x0, x1, x2, x3, x4, x5, x6, x7, x8⟩ := nine_of HD.out
  go_enter Try.func8, Try.ntmps8
  go_upto_region 1 with (fail)
  rw [← EU.out, ← EG7.out, ← EG5.out, ← EG4.out]
  by_cases hn : n ≤ 16384
  · have d0 : (n : Int) ≤ 16384 := by omega
    clear hn
    go_upto_region 3 with (fail)
    clear x0 x1 x2 x3 x4 x5 x6 x7 x8
    have HB0 : Hid (Below u3.heap.size u3 u3) := Lib.hid (Below.refl _ _)
    obtain ⟨E1, eE⟩ : ∃ E, (putH mx ft l).1 = E := ⟨_, rfl⟩
    obtain ⟨K1, eK⟩ : ∃ L, (putH mx ft l).2 = L := ⟨_, rfl⟩
    obtain ⟨n1, en⟩ : ∃ n, K1.length = n := ⟨_, rfl⟩
    have QE1 := Lib.hid eE
    have QK1 := Lib.hid eK
    have QN1 := Lib.hid en
    clear eE eK en
    go_wp2_with (first | (refine wpList_load_row rfl 44 (.tmp 4) rfl g4 rfl 44 (helI mx ft l) (0, 0) _ ((HB0.out.block _ (heap_lt HH.out)).trans HH.out) Try.underlying44 rfl (info_helb HL.out) ?_))
    refine (PutHello_c mx ft l HF.out HL.out u3).mono ?_
    rintro _ w1 ⟨x, rfl, ho, hb⟩
    rw [QE1.out]
    rw [QK1.out] at ho
    obtain ⟨A1, c1, rfl, hc, hm, r, _⟩ := OwnB.form ho
    rw [QN1.out] at hc ⊢
    have R1 := Lib.hid r
    have HB1 := Lib.hid (HB0.out.trans (hb.mono HB0.out.size))
    clear ho hb hc hm r
    go_upto_if 35 with (fail)
    go_cut [] (fun wx => Hid (Below u3.heap.size u3 wx))
    case first =>
      by_cases hE : E1 = 0
      · have d1 : (E1 == 0) = true := by rw [hE]; rfl
        obtain ⟨q1, q2, q3⟩ := hel_back HF.out HL.out (QE1.out.trans hE)
        rw [QK1.out] at q1 q2 q3
        rw [QN1.out] at q3
        have d2 : (n1 : Int) ≤ 512 := by omega
        have Q1 := Lib.hid q1
        have Q2 := Lib.hid q2
        have HSELF : Hid (∀ w, (binOp .neq 44 (.agg (helI mx ft l)) (.agg (helI mx ft l))).run Try.prog w = .ok (.bool false) w) := Lib.hid (fun w => selfN_hel w q2)
        have HN1 : Hid (n1 ≤ 140737488355328) := Lib.hid (by omega)
        clear hE q1 q2 q3
        go_wp2_with (fail)
        refine (GetHello_c K1 A1 n1 c1 w1 QN1.out R1.out HN1.out).mono ?_
        rintro _ w2 ⟨rfl, hb⟩
        rw [Q1.out, Q2.out]
        have HB2 := Lib.hid (HB1.out.trans (hb.mono HB1.out.size))
        clear hb HB1
        obtain ⟨w3, ew⟩ : ∃ w', w' = (w2.alloc (.cells #[.int .i64 0, .int .u32 0, .int .u8 0, .int .u8 0, .int .u8 0, .int .u8 0, .int .u8 0, .int .u8 0, .int .u8 0, .int .u8 0, .int .u8 0, .int .u8 0, .int .u8 0, .int .u8 0, .int .u8 0, .int .u8 0, .int .u8 0, .int .u8 0] 44)).setRow w2.heap.size (helI mx ft l) := ⟨_, rfl⟩
        obtain ⟨g9, eg⟩ : ∃ g, g = w2.heap.size := ⟨_, rfl⟩
        have b3 : Below w2.heap.size w2 w3 := by rw [ew]; exact below_setRow ((Below.refl _ _).alloc (Nat.le_refl _) _) (Nat.le_refl _) _
        have HX3 : Hid (w3.heap[g9]? = some (.cells (helI mx ft l) 44 (0, 0))) := Lib.hid (by rw [ew, eg]; exact setRow_heap _ _ _ _ _ _ (heap_alloc_new w2 _))
        have HB3 := Lib.hid (HB2.out.trans (b3.mono HB2.out.size))
        have HZS : Hid (((helC 0 0 (zerB 16)).toArray).size = (helI mx ft l).size) := Lib.hid (by simp [helC, zerB, helI, HL.out])
        have EW3 := Lib.hid ew
        have EG9 := Lib.hid eg
        have hself := HSELF.out
        have HO3 := Lib.hid ((HB3.out.block _ (heap_lt HH.out)).trans HH.out)
        clear ew eg b3 HB2 HSELF
        go_upto_region 6 with (first
          | (refine wpList_store_row rfl 44 (.tmp 11) (.tmp 39) rfl w2.heap.size (helI mx ft l) rfl rfl 44 _ ((heap_alloc_new w2 _).trans (congrArg (fun x => some (Obj.cells x 44 (0, 0))) hel_zero)) (info_helb HL.out) HZS.out (helI_one _ _ _) ?_))
        rw [← EW3.out, ← EG9.out]
        go_wp2_with (first | ((with_reducible refine wpList_open (o := ⟨some 44, _, _, _, _, _⟩) rfl ?_); refine wpList_load_row rfl 44 (.tmp 11) rfl g9 rfl 44 (helI mx ft l) (0, 0) _ HX3.out Try.underlying44 rfl (info_helb HL.out) ?_) | ((with_reducible refine wpList_open (o := ⟨some 45, _, _, _, _, _⟩) rfl ?_); refine wpList_load_row rfl 44 (.tmp 4) rfl g4 rfl 44 (helI mx ft l) (0, 0) _ HO3.out Try.underlying44 rfl (info_helb HL.out) ?_))
        go_meet
        exact HB3
      · have d1 : (E1 == 0) = false := by rw [beq_eq_false_iff_ne]; exact hE
        clear hE
        go_wp2_with (fail)
        go_meet
        exact HB1
    case rest =>
    clear HB1 R1
    obtain ⟨wb1, ew⟩ : ∃ x, x = wc := ⟨_, rfl⟩
    rw [← ew] at hcut ⊢
    clear ew
    have HB1 := hcut
    clear hcut
    obtain ⟨E2, eE⟩ : ∃ E, (putS vr f1 b f2 l1 l2).1 = E := ⟨_, rfl⟩
    obtain ⟨K2, eK⟩ : ∃ L, (putS vr f1 b f2 l1 l2).2 = L := ⟨_, rfl⟩
    obtain ⟨n2, en⟩ : ∃ n, K2.length = n := ⟨_, rfl⟩
    have QE2 := Lib.hid eE
    have QK2 := Lib.hid eK
    have QN2 := Lib.hid en
    clear eE eK en
    go_wp2_with (first | (refine wpList_load_row rfl 49 (.tmp 5) rfl g5 rfl 49 (selI vr f1 b f2 l1 l2) (0, 0) _ ((HB1.out.block _ (heap_lt HS.out)).trans HS.out) Try.underlying49 rfl (info_selbi HL1.out HL2.out) ?_))
    refine (PutSelect_c vr f1 b f2 l1 l2 HF1.out HF2.out HL1.out HL2.out wb1).mono ?_
    rintro _ w1 ⟨x, rfl, ho, hb⟩
    rw [QE2.out]
    rw [QK2.out] at ho
    obtain ⟨A1, c1, rfl, hc, hm, r, _⟩ := OwnB.form ho
    rw [QN2.out] at hc ⊢
    have R1 := Lib.hid r
    have HB1 := Lib.hid (HB1.out.trans (hb.mono HB1.out.size))
    clear ho hb hc hm r
    go_upto_if 59 with (fail)
    go_cut [] (fun wx => Hid (Below u3.heap.size u3 wx))
    case first =>
      by_cases hE : E2 = 0
      · have d1 : (E2 == 0) = true := by rw [hE]; rfl
        obtain ⟨q1, q2, q3⟩ := sel_back HF1.out HF2.out HL1.out HL2.out (QE2.out.trans hE)
        rw [QK2.out] at q1 q2 q3
        rw [QN2.out] at q3
        have d2 : (n2 : Int) ≤ 512 := by omega
        have Q1 := Lib.hid q1
        have Q2 := Lib.hid q2
        have HSELF : Hid (∀ w, (binOp .neq 49 (.agg (selI vr f1 b f2 l1 l2)) (.agg (selI vr f1 b f2 l1 l2))).run Try.prog w = .ok (.bool false) w) := Lib.hid (fun w => selfN_sel w q2)
        have HN1 : Hid (n2 ≤ 140737488355328) := Lib.hid (by omega)
        clear hE q1 q2 q3
        go_wp2_with (fail)
        refine (GetSelect_c K2 A1 n2 c1 w1 QN2.out R1.out HN1.out).mono ?_
        rintro _ w2 ⟨rfl, hb⟩
        rw [Q1.out, Q2.out]
        have HB2 := Lib.hid (HB1.out.trans (hb.mono HB1.out.size))
        clear hb HB1
        obtain ⟨w3, ew⟩ : ∃ w', w' = (w2.alloc (.cells #[.int .i64 0, .int .u32 0, .int .i64 0, .int .u32 0, .int .u8 0, .int .u8 0, .int .u8 0, .int .u8 0, .int .u8 0, .int .u8 0, .int .u8 0, .int .u8 0, .int .u8 0, .int .u8 0, .int .u8 0, .int .u8 0, .int .u8 0, .int .u8 0, .int .u8 0, .int .u8 0, .int .u8 0, .int .u8 0, .int .u8 0, .int .u8 0, .int .u8 0, .int .u8 0, .int .u8 0, .int .u8 0, .int .u8 0, .int .u8 0, .int .u8 0, .int .u8 0, .int .u8 0, .int .u8 0, .int .u8 0, .int .u8 0, .int .u8 0, .int .u8 0, .int .u8 0, .int .u8 0, .int .u8 0, .int .u8 0, .int .u8 0, .int .u8 0, .int .u8 0, .int .u8 0, .int .u8 0, .int .u8 0, .int .u8 0, .int .u8 0, .int .u8 0, .int .u8 0] 49)).setRow w2.heap.size (selI vr f1 b f2 l1 l2) := ⟨_, rfl⟩
        obtain ⟨g9, eg⟩ : ∃ g, g = w2.heap.size := ⟨_, rfl⟩
        have b3 : Below w2.heap.size w2 w3 := by rw [ew]; exact below_setRow ((Below.refl _ _).alloc (Nat.le_refl _) _) (Nat.le_refl _) _
        have HX3 : Hid (w3.heap[g9]? = some (.cells (selI vr f1 b f2 l1 l2) 49 (0, 0))) := Lib.hid (by rw [ew, eg]; exact setRow_heap _ _ _ _ _ _ (heap_alloc_new w2 _))
        have HB3 := Lib.hid (HB2.out.trans (b3.mono HB2.out.size))
        have HZS : Hid (((selC 0 0 0 0 (zerB 16) (zerB 32)).toArray).size = (selI vr f1 b f2 l1 l2).size) := Lib.hid (by simp [selC, zerB, selI, HL1.out, HL2.out])
        have EW3 := Lib.hid ew
        have EG9 := Lib.hid eg
        have hself := HSELF.out
        have HO3 := Lib.hid ((HB3.out.block _ (heap_lt HS.out)).trans HS.out)
        clear ew eg b3 HB2 HSELF
        go_upto_region 11 with (first
          | (refine wpList_store_row rfl 49 (.tmp 15) (.tmp 63) rfl w2.heap.size (selI vr f1 b f2 l1 l2) rfl rfl 49 _ ((heap_alloc_new w2 _).trans (congrArg (fun x => some (Obj.cells x 49 (0, 0))) sel_zero)) (info_selbi HL1.out HL2.out) HZS.out (selI_one _ _ _ _ _ _) ?_))
        rw [← EW3.out, ← EG9.out]
        have HR2 : Hid (w3.rangeAt g5 20 (l2.map bv)) := Lib.hid (sel_range HL1.out HO3.out)
        go_wp2_with (first | ((with_reducible refine wpList_open (o := ⟨some 68, _, _, _, _, _⟩) rfl ?_); refine wpList_load_row rfl 49 (.tmp 15) rfl g9 rfl 49 (selI vr f1 b f2 l1 l2) (0, 0) _ HX3.out Try.underlying49 rfl (info_selbi HL1.out HL2.out) ?_) | ((with_reducible refine wpList_open (o := ⟨some 69, _, _, _, _, _⟩) rfl ?_); refine wpList_load_row rfl 49 (.tmp 5) rfl g5 rfl 49 (selI vr f1 b f2 l1 l2) (0, 0) _ HO3.out Try.underlying49 rfl (info_selbi HL1.out HL2.out) ?_) | (refine wpList_load_mid rfl 47 (.tmp 78) rfl g5 20 rfl (l2.map bv) _ HR2.out Try.underlying47 rfl (by rw [List.length_map, HL2.out]; exact info_a32c) ?_))
        refine (PutConfirm_c l2 HL2.out w3).mono ?_
        rintro _ w4 ⟨x, rfl, ho, hb⟩
        obtain ⟨K9, eK9⟩ : ∃ K, encF (crF 0 [l2]) = K := ⟨_, rfl⟩
        rw [eK9] at ho
        obtain ⟨A9, c9, rfl, hc, hm, r9, _⟩ := OwnB.form ho
        obtain ⟨n9, en9⟩ : ∃ n, K9.length = n := ⟨_, rfl⟩
        rw [en9] at hc ⊢
        obtain ⟨q1, q2⟩ := con_back HL2.out
        rw [eK9] at q1 q2
        have hn9 : n9 ≤ 34 := by
          rw [← en9, ← eK9]
          exact Nat.le_trans (enc_len (l := [l2]) (by intro x hx; simp at hx; rw [hx, HL2.out]; decide) (by simp)) (by simp)
        have Q1 := Lib.hid q1
        have Q2 := Lib.hid q2
        have R9 := Lib.hid r9
        have HN9 := Lib.hid en9
        have HNN : Hid (n9 ≤ 140737488355328) := Lib.hid (by omega)
        have HB4 := Lib.hid (HB3.out.trans (hb.mono HB3.out.size))
        clear ho hb eK9 hc hm r9 en9 q1 q2 hn9 hself HB3
        go_wp2_with (fail)
        refine (GetConfirm_c K9 A9 n9 c9 w4 HN9.out R9.out HNN.out).mono ?_
        rintro _ w5 ⟨rfl, hb⟩
        rw [Q1.out, Q2.out]
        have HB5 := Lib.hid (HB4.out.trans (hb.mono HB4.out.size))
        clear hb HB4
        obtain ⟨w6, ew⟩ : ∃ w', w' = (w5.alloc (.cells #[.int .u8 0, .int .u8 0, .int .u8 0, .int .u8 0, .int .u8 0, .int .u8 0, .int .u8 0, .int .u8 0, .int .u8 0, .int .u8 0, .int .u8 0, .int .u8 0, .int .u8 0, .int .u8 0, .int .u8 0, .int .u8 0, .int .u8 0, .int .u8 0, .int .u8 0, .int .u8 0, .int .u8 0, .int .u8 0, .int .u8 0, .int .u8 0, .int .u8 0, .int .u8 0, .int .u8 0, .int .u8 0, .int .u8 0, .int .u8 0, .int .u8 0, .int .u8 0] 47)).setRow w5.heap.size (a32C l2) := ⟨_, rfl⟩
        obtain ⟨g17, eg⟩ : ∃ g, g = w5.heap.size := ⟨_, rfl⟩
        have b6 : Below w5.heap.size w5 w6 := by rw [ew]; exact below_setRow ((Below.refl _ _).alloc (Nat.le_refl _) _) (Nat.le_refl _) _
        have HX6 : Hid (w6.heap[g17]? = some (.cells (a32C l2) 47 (0, 0))) := Lib.hid (by rw [ew, eg]; exact setRow_heap _ _ _ _ _ _ (heap_alloc_new w5 _))
        have HB6 := Lib.hid (HB5.out.trans (b6.mono HB5.out.size))
        have HZ9 : Hid ((a32C (zerB 32)).size = (a32C l2).size) := Lib.hid (by simp [a32C, zerB, HL2.out])
        have HR6 : Hid (w6.rangeAt g5 20 (l2.map bv)) := Lib.hid (sel_range HL1.out ((HB6.out.block _ (heap_lt HS.out)).trans HS.out))
        have EW6 := Lib.hid ew
        have EG17 := Lib.hid eg
        have hself2 : ∀ w, (binOp .neq 47 (.agg (a32C l2)) (.agg (l2.map bv).toArray)).run Try.prog w = .ok (.bool false) w := fun w => selfN_a32 w HL2.out
        clear ew eg b6 HB5
        go_upto_region 14 with (first
          | (refine wpList_store_row rfl 47 (.tmp 17) (.tmp 82) rfl w5.heap.size (a32C l2) rfl rfl 47 _ ((heap_alloc_new w5 _).trans (congrArg (fun x => some (Obj.cells x 47 (0, 0))) a32_zero)) (info_a32c.trans (a32_size HL2.out)) HZ9.out (a32_one _) ?_))
        rw [← EW6.out, ← EG17.out]
        go_wp2_with (first
          | ((with_reducible refine wpList_open (o := ⟨some 87, _, _, _, _, _⟩) rfl ?_); refine wpList_load_row rfl 47 (.tmp 17) rfl g17 rfl 47 (a32C l2) (0, 0) _ HX6.out Try.underlying47 rfl (info_a32c.trans (a32_size HL2.out)) ?_)
          | ((with_reducible refine wpList_open (o := ⟨some 89, _, _, _, _, _⟩) rfl ?_); refine wpList_load_mid rfl 47 (.tmp 88) rfl g5 20 rfl (l2.map bv) _ HR6.out Try.underlying47 rfl (by rw [List.length_map, HL2.out]; exact info_a32c) ?_))
        go_meet
        exact HB6
      · have d1 : (E2 == 0) = false := by rw [beq_eq_false_iff_ne]; exact hE
        clear hE
        go_wp2_with (fail)
        go_meet
        exact HB1
    case rest =>
    clear HB1 R1
    obtain ⟨wb2, ew⟩ : ∃ x, x = wc := ⟨_, rfl⟩
    rw [← ew] at hcut ⊢
    clear ew
    have HB2 := hcut
    clear hcut
    obtain ⟨E3, eE⟩ : ∃ E, (putD v ⟨st, ec, ak, th, has, ⟨id, ix, ct, bs⟩⟩).1 = E := ⟨_, rfl⟩
    obtain ⟨K3, eK⟩ : ∃ L, (putD v ⟨st, ec, ak, th, has, ⟨id, ix, ct, bs⟩⟩).2 = L := ⟨_, rfl⟩
    obtain ⟨n3, en⟩ : ∃ n, K3.length = n := ⟨_, rfl⟩
    have QE3 := Lib.hid eE
    have QK3 := Lib.hid eK
    have QN3 := Lib.hid en
    clear eE eK en
    have HDB := Lib.hid (HD.out.below HB2.out (heap_lt HD.out))
    have HTB : Hid (TxtR (· < wb2.heap.size) wb2 A n c bs) := Lib.hid (by
      have hb := HBU.out.trans (HB2.out.mono HBU.out.size)
      exact (HT.out.frame (fun j hj _ => hb.block j hj) hb.size).weak (fun j (hj : j < w.heap.size) _ => Nat.lt_of_lt_of_le hj hb.size))
    obtain ⟨x0, x1, x2, x3, x4, x5, x6, x7, x8⟩ := nine_of HDB.out
    go_wp2_with (fail)
    clear x0 x1 x2 x3 x4 x5 x6 x7 x8
    refine (PutData_c v st ec ak th has id ix ct A n c bs wb2 U1.out U2.out U3.out U4.out U5.out HTB.out HLN.out).mono ?_
    rintro _ w1 ⟨x, rfl, ho, hb⟩
    rw [QE3.out]
    rw [QK3.out] at ho
    obtain ⟨A1, c1, rfl, hc, hm, r, _⟩ := OwnB.form ho
    rw [QN3.out] at hc ⊢
    have R1 := Lib.hid r
    have HB1 := Lib.hid (HB2.out.trans (hb.mono HB2.out.size))
    clear ho hb hc hm r
    go_upto_if 99 with (fail)
    go_cut [] (fun wx => Hid (Below u3.heap.size u3 wx))
    case first =>
      by_cases hE : E3 = 0
      · have d1 : (E3 == 0) = true := by rw [hE]; rfl
        obtain ⟨q1, q2, q3⟩ := dat_back (v := v) (d := ⟨st, ec, ak, th, has, ⟨id, ix, ct, bs⟩⟩) U1.out U2.out U3.out U4.out U5.out (QE3.out.trans hE)
        rw [QK3.out] at q1 q2 q3
        rw [QN3.out] at q3
        have d2 : (n3 : Int) ≤ 512 := by omega
        have Q1 := Lib.hid q1
        have Q2 := Lib.hid q2
        have HN1 : Hid (n3 ≤ 140737488355328) := Lib.hid (by omega)
        clear hE q1 q2 q3
        go_wp2_with (fail)
        refine (GetData_c v K3 A1 n3 c1 w1 QN3.out R1.out HN1.out).mono ?_
        rintro _ w2 ⟨cs, rfl, hd, hb⟩
        rw [Q1.out]
        rw [Q2.out] at hd
        obtain ⟨A5, ln, c5, rfl, ht⟩ := hd
        unfold datC
        dsimp only at ht ⊢
        obtain rfl : ln = n := ht.1.symm.trans HT.out.1
        have HT5 := Lib.hid ht.r.2.1
        have HB2b := Lib.hid (HB1.out.trans (hb.mono HB1.out.size))
        clear ht hb HB1
        obtain ⟨w3, ew⟩ : ∃ w', w' = w2.alloc (.cells #[.int .u16 (st : Int), .int .u16 (ec : Int), .int .u64 (ak : Int), .int .u64 (th : Int), .bool has, .int .u32 (id : Int), .int .i64 ix, .int .i64 ct, .slice A5 ln c5] 29) := ⟨_, rfl⟩
        obtain ⟨g6, eg⟩ : ∃ g, g = w2.heap.size := ⟨_, rfl⟩
        have b3 : Below w2.heap.size w2 w3 := by rw [ew]; exact (Below.refl _ _).alloc (Nat.le_refl _) _
        have HX3 : Hid (D9 w3 g6 #[.int .u16 (st : Int), .int .u16 (ec : Int), .int .u64 (ak : Int), .int .u64 (th : Int), .bool has, .int .u32 (id : Int), .int .i64 ix, .int .i64 ct, .slice A5 ln c5]) := Lib.hid (by rw [ew, eg]; exact heap_alloc_new _ _)
        have HT3 := Lib.hid (HT5.out.below b3)
        have HB3 := Lib.hid (HB2b.out.trans (b3.mono HB2b.out.size))
        have HD3 := Lib.hid (HD.out.below HB3.out (heap_lt HD.out))
        have HT0 : Hid (Rd w3 A (bs.map bv)) := Lib.hid ((HT.out.2.1.below HBU.out).below HB3.out)
        have EW3 := Lib.hid ew
        have EG6 := Lib.hid eg
        clear ew eg b3 HB2b HT5
        go_upto_region 19 with (fail)
        rw [← EW3.out, ← EG6.out]
        obtain ⟨x0, x1, x2, x3, x4, x5, x6, x7, x8⟩ := nine_of HX3.out
        obtain ⟨y0, y1, y2, y3, y4, y5, y6, y7, y8⟩ := nine_of HD3.out
        go_wp2_with (fail)
        clear x0 x1 x2 x3 x4 x5 x6 x7 x8 y0 y1 y2 y3 y4 y5 y6 y7 y8
        refine (SameData_t st ec ak th has id ix ct A5 A ln c5 c bs w3 HT.out.1 HT3.out HT0.out (by have := HLN.out; unfold maxLen; omega)).mono ?_
        rintro _ w4 ⟨rfl, hb⟩
        have HB4 := Lib.hid (HB3.out.trans (hb.mono HB3.out.size))
        clear hb
        go_wp2_with (fail)
        go_meet
        exact HB4
      · have d1 : (E3 == 0) = false := by rw [beq_eq_false_iff_ne]; exact hE
        clear hE
        go_wp2_with (fail)
        go_meet
        exact HB1
    case rest =>
    clear HB1 R1
    obtain ⟨wb3, ew⟩ : ∃ x, x = wc := ⟨_, rfl⟩
    rw [← ew] at hcut ⊢
    clear ew
    go_wp2_with (fail)
    refine (fixedB_c wb3).mono ?_
    rintro _ w6 ⟨rfl, hb⟩
    have hb3 := hcut.out
    have HBF := Lib.hid (HBU.out.trans ((hb3.trans (hb.mono hb3.size)).mono HBU.out.size))
    clear hb hb3 hcut
    go_wp2_with (fail)
    go_ret
    exact ⟨rfl, HBF.out⟩
  · have d0 : (16384 : Int) < (n : Int) := by omega
    clear hn
    go_wp2_with (fail)
    refine (fixedB_c u3).mono ?_
    rintro _ w6 ⟨rfl, hb⟩
    have HBF := Lib.hid (HBU.out.trans (hb.mono HBU.out.size))
    clear hb x0 x1 x2 x3 x4 x5 x6 x7 x8
    go_wp2_with (fail)
    go_ret
    exact ⟨rfl, HBF.out⟩
end Go.Proofs.Ytcffinkkfdfcaaa
