/- Parts one behind the other: What the later versions' bytes say: body.getItems. Conditions: as told at each. -/
import Derived.Test.YtcffinkkfdfcaaaPB18
import Derived.Test.YtcffinkkfdfcaaaPB19
import Derived.Deep.CutBlock

set_option linter.unusedVariables false
set_option linter.unusedSimpArgs false
/- What the later versions' bytes say: body.getItems. Conditions: bytes that can be read. -/
namespace Go.Proofs.Ytcffinkkfdfcaaa
open Go Go.RowKit

theorem items_results (tmps : Array Value) (g : Nat) (t : TypeId) (cs : Array Value) (fr : Nat × Nat) (y : Int) (h2 : tmps.getD 2 undef = .pointer (some ⟨g, 0, none⟩)) (h3 : tmps.getD 3 undef = .int .i64 y) (w : World) (hg : w.heap[g]? = some (.cells cs t fr)) (hi : (Try.prog.info? 29).map (·.size) = some cs.size) :
    (results Try.f55 tmps).run Try.prog w = .ok (.tuple #[.agg cs, .int .i64 y]) w := by
  have h2' : tmps[2]?.getD undef = .pointer (some ⟨g, 0, none⟩) := by simpa using h2
  have h3' : tmps[3]?.getD undef = .int .i64 y := by simpa using h3
  simp [results, Try.results55, h2', h3', asAddr, run_loadVar_row w g t 29 cs fr _ hg Try.underlying29 rfl hi]
theorem num2_val (l : List UInt8) (h : l.length = 2) (g : Option Addr) : (numR ⟨l, 0, 0, g⟩ 2).1 = beN l := by
  unfold numR
  rw [if_neg (by simp), if_neg (by decide), if_neg (by simp [h])]
  simp [List.take_of_length_le, h]
theorem numR_none (b : List UInt8) (g : Option Addr) (z : Int) : (numR ⟨b, 0, 0, g⟩ z).1 = (numR ⟨b, 0, 0, none⟩ z).1 := by
  unfold numR
  simp only []
  split
  · rfl
  · split
    · rfl
    · split <;> rfl
theorem echN_lt (I : Fo) : echN I < 65536 := numR_lt _ 2 (by decide)
theorem itSt_lt (bs : List UInt8) : itSt bs < 65536 := by
  have := beN_lt (byB (itA1 bs) 2); rw [byB_len] at this; exact this
theorem wpList_gtr {P : Program} (w : World) {ops : Array Oper} {rest : List Oper} {op : Oper} {a : Act} {Q : Exit → Act → World → Prop} (hgd : op.guard = none) (x y : Operand) (ty ty2 : TypeId) (ho : op.op = .binOp .gtr ty x y ty2)
    (k : IntKind) (u v : Int) (hx : a.eval x = .int k u) (hy : a.eval y = .int k v) (hr : (binOp .gtr ty (.int k u) (.int k v)).run P w = .ok (.bool (decide (v < u))) w) (B : Bool) (hB : decide (v < u) = B) (h : wpList P ops Q rest (a.put op.dst (.bool B)) w) : wpList P ops Q (op :: rest) a w := by
  refine wpList_plain hgd fun K hK => ?_
  unfold Oper.wp execOp
  have hg : (eqGuard .gtr ty x y (.int k u) (.int k v)).run P w = .ok () w := rfl
  simp only [ho, hx, hy, Sem.run_bind, Sem.run_pure, Result.andThen_ok, hg, hr, hB]
  exact hK _ _ h
theorem getI_size (x : Int) : ∀ (f : Fo), (itS (getI x f)).size ≤ f.size
  | .nil => by simp [getI, itS, Fo.size]
  | .cons k cr li bs sub rest => by
    have h := getI_size x rest
    rw [getI]
    split
    · simp only [itS, Fo.size]; omega
    · simp only [Fo.size]; omega
theorem nxI_size (s : FS) : (itS (nxI s)).size ≤ s.l.size := by
  unfold nxI
  split
  · exact getI_size _ _
  · simp [zerI, itS, Fo.size]
def setD9 (w : World) (g : Nat) (v0 v1 v2 v3 v4 v5 v6 v7 v8 : Value) : World := ((((((((w.setCell ⟨g, 0, none⟩ v0).setCell ⟨g, 1, none⟩ v1).setCell ⟨g, 2, none⟩ v2).setCell ⟨g, 3, none⟩ v3).setCell ⟨g, 4, none⟩ v4).setCell ⟨g, 5, none⟩ v5).setCell ⟨g, 6, none⟩ v6).setCell ⟨g, 7, none⟩ v7).setCell ⟨g, 8, none⟩ v8
theorem setD9_heap {w : World} {g : Nat} {t : TypeId} {u0 u1 u2 u3 u4 u5 u6 u7 u8 : Value} (h : w.heap[g]? = some (.cells #[u0, u1, u2, u3, u4, u5, u6, u7, u8] t (0, 0))) (v0 v1 v2 v3 v4 v5 v6 v7 v8 : Value) : (setD9 w g v0 v1 v2 v3 v4 v5 v6 v7 v8).heap[g]? = some (.cells #[v0, v1, v2, v3, v4, v5, v6, v7, v8] t (0, 0)) := by
  unfold setD9
  have h0 := heap_set h 0 v0
  simp only [List.setIfInBounds_toArray, List.set_cons_zero, List.set_cons_succ] at h0
  have h1 := heap_set h0 1 v1
  simp only [List.setIfInBounds_toArray, List.set_cons_zero, List.set_cons_succ] at h1
  have h2 := heap_set h1 2 v2
  simp only [List.setIfInBounds_toArray, List.set_cons_zero, List.set_cons_succ] at h2
  have h3 := heap_set h2 3 v3
  simp only [List.setIfInBounds_toArray, List.set_cons_zero, List.set_cons_succ] at h3
  have h4 := heap_set h3 4 v4
  simp only [List.setIfInBounds_toArray, List.set_cons_zero, List.set_cons_succ] at h4
  have h5 := heap_set h4 5 v5
  simp only [List.setIfInBounds_toArray, List.set_cons_zero, List.set_cons_succ] at h5
  have h6 := heap_set h5 6 v6
  simp only [List.setIfInBounds_toArray, List.set_cons_zero, List.set_cons_succ] at h6
  have h7 := heap_set h6 7 v7
  simp only [List.setIfInBounds_toArray, List.set_cons_zero, List.set_cons_succ] at h7
  have h8 := heap_set h7 8 v8
  simp only [List.setIfInBounds_toArray, List.set_cons_zero, List.set_cons_succ] at h8
  exact h8
theorem setD9_keeps (w : World) (g : Nat) (v0 v1 v2 v3 v4 v5 v6 v7 v8 : Value) : Keeps (fun j => j = g) w (setD9 w g v0 v1 v2 v3 v4 v5 v6 v7 v8) :=
  have k := fun (a : World) (i : Nat) (v : Value) => Keeps.set (fun j => j = g) a ⟨g, i, none⟩ v rfl
  ((((((((k w 0 v0).trans (k _ 1 v1)).trans (k _ 2 v2)).trans (k _ 3 v3)).trans (k _ 4 v4)).trans (k _ 5 v5)).trans (k _ 6 v6)).trans (k _ 7 v7)).trans (k _ 8 v8)
theorem Keeps.drew1 {S : Nat → Prop} {a b : World} (h : Keeps S a b) : Keeps S a b.drew := h.drewN 1
theorem heap_drew1 {w : World} {g : Nat} {o : Obj} (h : w.heap[g]? = some o) : w.drew.heap[g]? = some o := h
theorem setD9_end {w : World} {g : Nat} {t : TypeId} {u0 u1 u2 u3 u4 u5 u6 u7 u8 : Value} (h : w.heap[g]? = some (.cells #[u0, u1, u2, u3, u4, u5, u6, u7, u8] t (0, 0))) (v0 v1 v2 v3 v4 v5 v6 v7 v8 : Value) :
    ∃ wz, wz = (((((((((w.setCell ⟨g, 0, none⟩ v0).setCell ⟨g, 1, none⟩ v1).setCell ⟨g, 2, none⟩ v2).setCell ⟨g, 3, none⟩ v3).setCell ⟨g, 4, none⟩ v4).setCell ⟨g, 5, none⟩ v5).setCell ⟨g, 6, none⟩ v6).setCell ⟨g, 7, none⟩ v7).setCell ⟨g, 8, none⟩ v8).drew ∧
      wz.heap[g]? = some (.cells #[v0, v1, v2, v3, v4, v5, v6, v7, v8] t (0, 0)) ∧ Keeps (fun j => j = g) w wz :=
  by
  have h1 := setD9_heap h v0 v1 v2 v3 v4 v5 v6 v7 v8
  have h2 := setD9_keeps w g v0 v1 v2 v3 v4 v5 v6 v7 v8
  obtain ⟨x, ex⟩ : ∃ x, x = setD9 w g v0 v1 v2 v3 v4 v5 v6 v7 v8 := ⟨_, rfl⟩
  rw [← ex] at h1 h2
  refine ⟨x.drew, ?_, heap_drew1 h1, h2.drew1⟩
  rw [ex, setD9]
theorem nineD_at {w : World} {g : Nat} {t : TypeId} {u0 u1 u2 u3 u4 u5 u6 u7 u8 : Value} (h : w.heap[g]? = some (.cells #[u0, u1, u2, u3, u4, u5, u6, u7, u8] t (0, 0))) :
    (w.cell? ⟨g, 0, none⟩ = some u0 ∧ w.cell? ⟨g, 1, none⟩ = some u1 ∧ w.cell? ⟨g, 2, none⟩ = some u2 ∧ w.cell? ⟨g, 3, none⟩ = some u3 ∧ w.cell? ⟨g, 4, none⟩ = some u4 ∧ w.cell? ⟨g, 5, none⟩ = some u5 ∧ w.cell? ⟨g, 6, none⟩ = some u6 ∧ w.cell? ⟨g, 7, none⟩ = some u7 ∧ w.cell? ⟨g, 8, none⟩ = some u8) ∧
    (w.frozen? ⟨g, 0, none⟩ = false ∧ w.frozen? ⟨g, 1, none⟩ = false ∧ w.frozen? ⟨g, 2, none⟩ = false ∧ w.frozen? ⟨g, 3, none⟩ = false ∧ w.frozen? ⟨g, 4, none⟩ = false ∧ w.frozen? ⟨g, 5, none⟩ = false ∧ w.frozen? ⟨g, 6, none⟩ = false ∧ w.frozen? ⟨g, 7, none⟩ = false ∧ w.frozen? ⟨g, 8, none⟩ = false) :=
  have c := fun (i : Nat) => heap_cell h i
  ⟨⟨(c 0).trans rfl, (c 1).trans rfl, (c 2).trans rfl, (c 3).trans rfl, (c 4).trans rfl, (c 5).trans rfl, (c 6).trans rfl, (c 7).trans rfl, (c 8).trans rfl⟩, heap_free h 0, heap_free h 1, heap_free h 2, heap_free h 3, heap_free h 4, heap_free h 5, heap_free h 6, heap_free h 7, heap_free h 8⟩
theorem ItW.call' {w w2 wx wy : World} {p gr g5 : Nat} {A : Option Addr} {n c : Nat} {L : Fo} {S S' : FS} {zs cs : Array Value} (q1 : gr ≠ p) (q2 : g5 ≠ p) (q3 : w.heap.size ≤ p) (h : ItW w w2 wx p gr g5 A n c L S zs cs) (hf : Flds wy p A n c S') (hl : S'.l = S.l) (hk : Keeps (fun j => j = p) wx wy) : ItW w w2 wy p gr g5 A n c L S' zs cs :=
  ⟨hf, hl.trans h.l, h.k.trans hk, (hk.block gr (heap_lt h.g) q1).trans h.g, (hk.block g5 (heap_lt h.h) q2).trans h.h, keepsP_b h.b hk q3 (Nat.le_refl _)⟩
set_option maxRecDepth 100000 in
set_option maxHeartbeats 8000000 in
theorem getItems_c (bs : List UInt8) (A : Option Addr) (n c : Nat) (w : World) (hn : bs.length = n) (hr : Rd w A (bs.map bv)) (hl : n ≤ 140737488355328) :
    Calls Try.prog 55 #[.slice A n c] w fun r w' => ∃ cs, r = .returned (.tuple #[.agg cs, .int .i64 (itmE bs : Int)]) ∧ DatE (w.heap.size ≤ ·) w' cs (itmE bs) (itmD bs) ∧ Below w.heap.size w w' := by
  have HN := Lib.hid hn
  have HLN := Lib.hid hl
  obtain ⟨w1, ew1⟩ : ∃ w1, w1 = w.alloc (.cells #[.int .u16 0, .int .u16 0, .int .u64 0, .int .u64 0, .bool false, .int .u32 0, .int .i64 0, .int .i64 0, .slice none 0 0] 29) := ⟨_, rfl⟩
  obtain ⟨gr, egr⟩ : ∃ gr, gr = w.heap.size := ⟨_, rfl⟩
  have b1 : Below w.heap.size w w1 := by rw [ew1]; exact (Below.refl _ _).alloc (Nat.le_refl _) _
  have HG1 : Hid (w1.heap[gr]? = some (.cells #[.int .u16 0, .int .u16 0, .int .u64 0, .int .u64 0, .bool false, .int .u32 0, .int .i64 0, .int .i64 0, .slice none 0 0] 29 (0, 0))) := Lib.hid (by rw [ew1, egr]; exact heap_alloc_new _ _)
  have HR1 := Lib.hid (hr.below b1)
  have HB1 := Lib.hid b1
  have EW1 := Lib.hid ew1
  have EGR := Lib.hid egr
  obtain ⟨E, eE⟩ : ∃ E, itmE bs = E := ⟨_, rfl⟩
  obtain ⟨D, eD⟩ : ∃ D, itmD bs = D := ⟨_, rfl⟩
  rw [eE, eD]
  have HE := Lib.hid eE
  have HDD := Lib.hid eD
  clear ew1 egr b1 hn hr hl eE eD
  go_enter Try.func55, Try.ntmps55
  go_upto_region 1 with (fail)
  rw [← EW1.out, ← EGR.out]
  go_wp2_with (fail)
  refine (open_c bs A n c 5 w1 HN.out HR1.out HLN.out (by decide)).mono ?_
  rintro _ w2 ⟨p, A', n', c', rfl, hp, hf, hb⟩
  have HF2 : Hid (Flds w2 p A' n' c' (itA1 bs)) := Lib.hid hf
  have HG2 := Lib.hid ((hb.block gr (heap_lt HG1.out)).trans HG1.out)
  have HB2 := Lib.hid (HB1.out.trans (hb.mono HB1.out.size))
  obtain ⟨w3, ew⟩ : ∃ w', w' = (w2.alloc (.cells #[.int .u16 0, .int .u16 0, .int .u64 0, .int .u64 0, .bool false, .int .u32 0, .int .i64 0, .int .i64 0, .slice none 0 0] 29)).setRow w2.heap.size #[.int .u16 0, .int .u16 65535, .int .u64 0, .int .u64 0, .bool false, .int .u32 0, .int .i64 0, .int .i64 0, .slice none 0 0] := ⟨_, rfl⟩
  obtain ⟨g5, eg⟩ : ∃ g, g = w2.heap.size := ⟨_, rfl⟩
  have b3 : Below w2.heap.size w2 w3 := by rw [ew]; exact below_setRow ((Below.refl _ _).alloc (Nat.le_refl _) _) (Nat.le_refl _) _
  have HQ : Hid (ItQ w w2 p gr g5) := Lib.hid (by
    have h1 := heap_lt HG1.out; have h2 := EGR.out; have h3 := heap_lt HG2.out; have h4 := HF2.out.lt; have h5 := HB1.out.size
    exact ⟨by omega, h3, h4, eg, by omega, by omega⟩)
  have HI3 : Hid (ItW w w2 w3 p gr g5 A' n' c' (itA1 bs).l (itA1 bs) #[.int .u16 0, .int .u16 0, .int .u64 0, .int .u64 0, .bool false, .int .u32 0, .int .i64 0, .int .i64 0, .slice none 0 0] #[.int .u16 0, .int .u16 65535, .int .u64 0, .int .u64 0, .bool false, .int .u32 0, .int .i64 0, .int .i64 0, .slice none 0 0]) := Lib.hid ⟨hf.below b3, rfl, Keeps.of_below b3 _ (fun k hk _ => hk), (b3.block gr (heap_lt HG2.out)).trans HG2.out, by rw [ew, eg]; exact setRow_heap _ _ _ _ _ _ (heap_alloc_new w2 _), HB2.out.trans (b3.mono HB2.out.size)⟩
  have EW3 := Lib.hid ew
  have EG5 := Lib.hid eg
  clear hp hf hb ew eg b3 HG2 HB2 HG1 HB1
  go_wp2_with (first | (refine wpList_store_row rfl 29 (.tmp 5) (.tmp 18) rfl w2.heap.size #[.int .u16 0, .int .u16 65535, .int .u64 0, .int .u64 0, .bool false, .int .u32 0, .int .i64 0, .int .i64 0, .slice none 0 0] rfl rfl 29 _ (heap_alloc_new w2 _) info_dat rfl (nine_one _ _ _ _ _ _ _ _ _ _ _) ?_))
  rw [← EW3.out, ← EG5.out]
  obtain ⟨st, est⟩ : ∃ s, itSt bs = s := ⟨_, rfl⟩
  have HST := Lib.hid est
  have hst : st < 65536 := by rw [← est]; exact itSt_lt bs
  have ys := u16w' hst
  clear est hst
  refine (bytes_c p A' n' c' (itA1 bs) 2 (by decide) w3 HI3.out.f (by rw [itA1_at]; decide)).mono ?_
  rintro _ w4 ⟨Ab, cb, rfl, ht, hf, hk⟩
  have HI4 : Hid (ItW w w2 w4 p gr g5 A' n' c' (itA1 bs).l (itA2 bs) #[.int .u16 0, .int .u16 0, .int .u64 0, .int .u64 0, .bool false, .int .u32 0, .int .i64 0, .int .i64 0, .slice none 0 0] #[.int .u16 0, .int .u16 65535, .int .u64 0, .int .u64 0, .bool false, .int .u32 0, .int .i64 0, .int .i64 0, .slice none 0 0]) := Lib.hid (HI3.out.call HQ.out hf (byS_l _ _) hk)
  obtain ⟨-, hrd, -, -, -, -⟩ := ht.r
  have HRB := Lib.hid hrd
  clear ht hf hk hrd HI3
  go_wp2_with (fail)
  refine (Rnew_c Ab 2 cb (byB (itA1 bs) 2) w4 (byB_len _ _) HRB.out (by decide)).mono ?_
  rintro _ w5 ⟨r, A2, rfl, hr, hrd, hb, -⟩
  have HI5 := Lib.hid (HI4.out.below hb)
  have HR5 : Hid (g5 < r) := Lib.hid (Nat.lt_of_lt_of_le (heap_lt HI4.out.h) hr)
  have HRD5 := Lib.hid hrd
  clear hr hrd hb HI4
  go_wp2_with (fail)
  refine (Rnum_c r ⟨byB (itA1 bs) 2, 0, 0, A2⟩ 2 w5 HRD5.out (by decide)).mono ?_
  rintro _ w6 ⟨rfl, -, hg⟩
  rw [num2_val _ (byB_len _ _), show beN (byB (itA1 bs) 2) = st from HST.out]
  have HI6 := Lib.hid (HI5.out.other HQ.out HF2.out rfl HR5.out (Keeps.of_grown hg _ (fun k e => (Option.some.inj e).symm)))
  clear hg HI5
  have f0 : w6.frozen? ⟨g5, 0, none⟩ = false := heap_free HI6.out.h 0
  have c0 : w6.cell? ⟨g5, 0, none⟩ = some (.int .u16 0) := (heap_cell HI6.out.h 0).trans rfl
  go_upto_region 4 with (fail)
  obtain ⟨w7, ew⟩ : ∃ w', w' = w6.setCell ⟨g5, 0, none⟩ (.int .u16 (st : Int)) := ⟨_, rfl⟩
  rw [← ew]
  have HI7 : Hid (ItW w w2 w7 p gr g5 A' n' c' (itA1 bs).l (itA2 bs) #[.int .u16 0, .int .u16 0, .int .u64 0, .int .u64 0, .bool false, .int .u32 0, .int .i64 0, .int .i64 0, .slice none 0 0] #[.int .u16 (st : Int), .int .u16 65535, .int .u64 0, .int .u64 0, .bool false, .int .u32 0, .int .i64 0, .int .i64 0, .slice none 0 0]) := Lib.hid (HI6.out.set HQ.out HF2.out rfl (by rw [ew]; exact Keeps.set (fun j => j = g5) w6 ⟨g5, 0, none⟩ _ rfl) (by rw [ew]; exact (heap_set HI6.out.h 0 _).trans rfl))
  clear f0 c0 ew HI6
  clear ys
  obtain ⟨B2, eB2⟩ : ∃ B, nxB (itA2 bs) = B := ⟨_, rfl⟩
  obtain ⟨I2, eI2⟩ : ∃ I, nxI (itA2 bs) = I := ⟨_, rfl⟩
  obtain ⟨ec, eec⟩ : ∃ e, itEc bs = e := ⟨_, rfl⟩
  have HB2 := Lib.hid eB2
  have HI2 := Lib.hid eI2
  have HEC := Lib.hid eec
  go_wp2_with (fail)
  refine (next_c p A' n' c' (itA2 bs) false w7 HI7.out.f (by rw [itA2_at]; decide)).mono ?_
  rintro _ w8 ⟨⟨dk, dc, dl, dA, dn, dcc, dAs, dns, dcs⟩, rfl, ho, hf, hk⟩
  unfold ItV.val
  dsimp only
  rw [eB2]
  rw [eI2] at ho
  clear eB2 eI2 eec
  obtain ⟨hli, ht, -, -⟩ := ho.parts
  dsimp only at hli ht
  have HI8 : Hid (ItW w w2 w8 p gr g5 A' n' c' (itA1 bs).l (nxS (itA2 bs) false) #[.int .u16 0, .int .u16 0, .int .u64 0, .int .u64 0, .bool false, .int .u32 0, .int .i64 0, .int .i64 0, .slice none 0 0] #[.int .u16 (st : Int), .int .u16 65535, .int .u64 0, .int .u64 0, .bool false, .int .u32 0, .int .i64 0, .int .i64 0, .slice none 0 0]) := Lib.hid (HI7.out.call HQ.out hf rfl hk)
  obtain ⟨g6, eg6⟩ : ∃ gx, gx = w8.heap.size := ⟨_, rfl⟩
  obtain ⟨w9, ew9⟩ : ∃ w9, w9 = w8.alloc (.cells #[.int .i64 dk, .bool dc, .bool dl, .slice dA dn dcc, .slice dAs dns dcs] 76) := ⟨_, rfl⟩
  have b9 : Below w8.heap.size w8 w9 := by rw [ew9]; exact (Below.refl _ _).alloc (Nat.le_refl _) _
  have hx9 : w9.heap[g6]? = some (.cells (ItV.cells ⟨dk, dc, dl, dA, dn, dcc, dAs, dns, dcs⟩).toArray 76 (0, 0)) := by rw [ew9, eg6]; exact heap_alloc_new _ _
  have HI9 := Lib.hid (HI8.out.below b9)
  have HT9 := Lib.hid (ht.frame (w' := w9) (fun j _ hj => b9.block j hj))
  have HX9 := Lib.hid hx9
  have HG6 : Hid (g5 < g6) := Lib.hid (by rw [eg6]; exact heap_lt HI8.out.h)
  have HZ7 : Hid (g5 < w7.heap.size) := Lib.hid (heap_lt HI7.out.h)
  have EW9 := Lib.hid ew9
  have EG6 := Lib.hid eg6
  have HLI := Lib.hid hli
  clear ho hf hk ht b9 hx9 ew9 eg6 hli HI7 HI8
  go_upto_if 30 with (fail)
  rw [← EW9.out, ← EG6.out]
  go_cut [] (fun wx => Hid (ItW w w2 wx p gr g5 A' n' c' (itA1 bs).l (itA3 bs) #[.int .u16 0, .int .u16 0, .int .u64 0, .int .u64 0, .bool false, .int .u32 0, .int .i64 0, .int .i64 0, .slice none 0 0] #[.int .u16 (st : Int), .int .u16 (ec : Int), .int .u64 0, .int .u64 0, .bool false, .int .u32 0, .int .i64 0, .int .i64 0, .slice none 0 0]))
  case first =>
    cases B2 with
    | false =>
      go_wp2_with (fail)
      go_meet
      have e1 : itA3 bs = nxS (itA2 bs) false := by unfold itA3 ecS; rw [if_neg (by rw [HB2.out]; simp)]
      have e2 : ec = 65535 := by rw [← HEC.out]; unfold itEc ecN; rw [if_neg (by rw [HB2.out]; simp)]
      rw [e1, e2]
      exact HI9
    | true =>
      have HE2 : Hid (ec = echN I2) := Lib.hid (by rw [← HEC.out]; unfold itEc ecN; rw [if_pos HB2.out, HI2.out])
      obtain ⟨b2, e2⟩ : ∃ b, ((dn : Int) != 2) = b := ⟨_, rfl⟩
      have HB2n : Hid (b2 = !decide ((itB I2).length = 2)) := Lib.hid (by
        rw [← e2, HT9.out.1]
        by_cases q : dn = 2
        · rw [q]; rfl
        · rw [decide_eq_false q]; rw [Bool.not_false, bne_iff_ne]; omega)
      obtain ⟨⟨x0, x1, x2, x3, x4⟩, -⟩ := five_of HX9.out
      dsimp only at x0 x1 x2 x3 x4
      go_upto_region 6 with (fail)
      go_cut [] (fun wx => Hid (ItW w w2 wx p gr g5 A' n' c' (itA1 bs).l (badS (nxS (itA2 bs) false) (itL (nxI (itA2 bs)) || !decide ((itB (nxI (itA2 bs))).length = 2))) #[.int .u16 0, .int .u16 0, .int .u64 0, .int .u64 0, .bool false, .int .u32 0, .int .i64 0, .int .i64 0, .slice none 0 0] #[.int .u16 (st : Int), .int .u16 65535, .int .u64 0, .int .u64 0, .bool false, .int .u32 0, .int .i64 0, .int .i64 0, .slice none 0 0]) ∧ Hid (wx.heap[g6]? = some (.cells (ItV.cells ⟨dk, dc, dl, dA, dn, dcc, dAs, dns, dcs⟩).toArray 76 (0, 0))) ∧ Hid (TxtO (w7.heap.size ≤ ·) wx dA dn dcc (itB I2)))
      case first =>
        have fin : ∀ X : Bool, X = (dl || b2) → Calls Try.prog 51 #[.pointer (some ⟨p, 0, none⟩), .bool X] w9 fun r w' => r = .returned (.tuple #[]) ∧ (Hid (ItW w w2 w' p gr g5 A' n' c' (itA1 bs).l (badS (nxS (itA2 bs) false) (itL (nxI (itA2 bs)) || !decide ((itB (nxI (itA2 bs))).length = 2))) #[.int .u16 0, .int .u16 0, .int .u64 0, .int .u64 0, .bool false, .int .u32 0, .int .i64 0, .int .i64 0, .slice none 0 0] #[.int .u16 (st : Int), .int .u16 65535, .int .u64 0, .int .u64 0, .bool false, .int .u32 0, .int .i64 0, .int .i64 0, .slice none 0 0]) ∧ Hid (w'.heap[g6]? = some (.cells (ItV.cells ⟨dk, dc, dl, dA, dn, dcc, dAs, dns, dcs⟩).toArray 76 (0, 0))) ∧ Hid (TxtO (w7.heap.size ≤ ·) w' dA dn dcc (itB I2))) := by
          intro X hX
          refine (bad_c p A' n' c' (nxS (itA2 bs) false) X w9 HI9.out.f).mono ?_
          rintro e w' ⟨he, hf, hk, -⟩
          have h3 := HQ.out.h3; have h4 := HQ.out.h4; have hz := HZ7.out
          refine ⟨he, Lib.hid ?_, Lib.hid ((hk.block g6 (heap_lt HX9.out) (by have := HG6.out; omega)).trans HX9.out), Lib.hid (HT9.out.frame (fun j hj hl => hk.block j hl (by have : w7.heap.size ≤ j := hj; omega)))⟩
          have := HI9.out.call HQ.out hf (by rw [badS_l]) hk
          rw [hX, HLI.out, HB2n.out] at this
          rw [HI2.out]
          exact this
        have FIN := Lib.hid fin
        clear fin
        cases dl with
        | true =>
          go_wp2_with (fail)
          refine (FIN.out true rfl).mono ?_
          rintro _ w' ⟨rfl, h1, h2, h3⟩
          clear x0 x1 x2 x3 x4
          go_wp2_with (fail)
          go_meet
          exact ⟨h1, h2, h3⟩
        | false =>
          go_wp2_with (fail)
          refine (FIN.out b2 rfl).mono ?_
          rintro _ w' ⟨rfl, h1, h2, h3⟩
          clear x0 x1 x2 x3 x4
          go_wp2_with (fail)
          go_meet
          exact ⟨h1, h2, h3⟩
      case rest =>
      clear x0 x1 x2 x3 x4 e2 HI9 HX9 HT9
      obtain ⟨w10, ew10⟩ : ∃ x, x = wc := ⟨_, rfl⟩
      rw [← ew10] at hcut ⊢
      clear ew10
      obtain ⟨HI10, HX10, HT10⟩ := hcut
      obtain ⟨⟨x0, x1, x2, x3, x4⟩, -⟩ := five_of HX10.out
      dsimp only at x0 x1 x2 x3 x4
      have hln := HT10.out.1
      obtain ⟨-, hrd, -, -, -, hl7⟩ := HT10.out.r
      have HRDI := Lib.hid hrd
      have HLNI := Lib.hid hln
      have HL7 := Lib.hid hl7
      clear hrd hln hl7
      go_wp2_with (fail)
      refine (Rnew_c dA dn dcc (itB I2) w10 HLNI.out HRDI.out HL7.out).mono ?_
      rintro _ w11 ⟨r2, A3, rfl, hr, hrd, hb, -⟩
      have HI11 := Lib.hid (HI10.out.below hb)
      have HR11 : Hid (g5 < r2) := Lib.hid (Nat.lt_of_lt_of_le (heap_lt HI10.out.h) hr)
      have HRD11 := Lib.hid hrd
      clear hr hrd hb HI10 x0 x1 x2 x3 x4
      go_wp2_with (fail)
      refine (Rnum_c r2 ⟨itB I2, 0, 0, A3⟩ 2 w11 HRD11.out (by decide)).mono ?_
      rintro _ w12 ⟨rfl, -, hg⟩
      rw [numR_none, show (numR ⟨itB I2, 0, 0, none⟩ 2).1 = ec from HE2.out.symm]
      have HI12 := Lib.hid (HI11.out.other HQ.out HF2.out rfl HR11.out (Keeps.of_grown hg _ (fun k e => (Option.some.inj e).symm)))
      have hec : ec < 65536 := by rw [HE2.out]; exact echN_lt I2
      have ye := u16w' hec
      clear hg HI11 hec
      have f0 : w12.frozen? ⟨g5, 1, none⟩ = false := heap_free HI12.out.h 1
      have c0 : w12.cell? ⟨g5, 1, none⟩ = some (.int .u16 65535) := (heap_cell HI12.out.h 1).trans rfl
      go_upto_region 8 with (fail)
      obtain ⟨w13, ew⟩ : ∃ w', w' = w12.setCell ⟨g5, 1, none⟩ (.int .u16 (ec : Int)) := ⟨_, rfl⟩
      rw [← ew]
      have HI13 : Hid (ItW w w2 w13 p gr g5 A' n' c' (itA1 bs).l (badS (nxS (itA2 bs) false) (itL (nxI (itA2 bs)) || !decide ((itB (nxI (itA2 bs))).length = 2))) #[.int .u16 0, .int .u16 0, .int .u64 0, .int .u64 0, .bool false, .int .u32 0, .int .i64 0, .int .i64 0, .slice none 0 0] #[.int .u16 (st : Int), .int .u16 (ec : Int), .int .u64 0, .int .u64 0, .bool false, .int .u32 0, .int .i64 0, .int .i64 0, .slice none 0 0]) := Lib.hid (HI12.out.set HQ.out HF2.out rfl (by rw [ew]; exact Keeps.set (fun j => j = g5) w12 ⟨g5, 1, none⟩ _ rfl) (by rw [ew]; exact (heap_set HI12.out.h 1 _).trans rfl))
      clear f0 c0 ew HI12
      clear ye
      obtain ⟨b5, e5⟩ : ∃ b, ((ec : Int) == 65535) = b := ⟨_, rfl⟩
      have HB5 : Hid (b5 = decide (echN I2 = 65535)) := Lib.hid (by
        rw [← e5, ← HE2.out]
        by_cases q : ec = 65535
        · rw [q]; rfl
        · rw [decide_eq_false q, beq_eq_false_iff_ne]; omega)
      have c1 : w13.cell? ⟨g5, 1, none⟩ = some (.int .u16 (ec : Int)) := (heap_cell HI13.out.h 1).trans rfl
      go_wp2_with (fail)
      refine (bad_c p A' n' c' (badS (nxS (itA2 bs) false) (itL (nxI (itA2 bs)) || !decide ((itB (nxI (itA2 bs))).length = 2))) b5 w13 HI13.out.f).mono ?_
      rintro _ w' ⟨rfl, hf, hk, -⟩
      have h1 := Lib.hid (HI13.out.call HQ.out hf (by rw [badS_l]) hk)
      clear hf hk c1 e5
      go_wp2_with (fail)
      go_meet
      have e1 : itA3 bs = badS (badS (nxS (itA2 bs) false) (itL (nxI (itA2 bs)) || !decide ((itB (nxI (itA2 bs))).length = 2))) b5 := by unfold itA3 ecS; rw [if_pos HB2.out, HB5.out, HI2.out]
      rw [e1]
      exact h1
  case rest =>
  clear HI9 HX9 HT9 HG6 HZ7 EW9 EG6 HLI HB2 HI2
  obtain ⟨w13, ew13⟩ : ∃ x, x = wc := ⟨_, rfl⟩
  rw [← ew13] at hcut ⊢
  clear ew13
  have HI13 := hcut
  clear hcut
  obtain ⟨ak, eak⟩ : ∃ a, itAk bs = a := ⟨_, rfl⟩
  obtain ⟨th, eth⟩ : ∃ a, itTh bs = a := ⟨_, rfl⟩
  have HAK := Lib.hid eak
  have HTH := Lib.hid eth
  clear eak eth
  go_wp2_with (fail)
  refine (number_c p A' n' c' (itA3 bs) false w13 HI13.out.f (by rw [itA3_at]; decide)).mono ?_
  rintro _ w14 ⟨rfl, hf, hk⟩
  rw [show nuN (itA3 bs) = ak from HAK.out]
  have HI14 : Hid (ItW w w2 w14 p gr g5 A' n' c' (itA1 bs).l (itA4 bs) #[.int .u16 0, .int .u16 0, .int .u64 0, .int .u64 0, .bool false, .int .u32 0, .int .i64 0, .int .i64 0, .slice none 0 0] #[.int .u16 (st : Int), .int .u16 (ec : Int), .int .u64 0, .int .u64 0, .bool false, .int .u32 0, .int .i64 0, .int .i64 0, .slice none 0 0]) := Lib.hid (HI13.out.call HQ.out hf (nuS_l _ _) hk)
  clear hf hk HI13
  go_wp2_with (fail)
  refine (number_c p A' n' c' (itA4 bs) false w14 HI14.out.f (by rw [itA4_at]; decide)).mono ?_
  rintro _ w15 ⟨rfl, hf, hk⟩
  rw [show nuN (itA4 bs) = th from HTH.out]
  have HI15 : Hid (ItW w w2 w15 p gr g5 A' n' c' (itA1 bs).l (itA5 bs) #[.int .u16 0, .int .u16 0, .int .u64 0, .int .u64 0, .bool false, .int .u32 0, .int .i64 0, .int .i64 0, .slice none 0 0] #[.int .u16 (st : Int), .int .u16 (ec : Int), .int .u64 0, .int .u64 0, .bool false, .int .u32 0, .int .i64 0, .int .i64 0, .slice none 0 0]) := Lib.hid (HI14.out.call HQ.out hf (nuS_l _ _) hk)
  clear hf hk HI14
  have f2 : w15.frozen? ⟨g5, 2, none⟩ = false := heap_free HI15.out.h 2
  have f3 : w15.frozen? ⟨g5, 3, none⟩ = false := heap_free HI15.out.h 3
  have c2 : w15.cell? ⟨g5, 2, none⟩ = some (.int .u64 0) := (heap_cell HI15.out.h 2).trans rfl
  have c3 : w15.cell? ⟨g5, 3, none⟩ = some (.int .u64 0) := (heap_cell HI15.out.h 3).trans rfl
  go_upto_region 10 with (fail)
  obtain ⟨w16, ew⟩ : ∃ w', w' = (w15.setCell ⟨g5, 2, none⟩ (.int .u64 (ak : Int))).setCell ⟨g5, 3, none⟩ (.int .u64 (th : Int)) := ⟨_, rfl⟩
  rw [← ew]
  have HI16 : Hid (ItW w w2 w16 p gr g5 A' n' c' (itA1 bs).l (itA5 bs) #[.int .u16 0, .int .u16 0, .int .u64 0, .int .u64 0, .bool false, .int .u32 0, .int .i64 0, .int .i64 0, .slice none 0 0] #[.int .u16 (st : Int), .int .u16 (ec : Int), .int .u64 (ak : Int), .int .u64 (th : Int), .bool false, .int .u32 0, .int .i64 0, .int .i64 0, .slice none 0 0]) := Lib.hid (HI15.out.set HQ.out HF2.out rfl (by rw [ew]; exact (Keeps.set (fun j => j = g5) w15 ⟨g5, 2, none⟩ _ rfl).trans (Keeps.set (fun j => j = g5) _ ⟨g5, 3, none⟩ _ rfl)) (by rw [ew]; exact (heap_set (heap_set HI15.out.h 2 _) 3 _).trans rfl))
  clear f2 f3 c2 c3 ew HI15
  obtain ⟨B5, eB5⟩ : ∃ B, nxB (itA5 bs) = B := ⟨_, rfl⟩
  have HB5 := Lib.hid eB5
  go_wp2_with (fail)
  refine (next_c p A' n' c' (itA5 bs) false w16 HI16.out.f (by rw [itA5_at]; decide)).mono ?_
  rintro _ w17 ⟨⟨dk, dc, dl, dA, dn, dcc, dAs, dns, dcs⟩, rfl, ho, hf, hk⟩
  unfold ItV.val
  dsimp only
  rw [eB5]
  clear eB5
  obtain ⟨hli, -, hsub, hsl⟩ := ho.parts
  dsimp only at hli hsub hsl
  have HI17 : Hid (ItW w w2 w17 p gr g5 A' n' c' (itA1 bs).l (itA6 bs) #[.int .u16 0, .int .u16 0, .int .u64 0, .int .u64 0, .bool false, .int .u32 0, .int .i64 0, .int .i64 0, .slice none 0 0] #[.int .u16 (st : Int), .int .u16 (ec : Int), .int .u64 (ak : Int), .int .u64 (th : Int), .bool false, .int .u32 0, .int .i64 0, .int .i64 0, .slice none 0 0]) := Lib.hid (HI16.out.call HQ.out hf rfl hk)
  obtain ⟨g8, eg8⟩ : ∃ gx, gx = w17.heap.size := ⟨_, rfl⟩
  obtain ⟨w18, ew18⟩ : ∃ w9, w9 = w17.alloc (.cells #[.int .i64 dk, .bool dc, .bool dl, .slice dA dn dcc, .slice dAs dns dcs] 76) := ⟨_, rfl⟩
  have b18 : Below w17.heap.size w17 w18 := by rw [ew18]; exact (Below.refl _ _).alloc (Nat.le_refl _) _
  have hx18 : w18.heap[g8]? = some (.cells (ItV.cells ⟨dk, dc, dl, dA, dn, dcc, dAs, dns, dcs⟩).toArray 76 (0, 0)) := by rw [ew18, eg8]; exact heap_alloc_new _ _
  have HI18 := Lib.hid (HI17.out.below b18)
  have HSUB := Lib.hid (hsub.frame (w' := w18) (fun j _ hj => b18.block j hj))
  have HX18 := Lib.hid hx18
  have HG8 : Hid (g5 < g8) := Lib.hid (by rw [eg8]; exact heap_lt HI17.out.h)
  have HZ16 : Hid (g5 < w16.heap.size) := Lib.hid (heap_lt HI16.out.h)
  have EW18 := Lib.hid ew18
  have EG8 := Lib.hid eg8
  have HSZL : Hid ((itA5 bs).l.size ≤ 100000) := Lib.hid HI16.out.f.sz
  have HLI := Lib.hid hli
  have HSL := Lib.hid hsl
  clear ho hf hk hsub b18 hx18 ew18 eg8 hli hsl HI16 HI17
  cases B5 with
  | false =>
    have EE : Hid (E = (itA6 bs).err) := Lib.hid (by rw [← HE.out, itmE, if_neg (by rw [HB5.out]; simp)])
    have ED : Hid (D = ⟨st, ec, ak, th, false, ⟨0, 0, 0, []⟩⟩) := Lib.hid (by rw [← HDD.out, itmD, if_neg (by rw [HB5.out]; simp), HST.out, HEC.out, HAK.out, HTH.out])
    go_upto_region 12 with (fail)
    rw [← EW18.out]
    obtain ⟨wz, ewz, hgz, hkz⟩ := setD9_end HI18.out.g (.int .u16 (st : Int)) (.int .u16 (ec : Int)) (.int .u64 (ak : Int)) (.int .u64 (th : Int)) (.bool false) (.int .u32 0) (.int .i64 0) (.int .i64 0) (.slice none 0 0)
    have HGz := Lib.hid hgz
    have HKz := Lib.hid hkz
    have HBz := Lib.hid (keepsP_b HI18.out.b HKz.out (Nat.le_of_eq EGR.out.symm) (Nat.le_refl _))
    obtain ⟨⟨z0, z1, z2, z3, z4, z5, z6, z7, z8⟩, q0, q1, q2, q3, q4, q5, q6, q7, q8⟩ := nineD_at HI18.out.g
    obtain ⟨⟨y0, y1, y2, y3, y4, y5, y6, y7, y8⟩, -⟩ := nineD_at HI18.out.h
    have m2 := (three_of HI18.out.f.blk).1.2.2
    obtain ⟨ne1, ne2, ne3, ne4⟩ : gr ≠ g5 ∧ g5 ≠ gr ∧ gr ≠ p ∧ p ≠ gr := by have := HQ.out.h1; have := HQ.out.h2; have := HQ.out.h4; omega
    have EWZ := Lib.hid ewz
    clear ewz hgz hkz
    go_region
    rw [← EWZ.out]
    go_wp2_with (fail)
    refine bodyPost_ret (v := .tuple #[.agg #[.int .u16 (st : Int), .int .u16 (ec : Int), .int .u64 (ak : Int), .int .u64 (th : Int), .bool false, .int .u32 0, .int .i64 0, .int .i64 0, .slice none 0 0], .int .i64 ((itA6 bs).err : Int)]) (items_results _ gr 29 _ (0, 0) ((itA6 bs).err : Int) rfl rfl _ HGz.out info_dat) rfl ?_
    rw [EE.out]
    refine ⟨_, rfl, ⟨rfl, nine_one _ _ _ _ _ _ _ _ _ _ _, fun _ => ⟨none, 0, 0, ?_, ?_⟩⟩, HBz.out⟩
    · rw [ED.out]; rfl
    · rw [ED.out]; exact TxtO.nil_ _ _
  | true =>
    obtain ⟨I5, eI5⟩ : ∃ I, itI5 bs = I := ⟨_, rfl⟩
    rw [show nxI (itA5 bs) = I5 from eI5] at HLI HSUB HSL
    have HI5 := Lib.hid eI5
    clear eI5
    obtain ⟨⟨x0, x1, x2, x3, x4⟩, -⟩ := five_of HX18.out
    dsimp only at x0 x1 x2 x3 x4
    go_upto_region 13 with (fail)
    rw [← EW18.out, ← EG8.out]
    go_wp2_with (fail)
    refine (bad_c p A' n' c' (itA6 bs) (!dl) w18 HI18.out.f).mono ?_
    rintro _ w19 ⟨rfl, hf, hk, -⟩
    have h7 : badS (itA6 bs) (!dl) = itA7 bs := by unfold itA7; rw [HI5.out, HLI.out]
    rw [h7] at hf
    have HI19 := Lib.hid (HI18.out.call HQ.out hf (by rw [← h7, badS_l]) hk)
    have HX19 := Lib.hid ((hk.block g8 (heap_lt HX18.out) (by have := HG8.out; have := HQ.out.h3; have := HQ.out.h4; omega)).trans HX18.out)
    have HSUB19 := Lib.hid (HSUB.out.frame (w' := w19) (fun j hj hl => hk.block j hl (by have : w16.heap.size ≤ j := hj; have := HZ16.out; have := HQ.out.h3; have := HQ.out.h4; omega)))
    clear hf hk h7 x0 x1 x2 x3 x4 HI18 HX18 HSUB
    obtain ⟨e7, ee7⟩ : ∃ e, (itA7 bs).err = e := ⟨_, rfl⟩
    have HE7 := Lib.hid ee7
    clear ee7
    go_upto_region 14 with (fail)
    refine wp_region_rt 125 6 [Rl.eq (.pointer (some ⟨g8, 4, none⟩)), Rl.eq (.slice dAs dns dcs), Rl.eq (.pointer (some ⟨p, 0, none⟩)), Rl.eq (.pointer (some ⟨p, 0, none⟩)), Rl.eq (.pointer (some ⟨p, 2, none⟩)), Rl.eq (.int .i64 (e7 : Int))] [75, 76, 77, 78, 79, 80, 81, 10] (by kernel_rfl) rfl (by kernel_rfl) (by kernel_rfl) (by decide) (by kernel_rfl) (by kernel_rfl) ?_ ?_
    · simp only [List.take_succ_cons, List.take_zero]
      repeat (first | exact AllFrom.nil_ | (refine AllFrom.cons_ (by rfl) ?_ ?_; rotate_left))
      · intro f w' g hF hD
        have h8 : f 8 = .pointer (some ⟨g8, 0, none⟩) := hF 8 (by kernel_rfl)
        rw [if_pos (wanted_none rfl)]
        clear hF hD
        exact gives_val (by simp only [execOp, evF, h8]; first | rfl | go_simp) ⟨Gr.refl _, rfl⟩
      · intro f w' g hF hD
        have h75 : f 75 = (.pointer (some ⟨g8, 4, none⟩)) := hD 0 75 (by kernel_rfl) rfl
        rw [if_pos (wanted_none rfl)]
        clear hF hD
        have cl : w'.cell? ⟨g8, 4, none⟩ = some (.slice dAs dns dcs) := (g.cell (p := ⟨g8, 4, none⟩) (heap_lt HX19.out)).trans (five_of HX19.out).1.2.2.2.2
        exact gives_val (by simp only [execOp, evF, h75]; go_simp) ⟨Gr.refl _, rfl⟩
      · intro f w' g hF hD
        have h4 : f 4 = .pointer (some ⟨p, 0, none⟩) := hF 4 (by kernel_rfl)
        rw [if_pos (wanted_none rfl)]
        clear hF hD
        exact gives_val (by simp only [execOp, evF, h4]; first | rfl | go_simp) ⟨Gr.refl _, rfl⟩
      · intro f w' g hF hD
        have h77 : f 77 = (.pointer (some ⟨p, 0, none⟩)) := hD 2 77 (by kernel_rfl) rfl
        rw [if_pos (wanted_none rfl)]
        clear hF hD
        exact gives_val (by simp only [execOp, evF, h77]; first | rfl | go_simp) ⟨Gr.refl _, rfl⟩
      · intro f w' g hF hD
        have h78 : f 78 = (.pointer (some ⟨p, 0, none⟩)) := hD 3 78 (by kernel_rfl) rfl
        rw [if_pos (wanted_none rfl)]
        clear hF hD
        exact gives_val (by simp only [execOp, evF, h78]; first | rfl | go_simp) ⟨Gr.refl _, rfl⟩
      · intro f w' g hF hD
        have h79 : f 79 = (.pointer (some ⟨p, 2, none⟩)) := hD 4 79 (by kernel_rfl) rfl
        rw [if_pos (wanted_none rfl)]
        clear hF hD
        have cl : w'.cell? ⟨p, 2, none⟩ = some (.int .i64 (e7 : Int)) := by rw [← HE7.out]; exact (g.cell (p := ⟨p, 2, none⟩) (heap_lt HI19.out.f.blk)).trans (three_of HI19.out.f.blk).1.2.2
        exact gives_val (by simp only [execOp, evF, h79]; go_simp) ⟨Gr.refl _, rfl⟩
    intro f' wz g hD
    have h76 : f' 76 = .slice dAs dns dcs := hD 1 76 (by decide) rfl
    have h80 : f' 80 = .int .i64 (e7 : Int) := hD 5 80 (by decide) rfl
    simp only [List.drop_succ_cons, List.drop_zero, putAll, List.setIfInBounds_toArray, List.set_cons_zero, List.set_cons_succ, h76, h80]
    have kg : Below w19.heap.size w19 wz := (below_drewN (Below.refl _ _) 1).trans g
    have HIz := Lib.hid (HI19.out.below kg)
    obtain ⟨As', cs', eSl, -, -, hfo⟩ := (HSUB19.out.below kg).form (n := (itS I5).len) rfl
    injection eSl with e1 e2 e3
    subst e1 e2 e3
    have HFO := Lib.hid hfo
    clear h76 h80 hD g kg hfo HI19 HX19 HSUB19
    go_wp2_with (fail)
    refine (known_c (itS I5) _ dAs _ dcs 4 e7 wz rfl HFO.out (by rw [← HI5.out]; exact Nat.le_trans (nxI_size _) HSZL.out) (by decide)).mono ?_
    rintro _ w20 ⟨p2, A2, n2, c2, rfl, hp, hf, hb⟩
    have HI20 : Hid (ItW w w20 w20 p2 gr g5 A2 n2 c2 (ptP1 (itS I5) e7).l (ptP1 (itS I5) e7) #[.int .u16 0, .int .u16 0, .int .u64 0, .int .u64 0, .bool false, .int .u32 0, .int .i64 0, .int .i64 0, .slice none 0 0] #[.int .u16 (st : Int), .int .u16 (ec : Int), .int .u64 (ak : Int), .int .u64 (th : Int), .bool false, .int .u32 0, .int .i64 0, .int .i64 0, .slice none 0 0]) := Lib.hid (by
      have hh := HIz.out.below hb
      exact ⟨hf, rfl, Keeps.refl _ _, hh.g, hh.h, hh.b⟩)
    have HP2 : Hid (gr ≠ p2 ∧ g5 ≠ p2 ∧ w.heap.size ≤ p2) := Lib.hid (by have := heap_lt HIz.out.g; have := heap_lt HIz.out.h; have := HIz.out.b.size; omega)
    clear hp hf hb HIz
    obtain ⟨id, ex⟩ : ∃ x, nuN (ptP1 (itS I5) e7) = x := ⟨_, rfl⟩
    have HXid := Lib.hid ex
    clear ex
    go_wp2_with (fail)
    refine (number_c p2 A2 n2 c2 (ptP1 (itS I5) e7) true w20 HI20.out.f (by rw [ptP1_at]; decide)).mono ?_
    rintro _ w21 ⟨rfl, hf, hk⟩
    rw [HXid.out]
    have HI21 : Hid (ItW w w20 w21 p2 gr g5 A2 n2 c2 (ptP1 (itS I5) e7).l (ptP2 (itS I5) e7) #[.int .u16 0, .int .u16 0, .int .u64 0, .int .u64 0, .bool false, .int .u32 0, .int .i64 0, .int .i64 0, .slice none 0 0] #[.int .u16 (st : Int), .int .u16 (ec : Int), .int .u64 (ak : Int), .int .u64 (th : Int), .bool false, .int .u32 0, .int .i64 0, .int .i64 0, .slice none 0 0]) := Lib.hid (HI20.out.call' HP2.out.1 HP2.out.2.1 HP2.out.2.2 hf (nuS_l _ _) hk)
    clear hf hk HI20
    obtain ⟨ix, ex⟩ : ∃ x, nuN (ptP2 (itS I5) e7) = x := ⟨_, rfl⟩
    have HXix := Lib.hid ex
    clear ex
    go_wp2_with (fail)
    refine (number_c p2 A2 n2 c2 (ptP2 (itS I5) e7) true w21 HI21.out.f (by rw [ptP2_at]; decide)).mono ?_
    rintro _ w22 ⟨rfl, hf, hk⟩
    rw [HXix.out]
    have HI22 : Hid (ItW w w20 w22 p2 gr g5 A2 n2 c2 (ptP1 (itS I5) e7).l (ptP3 (itS I5) e7) #[.int .u16 0, .int .u16 0, .int .u64 0, .int .u64 0, .bool false, .int .u32 0, .int .i64 0, .int .i64 0, .slice none 0 0] #[.int .u16 (st : Int), .int .u16 (ec : Int), .int .u64 (ak : Int), .int .u64 (th : Int), .bool false, .int .u32 0, .int .i64 0, .int .i64 0, .slice none 0 0]) := Lib.hid (HI21.out.call' HP2.out.1 HP2.out.2.1 HP2.out.2.2 hf (nuS_l _ _) hk)
    clear hf hk HI21
    obtain ⟨ct, ex⟩ : ∃ x, nuN (ptP3 (itS I5) e7) = x := ⟨_, rfl⟩
    have HXct := Lib.hid ex
    clear ex
    go_wp2_with (fail)
    refine (number_c p2 A2 n2 c2 (ptP3 (itS I5) e7) true w22 HI22.out.f (by rw [ptP3_at]; decide)).mono ?_
    rintro _ w23 ⟨rfl, hf, hk⟩
    rw [HXct.out]
    have HI23 : Hid (ItW w w20 w23 p2 gr g5 A2 n2 c2 (ptP1 (itS I5) e7).l (ptP4 (itS I5) e7) #[.int .u16 0, .int .u16 0, .int .u64 0, .int .u64 0, .bool false, .int .u32 0, .int .i64 0, .int .i64 0, .slice none 0 0] #[.int .u16 (st : Int), .int .u16 (ec : Int), .int .u64 (ak : Int), .int .u64 (th : Int), .bool false, .int .u32 0, .int .i64 0, .int .i64 0, .slice none 0 0]) := Lib.hid (HI22.out.call' HP2.out.1 HP2.out.2.1 HP2.out.2.2 hf (nuS_l _ _) hk)
    clear hf hk HI22
    obtain ⟨Y, eY⟩ : ∃ y, ptY (itS I5) e7 = y := ⟨_, rfl⟩
    have HY := Lib.hid eY
    go_wp2_with (fail)
    refine (next_c p2 A2 n2 c2 (ptP4 (itS I5) e7) true w23 HI23.out.f (by rw [ptP4_at]; decide)).mono ?_
    clear HLI HSL HFO HG8 HZ16 EW18 EG8
    rintro _ w24 ⟨⟨yk, yc, yl, yA, yn, ycc, yAs, yns, ycs⟩, rfl, ho, hf, hk⟩
    unfold ItV.val
    dsimp only
    rw [show nxI (ptP4 (itS I5) e7) = Y from eY] at ho
    obtain ⟨B9, eB9⟩ : ∃ B, nxB (ptP4 (itS I5) e7) = B := ⟨_, rfl⟩
    rw [eB9]
    obtain ⟨hli, ht, -, -⟩ := ho.parts
    dsimp only at hli ht
    have HI24 : Hid (ItW w w20 w24 p2 gr g5 A2 n2 c2 (ptP1 (itS I5) e7).l (nxS (ptP4 (itS I5) e7) true) #[.int .u16 0, .int .u16 0, .int .u64 0, .int .u64 0, .bool false, .int .u32 0, .int .i64 0, .int .i64 0, .slice none 0 0] #[.int .u16 (st : Int), .int .u16 (ec : Int), .int .u64 (ak : Int), .int .u64 (th : Int), .bool false, .int .u32 0, .int .i64 0, .int .i64 0, .slice none 0 0]) := Lib.hid (HI23.out.call' HP2.out.1 HP2.out.2.1 HP2.out.2.2 hf rfl hk)
    obtain ⟨gy, egy⟩ : ∃ gx, gx = w24.heap.size := ⟨_, rfl⟩
    obtain ⟨w25, ew25⟩ : ∃ w9, w9 = w24.alloc (.cells #[.int .i64 yk, .bool yc, .bool yl, .slice yA yn ycc, .slice yAs yns ycs] 76) := ⟨_, rfl⟩
    have b25 : Below w24.heap.size w24 w25 := by rw [ew25]; exact (Below.refl _ _).alloc (Nat.le_refl _) _
    have hx25 : w25.heap[gy]? = some (.cells (ItV.cells ⟨yk, yc, yl, yA, yn, ycc, yAs, yns, ycs⟩).toArray 76 (0, 0)) := by rw [ew25, egy]; exact heap_alloc_new _ _
    have HI25 := Lib.hid (HI24.out.below b25)
    have HT25 := Lib.hid (ht.frame (w' := w25) (fun j _ hj => b25.block j hj))
    have HX25 := Lib.hid hx25
    have HGY : Hid (g5 < gy ∧ gr < gy ∧ p2 < gy) := Lib.hid (by have := heap_lt HI24.out.h; have := heap_lt HI24.out.g; have := HI24.out.f.lt; omega)
    have HW23 : Hid (w.heap.size ≤ w23.heap.size) := Lib.hid HI23.out.b.size
    have HZ23 : Hid (g5 < w23.heap.size ∧ gr < w23.heap.size ∧ p2 < w23.heap.size) := Lib.hid ⟨heap_lt HI23.out.h, heap_lt HI23.out.g, HI23.out.f.lt⟩
    have EW25 := Lib.hid ew25
    have EGY := Lib.hid egy
    have HLI := Lib.hid hli
    clear ho hf hk ht b25 hx25 ew25 egy hli eY eB9 HI23 HI24
    go_upto_region 18 with (fail)
    rw [← EW25.out, ← EGY.out]
    obtain ⟨⟨x0, x1, x2, x3, x4⟩, -⟩ := five_of HX25.out
    dsimp only at x0 x1 x2 x3 x4
    obtain ⟨t1, et1⟩ : ∃ b, decide (4294967295 < id) = b := ⟨_, rfl⟩
    obtain ⟨t2, et2⟩ : ∃ b, decide (128 ≤ ix) = b := ⟨_, rfl⟩
    obtain ⟨t3, et3⟩ : ∃ b, decide (128 < ct) = b := ⟨_, rfl⟩
    have HT1 : Hid (decide ((4294967295 : Int) < (id : Int)) = t1) := Lib.hid (by rw [← et1]; exact decide_eq_decide.2 (by omega))
    have d2 : decide ((128 : Int) ≤ (ix : Int)) = t2 := by rw [← et2]; exact decide_eq_decide.2 (by omega)
    have d3 : decide ((128 : Int) < (ct : Int)) = t3 := by rw [← et3]; exact decide_eq_decide.2 (by omega)
    have HBAD : Hid (ptBad Y id ix ct = (yl || (t1 || (t2 || t3)))) := Lib.hid (by unfold ptBad; rw [et1, et2, et3, HLI.out])
    have E1 := Lib.hid et1
    have E2 := Lib.hid et2
    have E3 := Lib.hid et3
    clear et1 et2 et3
    go_cut [] (fun wx => Hid (ItW w w20 wx p2 gr g5 A2 n2 c2 (ptP1 (itS I5) e7).l (ptP5 (itS I5) e7) #[.int .u16 0, .int .u16 0, .int .u64 0, .int .u64 0, .bool false, .int .u32 0, .int .i64 0, .int .i64 0, .slice none 0 0] #[.int .u16 (st : Int), .int .u16 (ec : Int), .int .u64 (ak : Int), .int .u64 (th : Int), .bool false, .int .u32 0, .int .i64 0, .int .i64 0, .slice none 0 0]) ∧ Hid (wx.heap[gy]? = some (.cells (ItV.cells ⟨yk, yc, yl, yA, yn, ycc, yAs, yns, ycs⟩).toArray 76 (0, 0))) ∧ Hid (TxtO (w23.heap.size ≤ ·) wx yA yn ycc (itB Y)))
    case first =>
      have fin : ∀ X : Bool, X = (yl || (t1 || (t2 || t3))) → Calls Try.prog 51 #[.pointer (some ⟨p2, 0, none⟩), .bool X] w25 fun r w' => r = .returned (.tuple #[]) ∧ (Hid (ItW w w20 w' p2 gr g5 A2 n2 c2 (ptP1 (itS I5) e7).l (ptP5 (itS I5) e7) #[.int .u16 0, .int .u16 0, .int .u64 0, .int .u64 0, .bool false, .int .u32 0, .int .i64 0, .int .i64 0, .slice none 0 0] #[.int .u16 (st : Int), .int .u16 (ec : Int), .int .u64 (ak : Int), .int .u64 (th : Int), .bool false, .int .u32 0, .int .i64 0, .int .i64 0, .slice none 0 0]) ∧ Hid (w'.heap[gy]? = some (.cells (ItV.cells ⟨yk, yc, yl, yA, yn, ycc, yAs, yns, ycs⟩).toArray 76 (0, 0))) ∧ Hid (TxtO (w23.heap.size ≤ ·) w' yA yn ycc (itB Y))) := by
        intro X hX
        refine (bad_c p2 A2 n2 c2 (nxS (ptP4 (itS I5) e7) true) X w25 HI25.out.f).mono ?_
        rintro e w' ⟨he, hf, hk, -⟩
        have h1 := HGY.out; have h2 := HZ23.out
        have e5 : badS (nxS (ptP4 (itS I5) e7) true) X = ptP5 (itS I5) e7 := by unfold ptP5; rw [HXid.out, HXix.out, HXct.out, HY.out, HBAD.out, hX]
        rw [e5] at hf
        exact ⟨he, Lib.hid (HI25.out.call' HP2.out.1 HP2.out.2.1 HP2.out.2.2 hf (by rw [← e5, badS_l]) hk), Lib.hid ((hk.block gy (heap_lt HX25.out) (by omega)).trans HX25.out), Lib.hid (HT25.out.frame (fun j hj hl => hk.block j hl (by have : w23.heap.size ≤ j := hj; omega)))⟩
      have FIN := Lib.hid fin
      clear fin
      cases yl with
      | true =>
        go_wp2_with (fail)
        refine (FIN.out true rfl).mono ?_
        rintro _ w' ⟨rfl, h1, h2, h3⟩
        clear x0 x1 x2 x3 x4 d2 d3
        go_wp2_with (fail)
        go_meet
        exact ⟨h1, h2, h3⟩
      | false =>
        cases t1 with
        | true =>
          go_wp2_with (first | ((with_reducible refine wpList_open (o := ⟨some 98, _, _, _, _, _⟩) rfl ?_); refine wpList_gtr _ rfl (.tmp 97) (.const (.int .u64 4294967295)) _ _ rfl .u64 (id : Int) 4294967295 rfl rfl (by rfl) _ HT1.out ?_))
          refine (FIN.out true rfl).mono ?_
          rintro _ w' ⟨rfl, h1, h2, h3⟩
          clear x0 x1 x2 x3 x4 d2 d3
          go_wp2_with (fail)
          go_meet
          exact ⟨h1, h2, h3⟩
        | false =>
          cases t2 with
          | true =>
            go_wp2_with (first | ((with_reducible refine wpList_open (o := ⟨some 98, _, _, _, _, _⟩) rfl ?_); refine wpList_gtr _ rfl (.tmp 97) (.const (.int .u64 4294967295)) _ _ rfl .u64 (id : Int) 4294967295 rfl rfl (by rfl) _ HT1.out ?_))
            refine (FIN.out true rfl).mono ?_
            rintro _ w' ⟨rfl, h1, h2, h3⟩
            clear x0 x1 x2 x3 x4 d2 d3
            go_wp2_with (fail)
            go_meet
            exact ⟨h1, h2, h3⟩
          | false =>
            go_wp2_with (first | ((with_reducible refine wpList_open (o := ⟨some 98, _, _, _, _, _⟩) rfl ?_); refine wpList_gtr _ rfl (.tmp 97) (.const (.int .u64 4294967295)) _ _ rfl .u64 (id : Int) 4294967295 rfl rfl (by rfl) _ HT1.out ?_))
            refine (FIN.out t3 rfl).mono ?_
            rintro _ w' ⟨rfl, h1, h2, h3⟩
            clear x0 x1 x2 x3 x4 d2 d3
            go_wp2_with (fail)
            go_meet
            exact ⟨h1, h2, h3⟩
    case rest =>
    clear x0 x1 x2 x3 x4 d2 d3 HI25 HX25 HT25
    obtain ⟨w26, ew26⟩ : ∃ x, x = wc := ⟨_, rfl⟩
    rw [← ew26] at hcut ⊢
    clear ew26
    obtain ⟨HI26, HX26, HT26⟩ := hcut
    obtain ⟨zi, ezi⟩ : ∃ z, IntKind.u32.wrap (id : Int) = z := ⟨_, rfl⟩
    obtain ⟨zx, ezx⟩ : ∃ z, IntKind.i64.wrap (ix : Int) = z := ⟨_, rfl⟩
    obtain ⟨zc, ezc⟩ : ∃ z, IntKind.i64.wrap (ct : Int) = z := ⟨_, rfl⟩
    have EZI := Lib.hid ezi
    have EZX := Lib.hid ezx
    have EZC := Lib.hid ezc
    have x3 : w26.cell? ⟨gy, 3, none⟩ = some (.slice yA yn ycc) := (five_of HX26.out).1.2.2.2.1
    have f4 : w26.frozen? ⟨g5, 4, none⟩ = false := heap_free HI26.out.h 4
    have f5 : w26.frozen? ⟨g5, 5, none⟩ = false := heap_free HI26.out.h 5
    have f6 : w26.frozen? ⟨g5, 6, none⟩ = false := heap_free HI26.out.h 6
    have f7 : w26.frozen? ⟨g5, 7, none⟩ = false := heap_free HI26.out.h 7
    have f8 : w26.frozen? ⟨g5, 8, none⟩ = false := heap_free HI26.out.h 8
    have c4 : w26.cell? ⟨g5, 4, none⟩ = some (.bool false) := (heap_cell HI26.out.h 4).trans rfl
    have c5 : w26.cell? ⟨g5, 5, none⟩ = some (.int .u32 0) := (heap_cell HI26.out.h 5).trans rfl
    have c6 : w26.cell? ⟨g5, 6, none⟩ = some (.int .i64 0) := (heap_cell HI26.out.h 6).trans rfl
    have c7 : w26.cell? ⟨g5, 7, none⟩ = some (.int .i64 0) := (heap_cell HI26.out.h 7).trans rfl
    have c8 : w26.cell? ⟨g5, 8, none⟩ = some (.slice none 0 0) := (heap_cell HI26.out.h 8).trans rfl
    have hne : g5 ≠ gy := by have := HGY.out; omega
    have hne2 : gy ≠ g5 := by have := HGY.out; omega
    obtain ⟨w27, ew27⟩ : ∃ wz, wz = (((((w26.setCell ⟨g5, 4, none⟩ (.bool true)).setCell ⟨g5, 5, none⟩ (.int .u32 zi)).setCell ⟨g5, 6, none⟩ (.int .i64 zx)).setCell ⟨g5, 7, none⟩ (.int .i64 zc)).setCell ⟨g5, 8, none⟩ (.slice yA yn ycc)).drew := ⟨_, rfl⟩
    have hk27 : Keeps (fun j => j = g5) w26 w27 := by
      rw [ew27]
      exact (((((Keeps.set (fun j => j = g5) w26 ⟨g5, 4, none⟩ _ rfl).trans (Keeps.set (fun j => j = g5) _ ⟨g5, 5, none⟩ _ rfl)).trans (Keeps.set (fun j => j = g5) _ ⟨g5, 6, none⟩ _ rfl)).trans (Keeps.set (fun j => j = g5) _ ⟨g5, 7, none⟩ _ rfl)).trans (Keeps.set (fun j => j = g5) _ ⟨g5, 8, none⟩ _ rfl)).drew1
    have hh27 : w27.heap[g5]? = some (.cells #[.int .u16 (st : Int), .int .u16 (ec : Int), .int .u64 (ak : Int), .int .u64 (th : Int), .bool true, .int .u32 zi, .int .i64 zx, .int .i64 zc, .slice yA yn ycc] 29 (0, 0)) := by
      rw [ew27]
      have h0 := heap_set HI26.out.h 4 (.bool true)
      simp only [List.setIfInBounds_toArray, List.set_cons_zero, List.set_cons_succ] at h0
      have h1 := heap_set h0 5 (.int .u32 zi)
      simp only [List.setIfInBounds_toArray, List.set_cons_zero, List.set_cons_succ] at h1
      have h2 := heap_set h1 6 (.int .i64 zx)
      simp only [List.setIfInBounds_toArray, List.set_cons_zero, List.set_cons_succ] at h2
      have h3 := heap_set h2 7 (.int .i64 zc)
      simp only [List.setIfInBounds_toArray, List.set_cons_zero, List.set_cons_succ] at h3
      have h4 := heap_set h3 8 (.slice yA yn ycc)
      simp only [List.setIfInBounds_toArray, List.set_cons_zero, List.set_cons_succ] at h4
      exact heap_drew1 h4
    have HG27 := Lib.hid ((hk27.block gr (heap_lt HI26.out.g) (by have := HQ.out.h2; have := HQ.out.h4; omega)).trans HI26.out.g)
    have HP27 := Lib.hid ((hk27.block p2 HI26.out.f.lt (Ne.symm HP2.out.2.1)).trans HI26.out.f.blk)
    have HB27 := Lib.hid (keepsP_b HI26.out.b hk27 (by have := HQ.out.h2; have := HQ.out.h4; have := HQ.out.h5; omega) (Nat.le_refl _))
    have HT27 := Lib.hid (HT26.out.frame (w' := w27) (fun j hj hl => hk27.block j hl (by have : w23.heap.size ≤ j := hj; have := HZ23.out; omega)))
    have HH27 := Lib.hid hh27
    have EW27 := Lib.hid ew27
    clear ew27 hk27 hh27
    go_upto_region 19 with (fail)
    go_region
    rw [← EW27.out]
    clear x3 f4 f5 f6 f7 f8 c4 c5 c6 c7 c8 hne hne2 ezi ezx ezc HI26 HX26 HT26
    obtain ⟨e9, ee9⟩ : ∃ e, (ptP5 (itS I5) e7).err = e := ⟨_, rfl⟩
    have HE9 := Lib.hid ee9
    rw [ee9] at HP27
    clear ee9
    go_upto_region 20 with (fail)
    obtain ⟨wz, ewz, hgz, hkz⟩ := setD9_end HG27.out (.int .u16 (st : Int)) (.int .u16 (ec : Int)) (.int .u64 (ak : Int)) (.int .u64 (th : Int)) (.bool true) (.int .u32 zi) (.int .i64 zx) (.int .i64 zc) (.slice yA yn ycc)
    have HGz := Lib.hid hgz
    have HKz := Lib.hid hkz
    have HBz := Lib.hid (keepsP_b HB27.out HKz.out (Nat.le_of_eq EGR.out.symm) (Nat.le_refl _))
    obtain ⟨⟨z0, z1, z2, z3, z4, z5, z6, z7, z8⟩, q0, q1, q2, q3, q4, q5, q6, q7, q8⟩ := nineD_at HG27.out
    obtain ⟨⟨y0, y1, y2, y3, y4, y5, y6, y7, y8⟩, -⟩ := nineD_at HH27.out
    have m2 := (three_of HP27.out).1.2.2
    obtain ⟨ne1, ne2, ne3, ne4⟩ : gr ≠ g5 ∧ g5 ≠ gr ∧ gr ≠ p2 ∧ p2 ≠ gr := by have := HQ.out.h2; have := HQ.out.h4; have := HP2.out; omega
    have EWZ := Lib.hid ewz
    clear ewz hgz hkz
    go_region
    rw [← EWZ.out]
    go_wp2_with (fail)
    refine bodyPost_ret (v := .tuple #[.agg #[.int .u16 (st : Int), .int .u16 (ec : Int), .int .u64 (ak : Int), .int .u64 (th : Int), .bool true, .int .u32 zi, .int .i64 zx, .int .i64 zc, .slice yA yn ycc], .int .i64 (e9 : Int)]) (items_results _ gr 29 _ (0, 0) (e9 : Int) rfl rfl _ HGz.out info_dat) rfl ?_
    have EE : Hid (E = e9) := Lib.hid (by rw [← HE.out, itmE, if_pos HB5.out, HI5.out, HE7.out, HE9.out])
    rw [EE.out]
    refine ⟨_, rfl, ⟨rfl, nine_one _ _ _ _ _ _ _ _ _ _ _, fun h0 => ⟨yA, yn, ycc, ?_, ?_⟩⟩, HBz.out⟩
    · obtain ⟨q1, q2, q3⟩ := pt_fit (HE9.out.trans h0)
      rw [HXid.out] at q1
      rw [HXix.out] at q2
      rw [HXct.out] at q3
      have z1 : zi = (id : Int) := EZI.out.symm.trans (u32_u64w (by omega))
      have z2 : zx = (ix : Int) := EZX.out.symm.trans (i64w' (by omega))
      have z3 : zc = (ct : Int) := EZC.out.symm.trans (i64w' (by omega))
      rw [← HDD.out, itmD, if_pos HB5.out, HST.out, HEC.out, HAK.out, HTH.out, HI5.out, HE7.out, z1, z2, z3]
      unfold ptD datC
      rw [HXid.out, HXix.out, HXct.out]
    · have eb : D.p.bs = itB Y := by rw [← HDD.out, itmD, if_pos HB5.out, HI5.out, HE7.out]; unfold ptD; rw [HY.out]
      rw [eb]
      refine (HT27.out.frame (w' := wz) (fun j hj hl => HKz.out.block j hl (by have : w23.heap.size ≤ j := hj; have := HZ23.out; omega))).weak (fun j hj _ => ?_)
      have h1 : w23.heap.size ≤ j := hj
      have h2 := HW23.out
      show w.heap.size ≤ j
      omega
end Go.Proofs.Ytcffinkkfdfcaaa
