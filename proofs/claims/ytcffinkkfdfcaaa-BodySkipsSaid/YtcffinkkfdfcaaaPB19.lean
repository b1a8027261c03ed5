/- Parts one behind the other: What the first version's bytes say: body.getFirst. Conditions: as told at each. -/
import Derived.Test.YtcffinkkfdfcaaaPB18
import Derived.Test.YtcffinkkfdfcaaaPB15

set_option linter.unusedVariables false
set_option linter.unusedSimpArgs false
/- What the first version's bytes say: body.getFirst. Conditions: bytes that can be read. -/
namespace Go.Proofs.Ytcffinkkfdfcaaa
open Go Go.RowKit

theorem info_dat : (Try.prog.info? 29).map (·.size) = some 9 := by kernel_rfl
theorem zd_one : (#[.int .u16 0, .int .u16 0, .int .u64 0, .int .u64 0, .bool false, .int .u32 0, .int .i64 0, .int .i64 0, .slice none 0 0] : Array Value).all (·.oneCell') = true := by simp [Value.oneCell']
theorem nine_one (a b c d f g h : Int) (q : Bool) (A : Option Addr) (n m : Nat) : (#[.int .u16 a, .int .u16 b, .int .u64 c, .int .u64 d, .bool q, .int .u32 f, .int .i64 g, .int .i64 h, .slice A n m] : Array Value).all (·.oneCell') = true := by simp [Value.oneCell']
theorem first_results (tmps : Array Value) (g : Nat) (t : TypeId) (cs : Array Value) (fr : Nat × Nat) (y : Int) (h2 : tmps.getD 2 undef = .pointer (some ⟨g, 0, none⟩)) (h3 : tmps.getD 3 undef = .int .i64 y) (w : World) (hg : w.heap[g]? = some (.cells cs t fr)) (hi : (Try.prog.info? 29).map (·.size) = some cs.size) :
    (results Try.f54 tmps).run Try.prog w = .ok (.tuple #[.agg cs, .int .i64 y]) w := by
  have h2' : tmps[2]?.getD undef = .pointer (some ⟨g, 0, none⟩) := by simpa using h2
  have h3' : tmps[3]?.getD undef = .int .i64 y := by simpa using h3
  simp [results, Try.results54, h2', h3', asAddr, run_loadVar_row w g t 29 cs fr _ hg Try.underlying29 rfl hi]
theorem numR_gA (s : RS) (z : Int) : (numR s z).2.gA = s.gA := by
  unfold numR
  split
  · rfl
  · split
    · rfl
    · split <;> rfl
theorem Rdr.far {w w' : World} {r g : Nat} {s : RS} (h : Rdr w r s) (hk : Keeps (fun j => j = g) w w') (hr : r ≠ g) (hA : ∀ a, s.gA = some a → a.block ≠ g) : Rdr w' r s := by
  obtain ⟨A, c, h1, h2, ⟨h3, h4⟩, h5⟩ := h
  exact ⟨A, c, (hk.block r (heap_lt h1) hr).trans h1, h2.of_blocks (fun b hb ⟨off, e⟩ => hk.block b hb (hA _ (h3.symm.trans e))) hk.size, ⟨h3, h4⟩, h5⟩
theorem i64w' {n : Nat} (h : n < 256) : IntKind.i64.wrap (n : Int) = (n : Int) := by
  unfold IntKind.wrap
  simp [IntKind.bits, IntKind.signed]
  omega
theorem u16w' {n : Nat} (h : n < 65536) : IntKind.u16.wrap (n : Int) = (n : Int) := by
  unfold IntKind.wrap
  simp [IntKind.bits, IntKind.signed]
  omega
theorem takeR_rest (s : RS) (h : s.at_ ≤ s.b.length) : (takeR s ((s.b.length - s.at_ : Nat) : Int)).2.err = s.err ∧ (takeR s ((s.b.length - s.at_ : Nat) : Int)).2.gA = s.gA ∧ (s.err = 0 → (takeR s ((s.b.length - s.at_ : Nat) : Int)).1 = s.b.drop s.at_) := by
  unfold takeR
  split
  · exact ⟨rfl, rfl, fun e => absurd e (by assumption)⟩
  · rw [if_neg (by omega), if_neg (by omega)]
    refine ⟨rfl, rfl, fun _ => ?_⟩
    show (s.b.drop s.at_).take _ = _
    rw [List.take_of_length_le (by simp)]
set_option maxRecDepth 100000 in
set_option maxHeartbeats 4000000 in
theorem getFirst_c (bs : List UInt8) (A : Option Addr) (n c : Nat) (w : World) (hn : bs.length = n) (hr : Rd w A (bs.map bv)) (hl : n ≤ 140737488355328) :
    Calls Try.prog 54 #[.slice A n c] w fun r w' => ∃ cs, r = .returned (.tuple #[.agg cs, .int .i64 (firE bs : Int)]) ∧ DatE (w.heap.size ≤ ·) w' cs (firE bs) (firD bs) ∧ Below w.heap.size w w' := by
  have HN := Lib.hid hn
  have HLN := Lib.hid hl
  obtain ⟨w1, ew1⟩ : ∃ w1, w1 = w.alloc (.cells #[.int .u16 0, .int .u16 0, .int .u64 0, .int .u64 0, .bool false, .int .u32 0, .int .i64 0, .int .i64 0, .slice none 0 0] 29) := ⟨_, rfl⟩
  obtain ⟨gr, egr⟩ : ∃ gr, gr = w.heap.size := ⟨_, rfl⟩
  have b1 : Below w.heap.size w w1 := by rw [ew1]; exact (Below.refl _ _).alloc (Nat.le_refl _) _
  have HG1 : Hid (w1.heap[gr]? = some (.cells #[.int .u16 0, .int .u16 0, .int .u64 0, .int .u64 0, .bool false, .int .u32 0, .int .i64 0, .int .i64 0, .slice none 0 0] 29 (0, 0))) := Lib.hid (by rw [ew1, egr]; exact heap_alloc_new _ _)
  have HR1 := Lib.hid (hr.below b1)
  have HB1 := Lib.hid b1
  have EW1 := Lib.hid ew1
  have EGR := Lib.hid egr
  obtain ⟨E, eE⟩ : ∃ E, firE bs = E := ⟨_, rfl⟩
  obtain ⟨D, eD⟩ : ∃ D, firD bs = D := ⟨_, rfl⟩
  rw [eE, eD]
  have HE := Lib.hid eE
  have HDD := Lib.hid eD
  clear ew1 egr b1 hn hr hl eE eD
  go_enter Try.func54, Try.ntmps54
  go_upto_region 1 with (fail)
  rw [← EW1.out, ← EGR.out]
  go_wp2_with (fail)
  refine (Rnew_c A n c bs w1 HN.out HR1.out HLN.out).mono ?_
  rintro _ w2 ⟨r, A', rfl, hr, hrd, hb, hA⟩
  have HRD0 := Lib.hid hrd
  have HT0 : Hid (AtR bs ⟨bs, 0, 0, A'⟩ 0) := Lib.hid ⟨rfl, Nat.zero_le _, .inl ⟨rfl, rfl⟩⟩
  have HG2 := Lib.hid ((hb.block gr (heap_lt HG1.out)).trans HG1.out)
  have HP : Hid (w.heap.size ≤ r ∧ gr ≠ r ∧ gr < r) := Lib.hid (by have := heap_lt HG1.out; have := EGR.out; omega)
  have HB2 := Lib.hid (HB1.out.trans (hb.mono HB1.out.size))
  have HA0 : Hid (∀ a, A' = some a → gr < a.block ∧ a.block < w2.heap.size) := Lib.hid (fun a e => ⟨by have := heap_lt HG1.out; have := (hA a e).1; omega, (hA a e).2⟩)
  have HWZ : Hid (w2.heap.size ≤ w2.heap.size) := Lib.hid (Nat.le_refl _)
  clear hr hrd hb hA
  go_wp2_with (fail)
  refine (Rnum_c r ⟨bs, 0, 0, A'⟩ 2 w2 HRD0.out (by decide)).mono ?_
  rintro _ w3 ⟨rfl, hd, hg⟩
  obtain ⟨x1, ex⟩ : ∃ x, (numR ⟨bs, 0, 0, A'⟩ 2).1 = x := ⟨_, rfl⟩
  obtain ⟨S1, eS⟩ : ∃ s, (numR ⟨bs, 0, 0, A'⟩ 2).2 = s := ⟨_, rfl⟩
  have ht : AtR bs (numR ⟨bs, 0, 0, A'⟩ 2).2 (0 + 2) ∧ ((numR ⟨bs, 0, 0, A'⟩ 2).2.err = 0 → (numR ⟨bs, 0, 0, A'⟩ 2).1 = beN ((bs.drop 0).take 2)) := HT0.out.num 2 (by decide) (by decide)
  have hx : (numR ⟨bs, 0, 0, A'⟩ 2).1 < 256 ^ 2 := numR_lt ⟨bs, 0, 0, A'⟩ 2 (by decide)
  have hga := numR_gA ⟨bs, 0, 0, A'⟩ 2
  rw [ex, eS] at ht
  rw [ex] at hx ⊢
  rw [eS] at hd hga
  have HRD1 := Lib.hid hd
  have HT1 := Lib.hid ht.1
  have HX1 := Lib.hid ht.2
  have HGA1 := Lib.hid (show S1.gA = A' from hga)
  have hk : Keeps (fun j => j = r) w2 w3 := Keeps.of_grown hg _ (fun k e => (Option.some.inj e).symm)
  have HG3 := Lib.hid ((hk.block gr (heap_lt HG2.out) HP.out.2.1).trans HG2.out)
  have HB3 := Lib.hid (keepsP_b HB2.out hk HP.out.1 (Nat.le_refl _))
  have HX1b := Lib.hid hx
  have HWZ3 : Hid (w2.heap.size ≤ w3.heap.size) := Lib.hid (Nat.le_trans HWZ.out hk.size)
  have y1 : IntKind.u16.wrap (x1 : Int) = (x1 : Int) := u16w' hx
  clear hd ht hga hg HRD0 HG2 HB2 ex eS HWZ hk hx
  go_wp2_with (fail)
  refine (Rnum_c r S1 2 w3 HRD1.out (by decide)).mono ?_
  rintro _ w4 ⟨rfl, hd, hg⟩
  obtain ⟨x2, ex⟩ : ∃ x, (numR S1 2).1 = x := ⟨_, rfl⟩
  obtain ⟨S2, eS⟩ : ∃ s, (numR S1 2).2 = s := ⟨_, rfl⟩
  have ht : AtR bs (numR S1 2).2 (2 + 2) ∧ ((numR S1 2).2.err = 0 → (numR S1 2).1 = beN ((bs.drop 2).take 2)) := HT1.out.num 2 (by decide) (by decide)
  have hx : (numR S1 2).1 < 256 ^ 2 := numR_lt S1 2 (by decide)
  have hga := numR_gA S1 2
  rw [ex, eS] at ht
  rw [ex] at hx ⊢
  rw [eS] at hd hga
  have HRD2 := Lib.hid hd
  have HT2 := Lib.hid ht.1
  have HX2 := Lib.hid ht.2
  have HGA2 := Lib.hid (hga.trans HGA1.out)
  have hk : Keeps (fun j => j = r) w3 w4 := Keeps.of_grown hg _ (fun k e => (Option.some.inj e).symm)
  have HG4 := Lib.hid ((hk.block gr (heap_lt HG3.out) HP.out.2.1).trans HG3.out)
  have HB4 := Lib.hid (keepsP_b HB3.out hk HP.out.1 (Nat.le_refl _))
  have HX2b := Lib.hid hx
  have HWZ4 : Hid (w2.heap.size ≤ w4.heap.size) := Lib.hid (Nat.le_trans HWZ3.out hk.size)
  have y2 : IntKind.u16.wrap (x2 : Int) = (x2 : Int) := u16w' hx
  clear hd ht hga hg HRD1 HG3 HB3 ex eS HWZ3 hk hx
  go_wp2_with (fail)
  refine (Rnum_c r S2 8 w4 HRD2.out (by decide)).mono ?_
  rintro _ w5 ⟨rfl, hd, hg⟩
  obtain ⟨x3, ex⟩ : ∃ x, (numR S2 8).1 = x := ⟨_, rfl⟩
  obtain ⟨S3, eS⟩ : ∃ s, (numR S2 8).2 = s := ⟨_, rfl⟩
  have ht : AtR bs (numR S2 8).2 (4 + 8) ∧ ((numR S2 8).2.err = 0 → (numR S2 8).1 = beN ((bs.drop 4).take 8)) := HT2.out.num 8 (by decide) (by decide)
  have hx : (numR S2 8).1 < 256 ^ 8 := numR_lt S2 8 (by decide)
  have hga := numR_gA S2 8
  rw [ex, eS] at ht
  rw [ex] at hx ⊢
  rw [eS] at hd hga
  have HRD3 := Lib.hid hd
  have HT3 := Lib.hid ht.1
  have HX3 := Lib.hid ht.2
  have HGA3 := Lib.hid (hga.trans HGA2.out)
  have hk : Keeps (fun j => j = r) w4 w5 := Keeps.of_grown hg _ (fun k e => (Option.some.inj e).symm)
  have HG5 := Lib.hid ((hk.block gr (heap_lt HG4.out) HP.out.2.1).trans HG4.out)
  have HB5 := Lib.hid (keepsP_b HB4.out hk HP.out.1 (Nat.le_refl _))
  have HX3b := Lib.hid hx
  have HWZ5 : Hid (w2.heap.size ≤ w5.heap.size) := Lib.hid (Nat.le_trans HWZ4.out hk.size)
  clear hd ht hga hg HRD2 HG4 HB4 ex eS HWZ4 hk hx
  go_wp2_with (fail)
  refine (Rnum_c r S3 8 w5 HRD3.out (by decide)).mono ?_
  rintro _ w6 ⟨rfl, hd, hg⟩
  obtain ⟨x4, ex⟩ : ∃ x, (numR S3 8).1 = x := ⟨_, rfl⟩
  obtain ⟨S4, eS⟩ : ∃ s, (numR S3 8).2 = s := ⟨_, rfl⟩
  have ht : AtR bs (numR S3 8).2 (12 + 8) ∧ ((numR S3 8).2.err = 0 → (numR S3 8).1 = beN ((bs.drop 12).take 8)) := HT3.out.num 8 (by decide) (by decide)
  have hx : (numR S3 8).1 < 256 ^ 8 := numR_lt S3 8 (by decide)
  have hga := numR_gA S3 8
  rw [ex, eS] at ht
  rw [ex] at hx ⊢
  rw [eS] at hd hga
  have HRD4 := Lib.hid hd
  have HT4 := Lib.hid ht.1
  have HX4 := Lib.hid ht.2
  have HGA4 := Lib.hid (hga.trans HGA3.out)
  have hk : Keeps (fun j => j = r) w5 w6 := Keeps.of_grown hg _ (fun k e => (Option.some.inj e).symm)
  have HG6 := Lib.hid ((hk.block gr (heap_lt HG5.out) HP.out.2.1).trans HG5.out)
  have HB6 := Lib.hid (keepsP_b HB5.out hk HP.out.1 (Nat.le_refl _))
  have HX4b := Lib.hid hx
  have HWZ6 : Hid (w2.heap.size ≤ w6.heap.size) := Lib.hid (Nat.le_trans HWZ5.out hk.size)
  clear hd ht hga hg HRD3 HG5 HB5 ex eS HWZ5 hk hx
  obtain ⟨w7, ew⟩ : ∃ w', w' = (w6.alloc (.cells #[.int .u16 0, .int .u16 0, .int .u64 0, .int .u64 0, .bool false, .int .u32 0, .int .i64 0, .int .i64 0, .slice none 0 0] 29)).setRow w6.heap.size #[.int .u16 (x1 : Int), .int .u16 (x2 : Int), .int .u64 (x3 : Int), .int .u64 (x4 : Int), .bool false, .int .u32 0, .int .i64 0, .int .i64 0, .slice none 0 0] := ⟨_, rfl⟩
  obtain ⟨g5, eg⟩ : ∃ g, g = w6.heap.size := ⟨_, rfl⟩
  have b3 : Below w6.heap.size w6 w7 := by rw [ew]; exact below_setRow ((Below.refl _ _).alloc (Nat.le_refl _) _) (Nat.le_refl _) _
  have HH7 : Hid (w7.heap[g5]? = some (.cells #[.int .u16 (x1 : Int), .int .u16 (x2 : Int), .int .u64 (x3 : Int), .int .u64 (x4 : Int), .bool false, .int .u32 0, .int .i64 0, .int .i64 0, .slice none 0 0] 29 (0, 0))) := Lib.hid (by rw [ew, eg]; exact setRow_heap _ _ _ _ _ _ (heap_alloc_new w6 _))
  have EW7 := Lib.hid ew
  have EG5 := Lib.hid eg
  have HG7 := Lib.hid ((b3.block gr (heap_lt HG6.out)).trans HG6.out)
  have HB7 := Lib.hid (HB6.out.trans (b3.mono HB6.out.size))
  have HQ : Hid (r ≠ g5 ∧ gr ≠ g5 ∧ w.heap.size ≤ g5 ∧ ∀ a, A' = some a → a.block ≠ g5) := Lib.hid (by
    have h1 := heap_lt HG6.out; have h2 := HRD4.out.lt; have h3 := HB6.out.size; have h4 := HWZ6.out
    refine ⟨by omega, by omega, by omega, fun a e => by have := (HA0.out a e).2; omega⟩)
  have HRD4b := Lib.hid (HRD4.out.below b3)
  clear ew eg b3 HG6 HB6 HRD4 HWZ6
  have HRD4 := HRD4b
  clear HRD4b
  go_wp2_with (first | (refine wpList_store_row rfl 29 (.tmp 5) (.tmp 19) rfl w6.heap.size #[.int .u16 (x1 : Int), .int .u16 (x2 : Int), .int .u64 (x3 : Int), .int .u64 (x4 : Int), .bool false, .int .u32 0, .int .i64 0, .int .i64 0, .slice none 0 0] rfl rfl 29 _ (heap_alloc_new w6 _) info_dat rfl (nine_one _ _ _ _ _ _ _ _ _ _ _) ?_))
  rw [← EW7.out, ← EG5.out]
  clear y1 y2
  refine (Rnum_c r S4 1 w7 HRD4.out (by decide)).mono ?_
  rintro _ w8 ⟨rfl, hd, hg⟩
  obtain ⟨x5, ex⟩ : ∃ x, (numR S4 1).1 = x := ⟨_, rfl⟩
  obtain ⟨S5, eS⟩ : ∃ s, (numR S4 1).2 = s := ⟨_, rfl⟩
  have ht : AtR bs (numR S4 1).2 (20 + 1) ∧ ((numR S4 1).2.err = 0 → (numR S4 1).1 = beN ((bs.drop 20).take 1)) := HT4.out.num 1 (by decide) (by decide)
  have hx : (numR S4 1).1 < 256 ^ 1 := numR_lt S4 1 (by decide)
  have hga := numR_gA S4 1
  rw [ex, eS] at ht
  rw [ex] at hx ⊢
  rw [eS] at hd hga
  have HRD5 := Lib.hid hd
  have HT5 := Lib.hid ht.1
  have HX5 := Lib.hid ht.2
  have HGA5 := Lib.hid (hga.trans HGA4.out)
  have hk : Keeps (fun j => j = r) w7 w8 := Keeps.of_grown hg _ (fun k e => (Option.some.inj e).symm)
  have HG8 := Lib.hid ((hk.block gr (heap_lt HG7.out) HP.out.2.1).trans HG7.out)
  have HB8 := Lib.hid (keepsP_b HB7.out hk HP.out.1 (Nat.le_refl _))
  have HX5b := Lib.hid hx
  have HH8 := Lib.hid ((hk.block g5 (heap_lt HH7.out) (Ne.symm HQ.out.1)).trans HH7.out)
  clear hd ht hga hg HRD4 HG7 HB7 ex eS HH7 hk hx
  obtain ⟨e5, ee5⟩ : ∃ e, S5.err = e := ⟨_, rfl⟩
  have HE5 := Lib.hid ee5
  have HE5v : Hid (e5 = if bs.length < 21 then 2 else 0) := Lib.hid (ee5.symm.trans HT5.out.err)
  clear ee5
  by_cases h21 : bs.length < 21
  · have hv : e5 = 2 := HE5v.out.trans (if_pos h21)
    have d0 : ((e5 : Int) != 0) = true := by rw [hv]; rfl
    have EE : Hid (E = e5 ∧ E ≠ 0) := Lib.hid (by rw [hv, ← HE.out, firE, if_pos h21]; exact ⟨rfl, by decide⟩)
    clear hv h21
    go_wp2_with (fail)
    refine (Rerr_c r S5 w8 HRD5.out).mono ?_
    rintro _ _ ⟨rfl, rfl⟩
    rw [HE5.out]
    go_wp2_with (fail)
    refine (Rerr_c r S5 w8 HRD5.out).mono ?_
    rintro _ _ ⟨rfl, rfl⟩
    rw [HE5.out]
    go_wp2_with (first
      | (refine wpList_store_row rfl 29 (.tmp 2) (.tmp 26) rfl gr #[.int .u16 0, .int .u16 0, .int .u64 0, .int .u64 0, .bool false, .int .u32 0, .int .i64 0, .int .i64 0, .slice none 0 0] rfl rfl 29 _ HG8.out info_dat rfl zd_one ?_))
    have HBF := Lib.hid (below_setRow (g := gr) HB8.out (Nat.le_of_eq EGR.out.symm) #[.int .u16 0, .int .u16 0, .int .u64 0, .int .u64 0, .bool false, .int .u32 0, .int .i64 0, .int .i64 0, .slice none 0 0])
    refine bodyPost_ret (v := .tuple #[.agg #[.int .u16 0, .int .u16 0, .int .u64 0, .int .u64 0, .bool false, .int .u32 0, .int .i64 0, .int .i64 0, .slice none 0 0], .int .i64 (e5 : Int)]) (first_results _ gr 29 _ (0, 0) (e5 : Int) rfl rfl _ (setRow_heap w8 gr _ _ _ _ HG8.out) info_dat) rfl ?_
    rw [EE.out.1]
    exact ⟨_, rfl, ⟨rfl, zd_one, fun h => absurd (EE.out.1.trans h) EE.out.2⟩, HBF.out⟩
  · have hv : e5 = 0 := HE5v.out.trans (if_neg h21)
    have d0 : ((e5 : Int) != 0) = false := by rw [hv]; rfl
    have H5 := Lib.hid (show S5.err = 0 from HE5.out.trans hv)
    have H21 := Lib.hid h21
    have HX5v : Hid (x5 = bAt bs 20) := Lib.hid (HX5.out H5.out)
    have HFST : Hid (x1 = (fstD bs).st ∧ x2 = (fstD bs).ec ∧ x3 = (fstD bs).ak ∧ x4 = (fstD bs).th) := Lib.hid (by
      have q1 := HX1.out (HT1.out.at_eq (by omega)).1
      have q2 := HX2.out (HT2.out.at_eq (by omega)).1
      have q3 := HX3.out (HT3.out.at_eq (by omega)).1
      have q4 := HX4.out (HT4.out.at_eq (by omega)).1
      exact ⟨q1, q2, q3, q4⟩)
    clear hv h21
    go_wp2_with (fail)
    refine (Rerr_c r S5 w8 HRD5.out).mono ?_
    rintro _ _ ⟨rfl, rfl⟩
    rw [HE5.out]
    by_cases h1 : 1 < x5
    · have d1 : (1 : Int) < (x5 : Int) := by omega
      have EE : Hid (E = 3) := Lib.hid (by rw [← HE.out, firE, if_neg H21.out, if_pos (by rw [← HX5v.out]; exact h1)])
      clear h1
      go_wp2_with (first
        | (refine wpList_store_row rfl 29 (.tmp 2) (.tmp 32) rfl gr #[.int .u16 0, .int .u16 0, .int .u64 0, .int .u64 0, .bool false, .int .u32 0, .int .i64 0, .int .i64 0, .slice none 0 0] rfl rfl 29 _ HG8.out info_dat rfl zd_one ?_))
      have HBF := Lib.hid (below_setRow (g := gr) HB8.out (Nat.le_of_eq EGR.out.symm) #[.int .u16 0, .int .u16 0, .int .u64 0, .int .u64 0, .bool false, .int .u32 0, .int .i64 0, .int .i64 0, .slice none 0 0])
      refine bodyPost_ret (v := .tuple #[.agg #[.int .u16 0, .int .u16 0, .int .u64 0, .int .u64 0, .bool false, .int .u32 0, .int .i64 0, .int .i64 0, .slice none 0 0], .int .i64 3]) (first_results _ gr 29 _ (0, 0) 3 rfl rfl _ (setRow_heap w8 gr _ _ _ _ HG8.out) info_dat) rfl ?_
      rw [EE.out]
      exact ⟨_, rfl, ⟨rfl, zd_one, fun h => by cases h⟩, HBF.out⟩
    · have d1 : (x5 : Int) ≤ 1 := by omega
      have H1 := Lib.hid h1
      clear h1
      by_cases h2 : x5 = 0
      · have d2 : ((x5 : Int) == 0) = true := by rw [h2]; rfl
        have EE : Hid (endR S5 = E) := Lib.hid (by
          rw [← HE.out, firE, if_neg H21.out, if_neg (by rw [← HX5v.out]; exact H1.out), if_pos (by rw [← HX5v.out]; exact h2), endR, HT5.out.1, (HT5.out.at_eq (by have := H21.out; omega)).2]
          by_cases q : 21 < bs.length
          · rw [if_pos ⟨H5.out, q⟩, if_pos q]
          · rw [if_neg (fun a => q a.2), if_neg q]; exact H5.out)
        have ED : Hid (D = fstD bs) := Lib.hid (by rw [← HDD.out, firD, if_pos (by rw [← HX5v.out]; exact h2)])
        clear h2
        go_upto_region 9 with (fail)
        refine wp_region_rt 60 3 [Rl.eq (.agg #[.int .u16 (x1 : Int), .int .u16 (x2 : Int), .int .u64 (x3 : Int), .int .u64 (x4 : Int), .bool false, .int .u32 0, .int .i64 0, .int .i64 0, .slice none 0 0]), Rl.eq (.pointer (some ⟨r, 0, none⟩)), Rl.eq (.int .i64 (E : Int))] [36, 37, 38, 3] (by kernel_rfl) rfl (by kernel_rfl) (by kernel_rfl) (by decide) (by kernel_rfl) (by kernel_rfl) ?_ ?_
        · simp only [List.take_succ_cons, List.take_zero]
          repeat (first | exact AllFrom.nil_ | (refine AllFrom.cons_ (by rfl) ?_ ?_; rotate_left))
          · intro f w' g hF hD
            have h5 : f 5 = .pointer (some ⟨g5, 0, none⟩) := hF 5 (by kernel_rfl)
            rw [if_pos (wanted_none rfl)]
            clear hF hD
            exact gives_load_row 29 (.tmp 5) rfl g5 (by simp only [evF, h5]) 29 #[.int .u16 (x1 : Int), .int .u16 (x2 : Int), .int .u64 (x3 : Int), .int .u64 (x4 : Int), .bool false, .int .u32 0, .int .i64 0, .int .i64 0, .slice none 0 0] (0, 0) _ ((g.block g5 (heap_lt HH8.out)).trans HH8.out) Try.underlying29 rfl info_dat ⟨Gr.refl _, rfl⟩
          · intro f w' g hF hD
            have h4 : f 4 = .pointer (some ⟨r, 0, none⟩) := hF 4 (by kernel_rfl)
            rw [if_pos (wanted_none rfl)]
            clear hF hD
            exact gives_val (by simp only [execOp, evF, h4]; first | rfl | go_simp) ⟨Gr.refl _, rfl⟩
          · intro f w' g hF hD
            have h37 : f 37 = (.pointer (some ⟨r, 0, none⟩)) := hD 1 37 (by kernel_rfl) rfl
            rw [if_pos (wanted_none rfl)]
            clear hF hD
            have kg : Below w8.heap.size w8 w' := (below_drewN (Below.refl _ _) 1).trans g
            refine gives_func rfl Try.func77 (by kernel_rfl) rfl (by simp only [List.map_toArray, List.map_cons, List.map_nil, evF, h37]) ((Rend_c r S5 w' (HRD5.out.below kg)).mono ?_)
            rintro e w'' ⟨rfl, q, rfl⟩
            rw [EE.out]
            exact ⟨_, rfl, below_drewN (Below.refl _ _) q, rfl⟩
        intro f' wz g hD
        have hl : f' 36 = .agg #[.int .u16 (x1 : Int), .int .u16 (x2 : Int), .int .u64 (x3 : Int), .int .u64 (x4 : Int), .bool false, .int .u32 0, .int .i64 0, .int .i64 0, .slice none 0 0] := hD 0 36 (by decide) rfl
        have hc : f' 38 = .int .i64 (E : Int) := hD 2 38 (by decide) rfl
        simp only [List.drop_succ_cons, List.drop_zero, putAll, List.setIfInBounds_toArray, List.set_cons_zero, List.set_cons_succ, hl, hc]
        have kg : Below w8.heap.size w8 wz := (below_drewN (Below.refl _ _) 1).trans g
        have HGz := Lib.hid ((kg.block gr (heap_lt HG8.out)).trans HG8.out)
        have HBz := Lib.hid (HB8.out.trans (kg.mono HB8.out.size))
        have KGz := Lib.hid kg
        clear hl hc hD g kg
        refine wpList_store_row rfl 29 (.tmp 2) (.tmp 36) rfl gr #[.int .u16 (x1 : Int), .int .u16 (x2 : Int), .int .u64 (x3 : Int), .int .u64 (x4 : Int), .bool false, .int .u32 0, .int .i64 0, .int .i64 0, .slice none 0 0] rfl rfl 29 _ HGz.out info_dat rfl (nine_one _ _ _ _ _ _ _ _ _ _ _) ?_
        have HBF := Lib.hid (below_setRow (g := gr) HBz.out (Nat.le_of_eq EGR.out.symm) #[.int .u16 (x1 : Int), .int .u16 (x2 : Int), .int .u64 (x3 : Int), .int .u64 (x4 : Int), .bool false, .int .u32 0, .int .i64 0, .int .i64 0, .slice none 0 0])
        go_wp2_with (fail)
        refine bodyPost_ret (v := .tuple #[.agg #[.int .u16 (x1 : Int), .int .u16 (x2 : Int), .int .u64 (x3 : Int), .int .u64 (x4 : Int), .bool false, .int .u32 0, .int .i64 0, .int .i64 0, .slice none 0 0], .int .i64 (E : Int)]) (first_results _ gr 29 _ (0, 0) (E : Int) rfl rfl _ (setRow_heap wz gr _ _ _ _ HGz.out) info_dat) rfl ?_
        refine ⟨_, rfl, ⟨rfl, nine_one _ _ _ _ _ _ _ _ _ _ _, fun _ => ⟨none, 0, 0, ?_, ?_⟩⟩, HBF.out⟩
        · rw [ED.out, HFST.out.1, HFST.out.2.1, HFST.out.2.2.1, HFST.out.2.2.2]; rfl
        · rw [ED.out]; exact TxtO.nil_ _ _
      · have d2 : ((x5 : Int) == 0) = false := by rw [beq_eq_false_iff_ne]; omega
        have H2 := Lib.hid h2
        have hf : w8.frozen? ⟨g5, 4, none⟩ = false := heap_free HH8.out 4
        have hc : w8.cell? ⟨g5, 4, none⟩ = some (.bool false) := (heap_cell HH8.out 4).trans rfl
        go_upto_region 11 with (fail)
        obtain ⟨w9, ew⟩ : ∃ w', w' = w8.setCell ⟨g5, 4, none⟩ (.bool true) := ⟨_, rfl⟩
        rw [← ew]
        have hk : Keeps (fun j => j = g5) w8 w9 := by rw [ew]; exact Keeps.set (fun j => j = g5) w8 ⟨g5, 4, none⟩ _ rfl
        have HH9 : Hid (w9.heap[g5]? = some (.cells #[.int .u16 (x1 : Int), .int .u16 (x2 : Int), .int .u64 (x3 : Int), .int .u64 (x4 : Int), .bool true, .int .u32 0, .int .i64 0, .int .i64 0, .slice none 0 0] 29 (0, 0))) := Lib.hid (by rw [ew]; exact (heap_set HH8.out 4 _).trans rfl)
        have HG9 := Lib.hid ((hk.block gr (heap_lt HG8.out) HQ.out.2.1).trans HG8.out)
        have HB9 := Lib.hid (keepsP_b HB8.out hk HQ.out.2.2.1 (Nat.le_refl _))
        have HRD5b := Lib.hid (HRD5.out.far hk HQ.out.1 (fun a e => HQ.out.2.2.2 a (HGA5.out.symm.trans e)))
        clear hf hc ew hk h2 HRD5 HG8 HB8 HH8
        have HRD5 := HRD5b
        clear HRD5b
        go_wp2_with (fail)
        refine (Rnum_c r S5 4 w9 HRD5.out (by decide)).mono ?_
        rintro _ w10 ⟨rfl, hd, hg⟩
        obtain ⟨x6, ex⟩ : ∃ x, (numR S5 4).1 = x := ⟨_, rfl⟩
        obtain ⟨S6, eS⟩ : ∃ s, (numR S5 4).2 = s := ⟨_, rfl⟩
        have ht : AtR bs (numR S5 4).2 (21 + 4) ∧ ((numR S5 4).2.err = 0 → (numR S5 4).1 = beN ((bs.drop 21).take 4)) := HT5.out.num 4 (by decide) (by decide)
        have hx : (numR S5 4).1 < 256 ^ 4 := numR_lt S5 4 (by decide)
        have hga := numR_gA S5 4
        rw [ex, eS] at ht
        rw [ex] at hx ⊢
        rw [eS] at hd hga
        have HRD6 := Lib.hid hd
        have HT6 := Lib.hid ht.1
        have HX6 := Lib.hid ht.2
        have HGA6 := Lib.hid (hga.trans HGA5.out)
        have hk : Keeps (fun j => j = r) w9 w10 := Keeps.of_grown hg _ (fun k e => (Option.some.inj e).symm)
        have HG10 := Lib.hid ((hk.block gr (heap_lt HG9.out) HP.out.2.1).trans HG9.out)
        have HB10 := Lib.hid (keepsP_b HB9.out hk HP.out.1 (Nat.le_refl _))
        have HX6b := Lib.hid hx
        have HH10 := Lib.hid ((hk.block g5 (heap_lt HH9.out) (Ne.symm HQ.out.1)).trans HH9.out)
        have y6 : IntKind.u32.wrap (x6 : Int) = (x6 : Int) := u32_u64w hx
        clear hd ht hga hg HRD5 HG9 HB9 ex eS HH9 hk hx
        go_wp2_with (fail)
        refine (Rnum_c r S6 1 w10 HRD6.out (by decide)).mono ?_
        rintro _ w11 ⟨rfl, hd, hg⟩
        obtain ⟨x7, ex⟩ : ∃ x, (numR S6 1).1 = x := ⟨_, rfl⟩
        obtain ⟨S7, eS⟩ : ∃ s, (numR S6 1).2 = s := ⟨_, rfl⟩
        have ht : AtR bs (numR S6 1).2 (25 + 1) ∧ ((numR S6 1).2.err = 0 → (numR S6 1).1 = beN ((bs.drop 25).take 1)) := HT6.out.num 1 (by decide) (by decide)
        have hx : (numR S6 1).1 < 256 ^ 1 := numR_lt S6 1 (by decide)
        have hga := numR_gA S6 1
        rw [ex, eS] at ht
        rw [ex] at hx ⊢
        rw [eS] at hd hga
        have HRD7 := Lib.hid hd
        have HT7 := Lib.hid ht.1
        have HX7 := Lib.hid ht.2
        have HGA7 := Lib.hid (hga.trans HGA6.out)
        have hk : Keeps (fun j => j = r) w10 w11 := Keeps.of_grown hg _ (fun k e => (Option.some.inj e).symm)
        have HG11 := Lib.hid ((hk.block gr (heap_lt HG10.out) HP.out.2.1).trans HG10.out)
        have HB11 := Lib.hid (keepsP_b HB10.out hk HP.out.1 (Nat.le_refl _))
        have HX7b := Lib.hid hx
        have HH11 := Lib.hid ((hk.block g5 (heap_lt HH10.out) (Ne.symm HQ.out.1)).trans HH10.out)
        have y7 : IntKind.i64.wrap (x7 : Int) = (x7 : Int) := i64w' hx
        clear hd ht hga hg HRD6 HG10 HB10 ex eS HH10 hk hx
        go_wp2_with (fail)
        refine (Rnum_c r S7 1 w11 HRD7.out (by decide)).mono ?_
        rintro _ w12 ⟨rfl, hd, hg⟩
        obtain ⟨x8, ex⟩ : ∃ x, (numR S7 1).1 = x := ⟨_, rfl⟩
        obtain ⟨S8, eS⟩ : ∃ s, (numR S7 1).2 = s := ⟨_, rfl⟩
        have ht : AtR bs (numR S7 1).2 (26 + 1) ∧ ((numR S7 1).2.err = 0 → (numR S7 1).1 = beN ((bs.drop 26).take 1)) := HT7.out.num 1 (by decide) (by decide)
        have hx : (numR S7 1).1 < 256 ^ 1 := numR_lt S7 1 (by decide)
        have hga := numR_gA S7 1
        rw [ex, eS] at ht
        rw [ex] at hx ⊢
        rw [eS] at hd hga
        have HRD8 := Lib.hid hd
        have HT8 := Lib.hid ht.1
        have HX8 := Lib.hid ht.2
        have HGA8 := Lib.hid (hga.trans HGA7.out)
        have hk : Keeps (fun j => j = r) w11 w12 := Keeps.of_grown hg _ (fun k e => (Option.some.inj e).symm)
        have HG12 := Lib.hid ((hk.block gr (heap_lt HG11.out) HP.out.2.1).trans HG11.out)
        have HB12 := Lib.hid (keepsP_b HB11.out hk HP.out.1 (Nat.le_refl _))
        have HX8b := Lib.hid hx
        have HH12 := Lib.hid ((hk.block g5 (heap_lt HH11.out) (Ne.symm HQ.out.1)).trans HH11.out)
        have y8 : IntKind.i64.wrap (x8 : Int) = (x8 : Int) := i64w' hx
        clear hd ht hga hg HRD7 HG11 HB11 ex eS HH11 hk hx
        have f5 : w12.frozen? ⟨g5, 5, none⟩ = false := heap_free HH12.out 5
        have f6 : w12.frozen? ⟨g5, 6, none⟩ = false := heap_free HH12.out 6
        have f7 : w12.frozen? ⟨g5, 7, none⟩ = false := heap_free HH12.out 7
        have f8 : w12.frozen? ⟨g5, 8, none⟩ = false := heap_free HH12.out 8
        have c5 : w12.cell? ⟨g5, 5, none⟩ = some (.int .u32 0) := (heap_cell HH12.out 5).trans rfl
        have c6 : w12.cell? ⟨g5, 6, none⟩ = some (.int .i64 0) := (heap_cell HH12.out 6).trans rfl
        have c7 : w12.cell? ⟨g5, 7, none⟩ = some (.int .i64 0) := (heap_cell HH12.out 7).trans rfl
        have c8 : w12.cell? ⟨g5, 8, none⟩ = some (.slice none 0 0) := (heap_cell HH12.out 8).trans rfl
        go_upto_region 12 with (fail)
        obtain ⟨w13, ew⟩ : ∃ w', w' = (((w12.setCell ⟨g5, 5, none⟩ (.int .u32 (x6 : Int))).setCell ⟨g5, 6, none⟩ (.int .i64 (x7 : Int))).setCell ⟨g5, 7, none⟩ (.int .i64 (x8 : Int))).setCell ⟨g5, 8, none⟩ (.slice none 0 0) := ⟨_, rfl⟩
        rw [← ew]
        have hk : Keeps (fun j => j = g5) w12 w13 := by
          rw [ew]
          exact (((Keeps.set (fun j => j = g5) w12 ⟨g5, 5, none⟩ _ rfl).trans (Keeps.set (fun j => j = g5) _ ⟨g5, 6, none⟩ _ rfl)).trans (Keeps.set (fun j => j = g5) _ ⟨g5, 7, none⟩ _ rfl)).trans (Keeps.set (fun j => j = g5) _ ⟨g5, 8, none⟩ _ rfl)
        have HH13 : Hid (w13.heap[g5]? = some (.cells #[.int .u16 (x1 : Int), .int .u16 (x2 : Int), .int .u64 (x3 : Int), .int .u64 (x4 : Int), .bool true, .int .u32 (x6 : Int), .int .i64 (x7 : Int), .int .i64 (x8 : Int), .slice none 0 0] 29 (0, 0))) := Lib.hid (by
          rw [ew]; exact (heap_set (heap_set (heap_set (heap_set HH12.out 5 _) 6 _) 7 _) 8 _).trans rfl)
        have HG13 := Lib.hid ((hk.block gr (heap_lt HG12.out) HQ.out.2.1).trans HG12.out)
        have HB13 := Lib.hid (keepsP_b HB12.out hk HQ.out.2.2.1 (Nat.le_refl _))
        have HRD8b := Lib.hid (HRD8.out.far hk HQ.out.1 (fun a e => HQ.out.2.2.2 a (HGA8.out.symm.trans e)))
        clear ew hk HRD8 HG12 HB12 HH12 f5 f6 f7 f8 c5 c6 c7 c8 y6 y7 y8
        have HRD8 := HRD8b
        clear HRD8b
        go_wp2_with (fail)
        refine (Rleft_c r S8 w13 HRD8.out).mono ?_
        rintro _ _ ⟨rfl, q, rfl⟩
        obtain ⟨q0, eq0⟩ : ∃ q0, S8.b.length - S8.at_ = q0 := ⟨_, rfl⟩
        rw [eq0]
        have hq : (Lit.int .i64 (q0 : Int)).wf = true := by
          have := HN.out; have := HLN.out; have hb8 := HT8.out.1; rw [hb8] at eq0
          simp [Lit.wf, IntKind.min, IntKind.max, IntKind.signed, IntKind.bits]; omega
        have HQ0 := Lib.hid eq0
        have HQW := Lib.hid hq
        clear eq0 hq
        go_wp2_with (fail)
        refine (Rtake_c r S8 (q0 : Int) (w13.drewN q) (HRD8.out.drewN q) HQW.out).mono ?_
        rintro _ w14 ⟨v, rfl, ho, hd, hg⟩
        have htk := takeR_rest S8 (by rw [HT8.out.1]; exact HT8.out.2.1)
        rw [HQ0.out] at htk
        obtain ⟨L9, eL⟩ : ∃ L, (takeR S8 (q0 : Int)).1 = L := ⟨_, rfl⟩
        obtain ⟨S9, eS⟩ : ∃ s, (takeR S8 (q0 : Int)).2 = s := ⟨_, rfl⟩
        rw [eL, eS] at htk
        rw [eL] at ho
        rw [eS] at hd
        obtain ⟨A9, c9, rfl, hc1, hc2, r9, f9⟩ := OwnB.form ho
        obtain ⟨l9, el9⟩ : ∃ l, L9.length = l := ⟨_, rfl⟩
        rw [el9] at ho ⊢
        have hk : Keeps (fun j => j = r) (w13.drewN q) w14 := Keeps.of_grown hg _ (fun k e => (Option.some.inj e).symm)
        have hh14 := (hk.block g5 (heap_lt HH13.out) (Ne.symm HQ.out.1)).trans HH13.out
        have HG14 := Lib.hid ((hk.block gr (heap_lt HG13.out) HP.out.2.1).trans HG13.out)
        have HB14 := Lib.hid (keepsP_b (below_drewN HB13.out q) hk HP.out.1 (Nat.le_refl _))
        obtain ⟨w15, ew⟩ : ∃ w', w' = w14.setCell ⟨g5, 8, none⟩ (.slice A9 l9 c9) := ⟨_, rfl⟩
        have hk2 : Keeps (fun j => j = g5) w14 w15 := by rw [ew]; exact Keeps.set (fun j => j = g5) w14 ⟨g5, 8, none⟩ _ rfl
        have HH15 : Hid (w15.heap[g5]? = some (.cells #[.int .u16 (x1 : Int), .int .u16 (x2 : Int), .int .u64 (x3 : Int), .int .u64 (x4 : Int), .bool true, .int .u32 (x6 : Int), .int .i64 (x7 : Int), .int .i64 (x8 : Int), .slice A9 l9 c9] 29 (0, 0))) := Lib.hid (by rw [ew]; exact (heap_set hh14 8 _).trans rfl)
        have HG15 := Lib.hid ((hk2.block gr (heap_lt HG14.out) HQ.out.2.1).trans HG14.out)
        have HB15 := Lib.hid (keepsP_b HB14.out hk2 HQ.out.2.2.1 (Nat.le_refl _))
        have HRD9 := Lib.hid (hd.far hk2 HQ.out.1 (fun a e => HQ.out.2.2.2 a ((HGA8.out.symm.trans htk.2.1.symm).trans e)))
        have hz13 : g5 < (w13.drewN q).heap.size := heap_lt HH13.out
        have HW13 : Hid (gr + 1 ≤ (w13.drewN q).heap.size) := Lib.hid (heap_lt HG13.out)
        have HO9 : Hid (OwnB w15 (gr + 1) (.slice A9 l9 c9) L9) := Lib.hid (Own.low (Own.frameK ho (fun k e => hk2.block k (Own.lt ho k e).2 (by have := (Own.lt ho k e).1; omega))) HW13.out)
        have HL9 := Lib.hid el9
        have HTK := Lib.hid htk
        have f8 : w14.frozen? ⟨g5, 8, none⟩ = false := heap_free hh14 8
        have c8 : w14.cell? ⟨g5, 8, none⟩ = some (.slice none 0 0) := (heap_cell hh14 8).trans rfl
        have EW := Lib.hid ew
        have EE : Hid (S9.err = E) := Lib.hid (by
          have b : firE bs = if bs.length < 27 then 2 else 0 := by rw [firE, if_neg H21.out, if_neg (by rw [← HX5v.out]; exact H1.out), if_neg (by rw [← HX5v.out]; exact H2.out)]
          exact htk.1.trans (HT8.out.err.trans (b.symm.trans HE.out)))
        clear ho hd hg htk eL eS hc1 hc2 r9 f9 el9 hk hh14 ew hk2 hz13 HG13 HG14 HB13 HB14 HH13 HRD8
        go_upto_region 13 with (fail)
        rw [← EW.out]
        clear f8 c8
        refine wp_region_rt 60 3 [Rl.eq (.agg #[.int .u16 (x1 : Int), .int .u16 (x2 : Int), .int .u64 (x3 : Int), .int .u64 (x4 : Int), .bool true, .int .u32 (x6 : Int), .int .i64 (x7 : Int), .int .i64 (x8 : Int), .slice A9 l9 c9]), Rl.eq (.pointer (some ⟨r, 0, none⟩)), Rl.eq (.int .i64 (E : Int))] [57, 58, 59, 3] (by kernel_rfl) rfl (by kernel_rfl) (by kernel_rfl) (by decide) (by kernel_rfl) (by kernel_rfl) ?_ ?_
        · simp only [List.take_succ_cons, List.take_zero]
          repeat (first | exact AllFrom.nil_ | (refine AllFrom.cons_ (by rfl) ?_ ?_; rotate_left))
          · intro f w' g hF hD
            have h5 : f 5 = .pointer (some ⟨g5, 0, none⟩) := hF 5 (by kernel_rfl)
            rw [if_pos (wanted_none rfl)]
            clear hF hD
            exact gives_load_row 29 (.tmp 5) rfl g5 (by simp only [evF, h5]) 29 #[.int .u16 (x1 : Int), .int .u16 (x2 : Int), .int .u64 (x3 : Int), .int .u64 (x4 : Int), .bool true, .int .u32 (x6 : Int), .int .i64 (x7 : Int), .int .i64 (x8 : Int), .slice A9 l9 c9] (0, 0) _ ((g.block g5 (heap_lt HH15.out)).trans HH15.out) Try.underlying29 rfl info_dat ⟨Gr.refl _, rfl⟩
          · intro f w' g hF hD
            have h4 : f 4 = .pointer (some ⟨r, 0, none⟩) := hF 4 (by kernel_rfl)
            rw [if_pos (wanted_none rfl)]
            clear hF hD
            exact gives_val (by simp only [execOp, evF, h4]; first | rfl | go_simp) ⟨Gr.refl _, rfl⟩
          · intro f w' g hF hD
            have h58 : f 58 = (.pointer (some ⟨r, 0, none⟩)) := hD 1 58 (by kernel_rfl) rfl
            rw [if_pos (wanted_none rfl)]
            clear hF hD
            have kg : Below w15.heap.size w15 w' := (below_drewN (Below.refl _ _) 1).trans g
            refine gives_func rfl Try.func76 (by kernel_rfl) rfl (by simp only [List.map_toArray, List.map_cons, List.map_nil, evF, h58]) ((Rerr_c r S9 w' (HRD9.out.below kg)).mono ?_)
            rintro e w'' ⟨rfl, rfl⟩
            rw [EE.out]
            exact ⟨_, rfl, Gr.refl _, rfl⟩
        intro f' wz g hD
        have hl : f' 57 = .agg #[.int .u16 (x1 : Int), .int .u16 (x2 : Int), .int .u64 (x3 : Int), .int .u64 (x4 : Int), .bool true, .int .u32 (x6 : Int), .int .i64 (x7 : Int), .int .i64 (x8 : Int), .slice A9 l9 c9] := hD 0 57 (by decide) rfl
        have hc : f' 59 = .int .i64 (E : Int) := hD 2 59 (by decide) rfl
        simp only [List.drop_succ_cons, List.drop_zero, putAll, List.setIfInBounds_toArray, List.set_cons_zero, List.set_cons_succ, hl, hc]
        have kg : Below w15.heap.size w15 wz := (below_drewN (Below.refl _ _) 1).trans g
        have HGz := Lib.hid ((kg.block gr (heap_lt HG15.out)).trans HG15.out)
        have HBz := Lib.hid (HB15.out.trans (kg.mono HB15.out.size))
        have KGz := Lib.hid kg
        clear hl hc hD g kg
        refine wpList_store_row rfl 29 (.tmp 2) (.tmp 57) rfl gr #[.int .u16 (x1 : Int), .int .u16 (x2 : Int), .int .u64 (x3 : Int), .int .u64 (x4 : Int), .bool true, .int .u32 (x6 : Int), .int .i64 (x7 : Int), .int .i64 (x8 : Int), .slice A9 l9 c9] rfl rfl 29 _ HGz.out info_dat rfl (nine_one _ _ _ _ _ _ _ _ _ _ _) ?_
        have HBF := Lib.hid (below_setRow (g := gr) HBz.out (Nat.le_of_eq EGR.out.symm) #[.int .u16 (x1 : Int), .int .u16 (x2 : Int), .int .u64 (x3 : Int), .int .u64 (x4 : Int), .bool true, .int .u32 (x6 : Int), .int .i64 (x7 : Int), .int .i64 (x8 : Int), .slice A9 l9 c9])
        go_wp2_with (fail)
        refine bodyPost_ret (v := .tuple #[.agg #[.int .u16 (x1 : Int), .int .u16 (x2 : Int), .int .u64 (x3 : Int), .int .u64 (x4 : Int), .bool true, .int .u32 (x6 : Int), .int .i64 (x7 : Int), .int .i64 (x8 : Int), .slice A9 l9 c9], .int .i64 (E : Int)]) (first_results _ gr 29 _ (0, 0) (E : Int) rfl rfl _ (setRow_heap wz gr _ _ _ _ HGz.out) info_dat) rfl ?_
        have HOz : OwnB (wz.setRow gr #[.int .u16 (x1 : Int), .int .u16 (x2 : Int), .int .u64 (x3 : Int), .int .u64 (x4 : Int), .bool true, .int .u32 (x6 : Int), .int .i64 (x7 : Int), .int .i64 (x8 : Int), .slice A9 l9 c9]) (gr + 1) (.slice A9 l9 c9) L9 := by
          refine Own.frameK HO9.out (fun k e => ?_)
          have h1 := Own.lt HO9.out k e
          exact (setRow_other wz gr k #[.int .u16 (x1 : Int), .int .u16 (x2 : Int), .int .u64 (x3 : Int), .int .u64 (x4 : Int), .bool true, .int .u32 (x6 : Int), .int .i64 (x7 : Int), .int .i64 (x8 : Int), .slice A9 l9 c9] (by omega)).trans (KGz.out.block k h1.2)
        refine ⟨_, rfl, ⟨rfl, nine_one _ _ _ _ _ _ _ _ _ _ _, fun h0 => ⟨A9, l9, c9, ?_, ?_⟩⟩, HBF.out⟩
        · have h8 : S8.err = 0 := (HTK.out.1.symm.trans EE.out).trans h0
          have h27 : ¬ bs.length < 27 := fun q => by rw [HT8.out.err, if_pos q] at h8; cases h8
          have q6 := HX6.out (HT6.out.at_eq (by omega)).1
          have q7 := HX7.out (HT7.out.at_eq (by omega)).1
          have q8 := HX8.out (HT8.out.at_eq (by omega)).1
          rw [← HDD.out, firD, if_neg (by rw [← HX5v.out]; exact H2.out), HFST.out.1, HFST.out.2.1, HFST.out.2.2.1, HFST.out.2.2.2, q6, q7, q8]
          rfl
        · have h8 : S8.err = 0 := (HTK.out.1.symm.trans EE.out).trans h0
          have h27 : ¬ bs.length < 27 := fun q => by rw [HT8.out.err, if_pos q] at h8; cases h8
          have hb : D.p.bs = L9 := by
            rw [← HDD.out, firD, if_neg (by rw [← HX5v.out]; exact H2.out)]
            show bs.drop 27 = L9
            rw [HTK.out.2.2 h8, HT8.out.1, (HT8.out.at_eq (by omega)).2]
          rw [hb]
          have hl : L9.length ≤ n := by rw [← hb, ← HDD.out, firD, if_neg (by rw [← HX5v.out]; exact H2.out)]; show (bs.drop 27).length ≤ n; rw [List.length_drop, HN.out]; omega
          exact TxtO.of_own HOz HL9.out (by rw [← HL9.out]; exact Nat.le_trans hl HLN.out) (fun j hj _ => by have := EGR.out; show w.heap.size ≤ j; omega)
end Go.Proofs.Ytcffinkkfdfcaaa
