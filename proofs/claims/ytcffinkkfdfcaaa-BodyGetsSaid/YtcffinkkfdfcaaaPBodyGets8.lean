/- Parts one behind the other: What one, four and number of a walk over fields answer; What known and open make: a walk over the items of the kinds 1 to K; A region that draws its order and whose last operation waits for all others: the others by relations, the last one at the end; A region that draws its order, told by the values that its operations yield and by what becomes of the world, whatever the order; A region that draws its order and ends in a tail that waits for all others: the others by relations, the tail one behind the other; What GetHello answers: the Hello that bytes say, or an error; The law's fixed examples hold; What the reference's Pick answers; Slices of bytes in a row of the call's own; Cuts of slices whose bound is known under another spelling. Conditions: as told at each. -/
import Derived.Test.YtcffinkkfdfcaaaPBodyGets7
import Derived.Test.YtcffinkkfdfcaaaPBodyGets6
import Derived.Test.YtcffinkkfdfcaaaPBodyGets5
import Derived.Laws.Tables
import Derived.Laws.Rows
import Derived.Test.YtcffinkkfdfcaaaPBodyGets1
import Derived.Deep.RegionHeld3
import Derived.Deep.MidRow
import Derived.BigRegion
import Derived.Laws.CopyOwn
import Derived.Test.YtcffinkkfdfcaaaPBodyGets2

/- What one, four and number of a walk over fields answer. Conditions: a list that can be read, apart from the walk's own block. -/
namespace Go.Proofs.Ytcffinkkfdfcaaa
open Go Go.RowKit

def oneN (s : FS) : Nat := ((byB s 1).headD 0).toNat
def fourN (s : FS) : Nat := beN (byB s 4)
theorem u32_u64w {n : Nat} (h : n < 4294967296) : IntKind.u32.wrap (n : Int) = (n : Int) := by
  unfold IntKind.wrap
  simp [IntKind.bits, IntKind.signed]
  omega
set_option maxRecDepth 100000 in
set_option maxHeartbeats 4000000 in
theorem one_c (p : Nat) (A : Option Addr) (n c : Nat) (s : FS) (w : World) (h : Flds w p A n c s) (ha : s.at_ ≤ 100) :
    Calls Try.prog 48 #[.pointer (some ⟨p, 0, none⟩)] w fun r w' => r = .returned (.int .i64 (oneN s : Int)) ∧ Flds w' p A n c (byS s 1) ∧ Keeps (fun j => j = p) w w' := by
  have H := Lib.hid h
  clear h
  obtain ⟨R, hR⟩ : ∃ R, oneN s = R := ⟨_, rfl⟩
  rw [hR]
  have HR := Lib.hid hR
  clear hR
  go_enter Try.func48, Try.ntmps48
  go_wp2_with (fail)
  refine (bytes_c p A n c s 1 (by decide) w H.out ha).mono ?_
  rintro _ w1 ⟨Ab, cb, rfl, ht, hf, hk⟩
  obtain ⟨h1, h2, h3, h4, -⟩ := ht.r
  obtain ⟨x, ex⟩ : ∃ x, byB s 1 = [x] := by
    match q : byB s 1, h1 with
    | [x], _ => exact ⟨x, rfl⟩
  rw [ex] at h2
  obtain ⟨b, off, rfl, hb, hc⟩ := h2.addrB (by simp)
  have c0 := hc 0 (by simp)
  simp only [Nat.add_zero, List.getElem_cons_zero] at c0
  unfold bv at c0
  have hx : x.toNat < 256 := x.toNat_lt
  have ER : Hid (R = x.toNat) := Lib.hid (by rw [← HR.out]; unfold oneN; rw [ex]; rfl)
  have HF := Lib.hid hf
  have HK := Lib.hid hk
  clear ht hf hk h1 h2 h3 h4 ex hc HR
  go_wp2_with (fail)
  go_ret
  exact ⟨by rw [ER.out]; rfl, HF.out, HK.out⟩
set_option maxRecDepth 100000 in
set_option maxHeartbeats 4000000 in
theorem four_c (p : Nat) (A : Option Addr) (n c : Nat) (s : FS) (w : World) (h : Flds w p A n c s) (ha : s.at_ ≤ 100) :
    Calls Try.prog 49 #[.pointer (some ⟨p, 0, none⟩)] w fun r w' => r = .returned (.int .u32 (fourN s : Int)) ∧ Flds w' p A n c (byS s 4) ∧ Keeps (fun j => j = p) w w' := by
  have H := Lib.hid h
  clear h
  obtain ⟨R, hR⟩ : ∃ R, fourN s = R := ⟨_, rfl⟩
  rw [hR]
  have HR := Lib.hid hR
  clear hR
  go_enter Try.func49, Try.ntmps49
  go_wp2_with (fail)
  refine (bytes_c p A n c s 4 (by decide) w H.out ha).mono ?_
  rintro _ w1 ⟨Ab, cb, rfl, ht, hf, hk⟩
  obtain ⟨h1, h2, h3, h4, -⟩ := ht.r
  have HR2 := Lib.hid h2
  have H1 := Lib.hid h1
  have HF := Lib.hid hf
  have HK := Lib.hid hk
  clear ht hf hk h1 h2 h3 h4
  go_wp2_with (fail)
  refine (Rnew_c Ab 4 cb (byB s 4) w1 H1.out HR2.out (by decide)).mono ?_
  rintro _ w2 ⟨r, A', rfl, hr, hrd, hb, -⟩
  have HF2 := Lib.hid (HF.out.below hb)
  have HK2 := Lib.hid (HK.out.trans (Keeps.of_below hb _ (fun k hk _ => hk)))
  have hpr : p < r := Nat.lt_of_lt_of_le HF.out.lt hr
  have HPR := Lib.hid hpr
  have HRD := Lib.hid hrd
  have HS1 : Hid (w.heap.size ≤ r) := Lib.hid (Nat.le_trans HK.out.size hr)
  clear hr hrd hb hpr
  go_wp2_with (fail)
  refine (Rnum_c r ⟨byB s 4, 0, 0, A'⟩ 4 w2 HRD.out (by decide)).mono ?_
  rintro _ w3 ⟨rfl, -, hg⟩
  have hv : (numR ⟨byB s 4, 0, 0, A'⟩ 4).1 = R := by
    rw [← HR.out]
    unfold numR fourN
    rw [if_neg (by simp), if_neg (by decide), if_neg (by simp [byB_len])]
    simp [List.take_of_length_le, byB_len]
  rw [hv]
  have hk3 : Keeps (fun j => j = r) w2 w3 := Keeps.of_grown hg _ (fun k e => (Option.some.inj e).symm)
  have hR : R < 4294967296 := by
    rw [← HR.out]
    have := beN_lt (byB s 4)
    rw [byB_len] at this
    exact this
  have hk4 : Keeps (fun j => j = p) w w3 := HK2.out.over (hk3.mono (fun j hj => by have := HS1.out; omega))
  have hf3 : Flds w3 p A n c (byS s 4) := H.out.next hk4 (byS_l s 4) (by rw [byS_at]; omega) ((hk3.block p HF2.out.lt (by have := HPR.out; omega)).trans HF2.out.blk)
  have HF3 := Lib.hid hf3
  have HK3 := Lib.hid hk4
  have hw := u32_u64w hR
  clear hg hk3 hk4 hf3 hv hR
  go_wp2_with (fail)
  go_ret
  exact ⟨rfl, HF3.out, HK3.out⟩
theorem varR_u64 (bs : List UInt8) : U64 (varR ⟨bs, 0, 0, none⟩).1 := (varR_step (s := ⟨bs, 0, 0, none⟩) (n := (varR ⟨bs, 0, 0, none⟩).1) (s1 := (varR ⟨bs, 0, 0, none⟩).2) rfl rfl (Nat.zero_le _)).2.2.2.2.1
theorem endR_g (s : RS) (g : Option Addr) : endR { s with gA := g } = endR s := rfl
set_option maxRecDepth 100000 in
set_option maxHeartbeats 4000000 in
theorem number_c (p : Nat) (A : Option Addr) (n c : Nat) (s : FS) (must : Bool) (w : World) (h : Flds w p A n c s) (ha : s.at_ ≤ 100) :
    Calls Try.prog 80 #[.pointer (some ⟨p, 0, none⟩), .bool must] w fun r w' => r = .returned (.int .u64 (nuN s : Int)) ∧ Flds w' p A n c (nuS s must) ∧ Keeps (fun j => j = p) w w' := by
  have hp := h.lt
  have H := Lib.hid h
  clear h
  obtain ⟨R, hR⟩ : ∃ R, nuN s = R := ⟨_, rfl⟩
  obtain ⟨S', hS⟩ : ∃ S', nuS s must = S' := ⟨_, rfl⟩
  obtain ⟨B, hB⟩ : ∃ B, nxB s = B := ⟨_, rfl⟩
  rw [hR, hS]
  have HRR := Lib.hid hR
  have HSS := Lib.hid hS
  have HBB := Lib.hid hB
  clear hR hS hB
  go_enter Try.func80, Try.ntmps80
  go_wp2_with (fail)
  refine (next_c p A n c s must w H.out ha).mono ?_
  rintro _ w1 ⟨⟨dk, dc, dl, dA, dn, dcc, dAs, dns, dcs⟩, rfl, ho, hf, hk⟩
  unfold ItV.val
  dsimp only
  rw [HBB.out]
  obtain ⟨hli, ht, -, -⟩ := ho.parts
  dsimp only at hli ht
  obtain ⟨gx, egx⟩ : ∃ gx, gx = w1.heap.size := ⟨_, rfl⟩
  obtain ⟨w2, ew2⟩ : ∃ w2, w2 = w1.alloc (.cells #[.int .i64 dk, .bool dc, .bool dl, .slice dA dn dcc, .slice dAs dns dcs] 76) := ⟨_, rfl⟩
  have b2 : Below w1.heap.size w1 w2 := by rw [ew2]; exact (Below.refl _ _).alloc (Nat.le_refl _) _
  have hx2 : w2.heap[gx]? = some (.cells (ItV.cells ⟨dk, dc, dl, dA, dn, dcc, dAs, dns, dcs⟩).toArray 76 (0, 0)) := by rw [ew2, egx]; exact heap_alloc_new _ _
  have HF2 := Lib.hid (hf.below b2)
  have HK2 : Hid (Keeps (fun j => j = p) w w2) := Lib.hid (hk.trans (Keeps.of_below b2 _ (fun k hk _ => hk)))
  have HT2 := Lib.hid (ht.frame (w' := w2) (fun j _ hj => b2.block j hj))
  obtain ⟨⟨x0, x1, x2, x3, x4⟩, -⟩ := five_of hx2
  dsimp only at x0 x1 x2 x3 x4
  have HX2 := Lib.hid hx2
  have HPX : Hid (gx ≠ p) := Lib.hid (by have := hf.lt; omega)
  have EW2 := Lib.hid ew2
  have EGX := Lib.hid egx
  have HLI := Lib.hid hli
  clear ho hf hk ht b2 hx2 ew2 egx hli
  cases B with
  | false =>
    have er : R = 0 := by rw [← HRR.out]; unfold nuN; rw [if_neg (by rw [HBB.out]; simp)]
    have es : S' = nxS s must := by rw [← HSS.out]; unfold nuS; rw [if_neg (by rw [HBB.out]; simp)]
    have ER := Lib.hid er
    have ES := Lib.hid es
    clear er es
    go_upto_region 2 with (fail)
    rw [← EW2.out]
    clear x0 x1 x2 x3 x4
    go_wp2_with (fail)
    go_ret
    rw [ER.out, ES.out]
    exact ⟨rfl, HF2.out, HK2.out⟩
  | true =>
    obtain ⟨I, hI⟩ : ∃ I, nxI s = I := ⟨_, rfl⟩
    rw [hI] at HT2 HLI
    have er : R = (varR ⟨itB I, 0, 0, none⟩).1 := by rw [← HRR.out]; unfold nuN; rw [if_pos HBB.out, hI]
    have es : S' = badS (nxS s must) (itL I || (decide (endR (varR ⟨itB I, 0, 0, none⟩).2 ≠ 0) || (!must && decide (R = 0)))) := by rw [← HSS.out]; unfold nuS; rw [if_pos HBB.out, hI, HRR.out]
    have hn := HT2.out.1
    obtain ⟨-, hrd, -, -, -, hln⟩ := HT2.out.r
    have ER := Lib.hid er
    have ES := Lib.hid es
    have HN := Lib.hid hn
    have HRD := Lib.hid hrd
    have HUR : Hid (U64 R) := Lib.hid (by rw [er]; exact varR_u64 _)
    clear er es hn hrd hI
    go_upto_region 4 with (fail)
    rw [← EW2.out, ← EGX.out]
    go_wp2_with (fail)
    refine (Rnew_c dA dn dcc (itB I) w2 HN.out HRD.out hln).mono ?_
    rintro _ w3 ⟨r, A', rfl, hr, hrd, hb, -⟩
    have HF3 := Lib.hid (HF2.out.below hb)
    have HK3 := Lib.hid (HK2.out.trans (Keeps.of_below hb _ (fun k hk _ => hk)))
    have HX3 := Lib.hid ((hb.block gx (heap_lt HX2.out)).trans HX2.out)
    have HPR : Hid (p < r ∧ gx < r ∧ w.heap.size ≤ r) := Lib.hid ⟨Nat.lt_of_lt_of_le HF2.out.lt hr, Nat.lt_of_lt_of_le (heap_lt HX2.out) hr, Nat.le_trans HK2.out.size hr⟩
    have HRD3 := Lib.hid hrd
    clear hr hrd hb x0 x1 x2 x3 x4
    go_wp2_with (fail)
    refine (Rvar_c r ⟨itB I, 0, 0, A'⟩ w3 HRD3.out).mono ?_
    rintro _ w4 ⟨rfl, hrd4, hg4⟩
    have hv : (varR ⟨itB I, 0, 0, A'⟩).1 = R := by rw [ER.out, show (⟨itB I, 0, 0, A'⟩ : RS) = { (⟨itB I, 0, 0, none⟩ : RS) with gA := A' } from rfl, varR_g2]
    have hv2 : (varR ⟨itB I, 0, 0, A'⟩).2 = { (varR ⟨itB I, 0, 0, none⟩).2 with gA := A' } := by rw [show (⟨itB I, 0, 0, A'⟩ : RS) = { (⟨itB I, 0, 0, none⟩ : RS) with gA := A' } from rfl, varR_g2]
    rw [hv]
    rw [hv2] at hrd4
    have hk4 : Keeps (fun j => j = r) w3 w4 := Keeps.of_grown hg4 _ (fun k e => (Option.some.inj e).symm)
    have HX4 := Lib.hid ((hk4.block gx (heap_lt HX3.out) (by have := HPR.out; omega)).trans HX3.out)
    have HP4 := Lib.hid ((hk4.block p HF3.out.lt (by have := HPR.out; omega)).trans HF3.out.blk)
    have HK4 : Hid (Keeps (fun j => j = p) w w4) := Lib.hid (HK3.out.over (hk4.mono (fun j hj => by have := HPR.out; omega)))
    have HF4 : Hid (Flds w4 p A n c (nxS s must)) := Lib.hid (H.out.next HK4.out rfl (by rw [nxS_at]; omega) HP4.out)
    have HRD4 := Lib.hid hrd4
    obtain ⟨⟨x0, x1, x2, x3, x4⟩, -⟩ := five_of HX4.out
    dsimp only at x0 x1 x2 x3 x4
    obtain ⟨E, eE⟩ : ∃ E, endR (varR ⟨itB I, 0, 0, none⟩).2 = E := ⟨_, rfl⟩
    rw [eE, ← HLI.out] at ES
    have HE := Lib.hid eE
    clear hv hv2 hk4 hg4 hrd4 eE HX3 HF3 HK3 HX2 HF2 HK2 HP4 HRD3 HT2
    obtain ⟨X, hX⟩ : ∃ X, X = (dl || (decide (E ≠ 0) || (!must && decide (R = 0)))) := ⟨_, rfl⟩
    rw [← hX] at ES
    have fin : ∀ w5, (∃ q, w5 = w4.drewN q) → Calls Try.prog 51 #[.pointer (some ⟨p, 0, none⟩), .bool X] w5 fun r w' => r = .returned (.tuple #[]) ∧ Flds w' p A n c S' ∧ Keeps (fun j => j = p) w w' := by
      rintro w5 ⟨q, rfl⟩
      refine (bad_c p A n c (nxS s must) X (w4.drewN q) (HF4.out.drewN q)).mono ?_
      rintro e w6 ⟨he, hf6, hk6, -⟩
      exact ⟨he, by rw [ES.out]; exact hf6, (HK4.out.drewN q).trans hk6⟩
    have FIN := Lib.hid fin
    have HX := Lib.hid hX
    clear fin hX
    cases dl with
    | true =>
      obtain rfl : X = true := HX.out
      go_wp2_with (fail)
      refine (FIN.out w4 ⟨0, rfl⟩).mono ?_
      rintro _ w6 ⟨rfl, hf6, hk6⟩
      have HP6 := Lib.hid (And.intro hf6 hk6)
      clear hf6 hk6 x0 x1 x2 x3 x4
      go_wp2_with (fail)
      go_ret
      exact ⟨rfl, HP6.out⟩
    | false =>
      go_wp2_with (fail)
      refine (Rend_c r _ w4 HRD4.out).mono ?_
      rintro _ w5 ⟨rfl, q5, rfl⟩
      rw [endR_g, HE.out]
      have FIN2 := Lib.hid (FIN.out (w4.drewN q5) ⟨q5, rfl⟩)
      by_cases h1 : E = 0
      · have d1 : ((E : Int) != 0) = false := by rw [h1]; rfl
        cases must with
        | true =>
          obtain rfl : X = false := by rw [HX.out, h1]; rfl
          clear h1
          go_wp2_with (fail)
          refine FIN2.out.mono ?_
          rintro _ w6 ⟨rfl, hf6, hk6⟩
          have HP6 := Lib.hid (And.intro hf6 hk6)
          clear hf6 hk6 x0 x1 x2 x3 x4
          go_wp2_with (fail)
          go_ret
          exact ⟨rfl, HP6.out⟩
        | false =>
          by_cases h2 : R = 0
          · have d2 : ((R : Int) == 0) = true := by rw [h2]; rfl
            obtain rfl : X = true := by rw [HX.out, h1, h2]; rfl
            clear h1 h2
            go_wp2_with (fail)
            refine FIN2.out.mono ?_
            rintro _ w6 ⟨rfl, hf6, hk6⟩
            have HP6 := Lib.hid (And.intro hf6 hk6)
            clear hf6 hk6 x0 x1 x2 x3 x4
            go_wp2_with (fail)
            go_ret
            exact ⟨rfl, HP6.out⟩
          · have d2 : ((R : Int) == 0) = false := by rw [beq_eq_false_iff_ne]; omega
            obtain rfl : X = false := by rw [HX.out, h1, decide_eq_false h2]; rfl
            clear h1 h2
            go_wp2_with (fail)
            refine FIN2.out.mono ?_
            rintro _ w6 ⟨rfl, hf6, hk6⟩
            have HP6 := Lib.hid (And.intro hf6 hk6)
            clear hf6 hk6 x0 x1 x2 x3 x4
            go_wp2_with (fail)
            go_ret
            exact ⟨rfl, HP6.out⟩
      · have d1 : ((E : Int) != 0) = true := by rw [bne_iff_ne]; omega
        obtain rfl : X = true := by rw [HX.out, decide_eq_true h1]; rfl
        clear h1
        go_wp2_with (fail)
        refine FIN2.out.mono ?_
        rintro _ w6 ⟨rfl, hf6, hk6⟩
        have HP6 := Lib.hid (And.intro hf6 hk6)
        clear hf6 hk6 x0 x1 x2 x3 x4
        go_wp2_with (fail)
        go_ret
        exact ⟨rfl, HP6.out⟩
end Go.Proofs.Ytcffinkkfdfcaaa

/- What known and open make: a walk over the items of the kinds 1 to K. Conditions: a list, or bytes, that can be read. -/
namespace Go.Proofs.Ytcffinkkfdfcaaa
open Go Go.RowKit

theorem info_i64 : (Try.prog.info? 3).map (fun i => (i.zero, i.size, i.bytes)) = some (some (.int .i64 0), 1, 8) := by kernel_rfl
def zv (z : Int) : Value := .int .i64 z
/-- Numbers in a row of the call's own. -/
def OwnZ (w : World) (B : Nat) (v : Value) (zs : List Int) : Prop := Own w B 3 v (zs.map zv)
theorem OwnZ.form {w : World} {B : Nat} {v : Value} {zs : List Int} (h : OwnZ w B v zs) : ∃ A c, v = .slice A zs.length c ∧ zs.length ≤ c ∧ c ≤ maxLen ∧ RdI w A zs := by
  obtain ⟨A, c, h1, h2, h3, h4, h5, _⟩ := Own.form h
  simp only [List.length_map] at h1 h2
  refine ⟨A, c, h1, h2, h3, ?_⟩
  rcases h4 with h4 | ⟨b, off, e, hb, hc⟩
  · exact .inl (List.map_eq_nil_iff.1 h4)
  · exact .inr ⟨b, off, e, hb, fun k hk => by rw [hc k (by simpa using hk), List.getElem_map]; rfl⟩
/-- 'append(v, x)' of one number, laid in a new block. -/
theorem wpList_appZ1 (w : World) {ops : Array Oper} {rest : List Oper} {o : Oper} {a : Act} {Q : Exit → Act → World → Prop} (hgd : o.guard = none) (s x : Operand)
    (ho : o.op = .call { callee := .builtin .append, args := #[s, x], argTypes := #[106, 106] })
    (B : Nat) (v : Value) (zs : List Int) (hs : a.eval s = v) (hown : OwnZ w B v zs) (X : Value) (hx : a.eval x = .slice (some ⟨w.heap.size, 0, none⟩) 1 1) (z : Int) (hX : X = zv z)
    (hlen : zs.length ≤ 1000) (hB : B ≤ w.heap.size)
    (h : ∀ v' w', OwnZ w' B v' (zs ++ [z]) → Below B w w' → wpList Try.prog ops Q rest (a.put o.dst v') w') : wpList Try.prog ops Q (o :: rest) a (w.alloc (.cells #[X] 3)) := by
  subst hX
  obtain ⟨i0, hi, hz0, hz1, hz2⟩ := info_parts info_i64
  refine wpList_app _ hgd s x 106 ho B 3 i0 (.int .i64 0) 8 Try.underlying106 hi hz0 hz1 hz2 rfl v (zs.map zv) hs (Own.alloc hown _) (some ⟨w.heap.size, 0, none⟩) 1 1 [zv z] hx rfl (Rd.lit w [zv z] _) (by intro u hu; rw [List.mem_singleton.1 hu]; rfl) (by simp only [List.length_map, maxLen]; omega) (by simp only [List.length_map]; omega) (by simp; omega) ?_
  intro v' w' h1 h2 h3
  refine h v' w' (by simpa [OwnZ] using h1) (((Below.refl B w).alloc hB _).grown h2 (by simp; omega) (fun q e => (Own.lt hown q e).1))
theorem kindsL_succ (q : Nat) : kindsL (q + 1) = kindsL q ++ [((q : Int) + 1)] := by
  unfold kindsL; rw [List.range_succ, List.map_append]; rfl
theorem kindsL_len (q : Nat) : (kindsL q).length = q := by simp [kindsL]
set_option maxRecDepth 100000 in
set_option maxHeartbeats 4000000 in
theorem known_c (f : Fo) (ok : Nat → Prop) (A : Option Addr) (n c : Nat) (K e : Nat) (w : World) (hn : f.len = n) (h1 : FoR ok w A 0 f) (hs : f.size ≤ 100000) (hK : K ≤ 10) :
    Calls Try.prog 69 #[.slice A n c, .int .i64 (K : Int), .int .i64 (e : Int)] w fun r w' => ∃ p A' n' c', r = .returned (.pointer (some ⟨p, 0, none⟩)) ∧ w.heap.size ≤ p ∧ Flds w' p A' n' c' (knS f K e) ∧ Below w.heap.size w w' := by
  have HN := Lib.hid hn
  have H1 := Lib.hid h1
  have HS := Lib.hid hs
  clear hn h1 hs
  by_cases he : e = 0
  · have e0 : (((e : Nat) : Int) != 0) = false := by rw [he]; rfl
    have HE := Lib.hid he
    clear he
    obtain ⟨S, eS⟩ : ∃ S, knS f K e = S := ⟨_, rfl⟩
    rw [eS]
    have ES := Lib.hid eS
    clear eS
    go_enter Try.func69, Try.ntmps69
    go_wp2_with (fail)
    go_loopw [7, 15] (fun v i wr => ∃ q : Nat, q ≤ K ∧ i = .int .i64 q ∧ Hid (OwnZ wr w.heap.size v (kindsL q)) ∧ Hid (Below w.heap.size w wr)) (fun _ i _ => K - (intOf i).toNat)
    case atStart => exact ⟨0, by omega, rfl, Lib.hid (Own.nil_ _ _ _), Lib.hid (Below.refl _ _)⟩
    case round =>
      obtain ⟨q, hq, rfl, HO, HB⟩ := hrel
      have hsz := HB.out.size
      by_cases hlt : q < K
      · have hlt' : (q : Int) < (K : Int) := by omega
        go_wp2_with (first | (at_builtin; refine wpList_appZ1 wr rfl (.tmp 18) (.tmp 21) rfl w.heap.size u7 (kindsL q) rfl HO.out _ rfl ((q : Int) + 1) rfl (by rw [kindsL_len]; omega) hsz ?_; intro v' w' h1 h2; have HO2 := Lib.hid h1; have HB2 := Lib.hid (HB.out.trans h2); clear h1 h2))
        go_roundw
        case rel => exact ⟨q + 1, by omega, by go_num, Lib.hid (by rw [kindsL_succ]; exact HO2.out), HB2⟩
        case measure => simp [intOf]; omega
      · obtain rfl : K = q := by omega
        obtain ⟨Ak, ck, rfl, hc1, hc2, rk⟩ := HO.out.form
        rw [kindsL_len]
        have RK := Lib.hid rk
        clear rk hc1 hc2
        go_wp2_with (fail)
        refine (Pick_c f ok A n c Ak K ck (kindsL K) wr HN.out (H1.out.frame (fun j _ hj => HB.out.block j hj) HB.out.size) HS.out (kindsL_len K) RK.out (by omega)).mono ?_
        rintro _ w2 ⟨v2, rfl, ho2, hb2⟩
        obtain ⟨A2, c2, rfl, -, -, r2⟩ := ho2.form (n := (pickT (kindsL K) f).2.len) rfl
        obtain ⟨m2, em2⟩ : ∃ m2, m2 = (pickT (kindsL K) f).2.len := ⟨_, rfl⟩
        obtain ⟨E2, eE2⟩ : ∃ E2, E2 = (pickT (kindsL K) f).1 := ⟨_, rfl⟩
        rw [← em2, ← eE2]
        have hb3 : Below w.heap.size w w2 := HB.out.trans (hb2.mono hsz)
        have hb4 : Below w2.heap.size w2 (w2.alloc (.cells #[.slice A2 m2 c2, .int .i64 0, .int .i64 (E2 : Int)] 103)) := (Below.refl _ _).alloc (Nat.le_refl _) _
        have HP : Hid (Flds (w2.alloc (.cells #[.slice A2 m2 c2, .int .i64 0, .int .i64 (E2 : Int)] 103)) w2.heap.size A2 m2 c2 S) := Lib.hid (by
          rw [← ES.out, knS, if_neg (by rw [HE.out]; simp)]
          refine ⟨by rw [eE2]; exact heap_alloc_new w2 _, em2.symm, (r2.weak (ok' := fun j => j ≠ w2.heap.size) (fun j _ hj => by omega)).frame (fun j _ hj => hb4.block j hj) hb4.size, ?_, by show 0 ≤ 1000; omega⟩
          exact Nat.le_trans (pickT_size _ _) HS.out)
        have HB3 := Lib.hid (hb3.alloc hb3.size (.cells #[.slice A2 m2 c2, .int .i64 0, .int .i64 (E2 : Int)] 103))
        have HZ : Hid (w.heap.size ≤ w2.heap.size) := Lib.hid hb3.size
        clear ho2 hb2 r2 em2 eE2 hb3 hb4
        go_wp2_with (fail)
        go_ret
        exact ⟨_, _, _, _, rfl, HZ.out, HP.out, HB3.out⟩
  · have e0 : (((e : Nat) : Int) != 0) = true := by rw [bne_iff_ne]; omega
    have eS : knS f K e = ⟨.nil, 0, e⟩ := if_pos he
    rw [eS]
    clear eS he
    have HP : Hid (Flds (w.alloc (.cells #[.slice none 0 0, .int .i64 0, .int .i64 (e : Int)] 103)) w.heap.size none 0 0 ⟨.nil, 0, e⟩) := Lib.hid ⟨heap_alloc_new w _, rfl, by unfold FoR; trivial, by simp [Fo.size], by show 0 ≤ 1000; omega⟩
    have HB := Lib.hid ((Below.refl w.heap.size w).alloc (Nat.le_refl _) (.cells #[.slice none 0 0, .int .i64 0, .int .i64 (e : Int)] 103))
    go_enter Try.func69, Try.ntmps69
    go_wp2_with (fail)
    go_ret
    exact ⟨_, _, _, _, rfl, Nat.le_refl _, HP.out, HB.out⟩
set_option maxRecDepth 100000 in
set_option maxHeartbeats 4000000 in
theorem open_c (bs : List UInt8) (A : Option Addr) (n c : Nat) (K : Nat) (w : World) (hn : bs.length = n) (hr : Rd w A (bs.map bv)) (hl : n ≤ 140737488355328) (hK : K ≤ 10) :
    Calls Try.prog 47 #[.slice A n c, .int .i64 (K : Int)] w fun r w' => ∃ p A' n' c', r = .returned (.pointer (some ⟨p, 0, none⟩)) ∧ w.heap.size ≤ p ∧ Flds w' p A' n' c' (opS bs K) ∧ Below w.heap.size w w' := by
  have HN := Lib.hid hn
  have HR := Lib.hid hr
  clear hn hr
  go_enter Try.func47, Try.ntmps47
  go_wp2_with (fail)
  refine (DecodeT_c bs A n c w HN.out HR.out hl).mono ?_
  rintro _ w1 ⟨v1, rfl, ho, hb⟩
  obtain ⟨A1, c1, rfl, -, -, r1⟩ := ho.form (n := (decT bs).2.len) rfl
  have R1 := Lib.hid r1
  have HB := Lib.hid hb
  clear ho r1 hb
  go_wp2_with (fail)
  refine (known_c (decT bs).2 _ A1 _ c1 K (decT bs).1 w1 rfl R1.out (Nat.le_trans (decT_size bs) (by decide)) hK).mono ?_
  rintro _ w2 ⟨p, A', n', c', rfl, hp, hf, hb2⟩
  have HF : Hid (Flds w2 p A' n' c' (opS bs K)) := Lib.hid hf
  have HP : Hid (w.heap.size ≤ p) := Lib.hid (Nat.le_trans HB.out.size hp)
  have HB2 := Lib.hid (HB.out.trans (hb2.mono HB.out.size))
  clear hp hf hb2
  go_wp2_with (fail)
  go_ret
  exact ⟨_, _, _, _, rfl, HP.out, HF.out, HB2.out⟩
end Go.Proofs.Ytcffinkkfdfcaaa

/- A region that draws its order and whose last operation waits for all others: the others by relations, the last one at the end. Conditions: each slot is written once; no operation ahead of the last one panics. -/
namespace Go.Proofs.Ytcffinkkfdfcaaa
open Go Go.RowKit

/-- A value built of parts. -/
theorem gives_build {P : Program} {o : Oper} {f : Nat → Value} {w : World} {K : Value → World → Prop} (t : TypeId) (parts : Array (Nat × Operand)) (ho : o.op = .build t parts) (cells : Array Value)
    (hf : P.built t (parts.map fun (i, x) => (i, evF f x)).toList = some cells) (hK : K (.agg cells) w) : Gives P o f w K := by
  refine gives_val (v := .agg cells) ?_ hK
  unfold execOp
  simp only [ho]
  rw [Sem.run_bind, run_build w t _ cells hf]
  rfl

/-- A row of cells loaded whole. -/
theorem gives_load_row {P : Program} {o : Oper} {f : Nat → Value} {w : World} {K : Value → World → Prop} (ty : TypeId) (x : Operand) (ho : o.op = .load ty x)
    (g : Nat) (hx : evF f x = .pointer (some ⟨g, 0, none⟩)) (t : TypeId) (cs : Array Value) (fr : Nat × Nat) (d : TypeDesc) (hg : w.heap[g]? = some (.cells cs t fr))
    (hu : P.underlying ty = some d) (hd : (match d with | .struct _ | .array _ _ => true | _ => false) = true) (hi : (P.info? ty).map (·.size) = some cs.size) (hK : K (.agg cs) w) : Gives P o f w K := by
  refine gives_val (v := .agg cs) ?_ hK
  unfold execOp
  simp only [ho, hx, Instr.loadAt, Instr.sureAddr, Sem.run_bind, Sem.run_pure, Result.andThen_ok, run_loadVar_row w g t ty cs fr d hg hu hd hi]

/-- The operations that these wait for. -/
def ups (ops : Array Oper) : Nat → List Nat → List Nat
  | 0, S => S
  | k + 1, S => ups ops k (S ++ (List.range ops.size).filter (fun j => S.any (fun i => depOn ops i j) && !S.contains j))
def waitsAll (ops : Array Oper) (m : Nat) : Bool := (List.range m).all (fun j => (ups ops m [m]).contains j)
theorem ups_in (ops : Array Oper) (T : Nat → Prop) (hc : ∀ i j, T i → depOn ops i j = true → T j) : ∀ (k : Nat) (S : List Nat), (∀ j ∈ S, T j) → ∀ j ∈ ups ops k S, T j
  | 0, _, h, j, hj => h j hj
  | k + 1, S, h, j, hj => by
    refine ups_in ops T hc k _ (fun x hx => ?_) j hj
    rcases List.mem_append.1 hx with hx | hx
    · exact h x hx
    · have h1 := (List.mem_filter.1 hx).2
      simp only [Bool.and_eq_true, List.any_eq_true] at h1
      obtain ⟨⟨i, hi, hd⟩, _⟩ := h1
      exact hc i x (h i hi) hd

section
variable {P : Program} {ops : Array Oper} {G : World → World → Prop} {R : Nat → World → Value → Prop} {a0 : Act} {W0 : World}
theorem wp_region_rel_last (n m : Nat) {id : Nat} {Q : Exit → Act → World → Prop} {a : Act} {w : World} (hm : P.follows .mixedOrders = true) (hn : a.tmps.size = n) (hok : slotsOk ops n = true)
    (hsz : ops.size = m + 1) (hwa : waitsAll ops m = true) (ol : Oper) (hol : ops[m]? = some ol) (hgd : ol.guard = none)
    (G : World → World → Prop) (R : Nat → World → Value → Prop) (hr : ∀ w, G w w) (ht : ∀ {a b c}, G a b → G b c → G a c) (hmo : ∀ j {a b v}, R j a v → G a b → R j b v)
    (step : ∀ (i : Nat) (o : Oper), i < m → ops[i]? = some o → ∀ (f : Nat → Value) (w' : World), G w.drew w' → (∀ t, writes ops t = false → f t = a.tmps.getD t undef) →
      (∀ j d, depOn ops i j = true → dstOf ops j = some d → R j w' (f d)) → if Region.wanted o (yieldedF ops f) = true then Gives P o f w' (fun v w'' => G w' w'' ∧ R i w'' v) else R i w' undef)
    (fin : ∀ (f : Nat → Value) (w' : World), G w.drew w' → (∀ t, writes ops t = false → f t = a.tmps.getD t undef) → (∀ j d, j < m → dstOf ops j = some d → R j w' (f d)) → wpList P ops Q [ol] ⟨((List.range n).map f).toArray, a.defers⟩ w') :
    (Code.region id ops true).wp P Q a w := by
  refine wp_region_any hm ?_
  have fulls : ∀ (listed : Array Bool), (∀ i, i < ops.size → listed.getD i false = true) → listed.size = ops.size → Region.ready .any ops listed = [] := by
    intro listed hall hls
    apply List.eq_nil_iff_forall_not_mem.2
    intro i hi
    obtain ⟨h1, o, ho, _⟩ := mem_ready.1 hi
    have hlt : i < ops.size := (Array.getElem?_eq_some_iff.1 ho).1
    have h2 := hall i hlt
    have : i < listed.size := by rw [hls]; exact hlt
    simp [this] at h1 h2
    rw [h1] at h2; cases h2
  have full : ∀ (fuel : Nat) (listed : Array Bool) (b : Act) (v : World), (∀ i, i < ops.size → listed.getD i false = true) → listed.size = ops.size → Q .normal b v → wpAny P .any ops Q fuel listed b v := by
    intro fuel listed b v hall hls hq
    have h0 := fulls listed hall hls
    cases fuel with
    | zero => exact ⟨h0, hq⟩
    | succ k => exact ⟨fun _ => hq, fun i hi => by rw [h0] at hi; cases hi⟩
  have key : ∀ (fuel : Nat) (listed : Array Bool) (b : Act) (v : World), RInv ops G R a w.drew listed b v → (∀ i j, listed.getD i false = true → depOn ops i j = true → listed.getD j false = true) → listed.getD m false = false →
      ((List.range ops.size).countP (fun i => listed.getD i false == false)) ≤ fuel → wpAny P .any ops Q fuel listed b v := by
    have mready : ∀ (listed : Array Bool), listed.size = ops.size → listed.getD m false = false → Region.ready .any ops listed ≠ [] := by
      intro listed hls hml h0
      have all : ∀ i, i < ops.size → listed.getD i false = true := by
        intro i
        induction i using Nat.strongRecOn with
        | _ i ih =>
          intro hi
          cases hc : listed.getD i false with
          | true => rfl
          | false =>
            have hmem : i ∈ Region.ready .any ops listed := by
              refine mem_ready.2 ⟨?_, ops[i], by simp [hi], fun e he hb => ?_⟩
              · have : i < listed.size := by rw [hls]; exact hi
                simp [this] at hc ⊢
                exact hc
              · have hlt := slotsOk_back hok (i := i) (o := ops[i]) (by simp [hi]) e he hb
                exact ih e.on hlt (by omega)
            rw [h0] at hmem; cases hmem
      have := all m (by omega)
      rw [hml] at this; cases this
    intro fuel
    induction fuel with
    | zero =>
      intro listed b v h _ hml hc
      have := List.countP_eq_zero.1 (Nat.le_zero.1 hc) m (List.mem_range.2 (by omega))
      rw [hml] at this
      exact absurd rfl this
    | succ fuel ih =>
      intro listed b v h hcl hml hc
      refine ⟨fun h0 => absurd h0 (mready listed h.lsize hml), fun i hi => ?_⟩
      obtain ⟨h1, o, ho, hall⟩ := mem_ready.1 hi
      have hlt : i < ops.size := (Array.getElem?_eq_some_iff.1 ho).1
      have hls : i < listed.size := by rw [h.lsize]; exact hlt
      have h2 : listed.getD i false = false := by
        simp [hls] at h1 ⊢
        exact h1
      have hdep : ∀ j, depOn ops i j = true → listed.getD j false = true := by
        intro j hj
        unfold depOn at hj
        rw [ho] at hj
        obtain ⟨q, hq, hb⟩ := Array.any_eq_true.1 hj
        have he : o.after[q] ∈ o.after := Array.getElem_mem hq
        generalize o.after[q] = e at he hb
        simp only [Bool.and_eq_true, beq_iff_eq] at hb
        have := hall e he hb.1
        rw [hb.2] at this
        exact this
      have hcl' : ∀ p j, (listed.setIfInBounds i true).getD p false = true → depOn ops p j = true → (listed.setIfInBounds i true).getD j false = true := by
        intro p j hp hd
        have h3 : listed.getD j false = true := by
          by_cases e : i = p
          · subst e; exact hdep j hd
          · exact hcl p j (by rw [← hp]; simp [Array.getElem?_setIfInBounds_ne e]) hd
        by_cases e : i = j
        · subst e; simp [hls]
        · rw [← h3]; simp [Array.getElem?_setIfInBounds_ne e]
      have hcnt : (List.range ops.size).countP (fun k => (listed.setIfInBounds i true).getD k false == false) ≤ fuel := by
        have hsub : (List.range ops.size).countP (fun k => (listed.setIfInBounds i true).getD k false == false) < (List.range ops.size).countP (fun k => listed.getD k false == false) := by
          have gen : ∀ (l : List Nat), i ∈ l → l.countP (fun k => (listed.setIfInBounds i true).getD k false == false) < l.countP (fun k => listed.getD k false == false) := by
            have le : ∀ (l : List Nat), l.countP (fun k => (listed.setIfInBounds i true).getD k false == false) ≤ l.countP (fun k => listed.getD k false == false) := by
              intro l
              apply List.countP_mono_left
              intro k _ hk
              by_cases e : i = k
              · subst e; simp [hls] at hk
              · simpa [Array.getElem?_setIfInBounds_ne e] using hk
            intro l hl
            induction l with
            | nil => cases hl
            | cons k l ihl =>
              by_cases e : i = k
              · subst e
                have := le l
                have h2' : (listed.getD i false == false) = true := by rw [h2]; rfl
                rw [List.countP_cons_of_pos (p := fun k => listed.getD k false == false) (by exact h2'), List.countP_cons_of_neg (by simp [hls])]
                omega
              · have hl' : i ∈ l := by
                  rcases List.mem_cons.1 hl with h | h
                  · exact absurd h e
                  · exact h
                have := ihl hl'
                have e2 : (listed.setIfInBounds i true).getD k false = listed.getD k false := by simp [Array.getElem?_setIfInBounds_ne e]
                rw [List.countP_cons, List.countP_cons, e2]
                omega
          exact gen _ (List.mem_range.2 hlt)
        omega
      by_cases him : i = m
      · -- the last one
        subst him
        rw [hol] at ho
        injection ho with ho
        subst ho
        have others : ∀ j, j < i → listed.getD j false = true := by
          intro j hj
          have h4 := List.all_eq_true.1 hwa j (List.mem_range.2 hj)
          have h5 := ups_in ops (fun x => x = i ∨ listed.getD x false = true) (fun p q hp hd => by
            rcases hp with rfl | hp
            · exact .inr (hdep q hd)
            · exact .inr (hcl p q hp hd)) i [i] (fun x hx => .inl (by simpa using hx)) j (by simpa using h4)
          rcases h5 with h5 | h5
          · omega
          · exact h5
        have hallL : ∀ k, k < ops.size → (listed.setIfInBounds i true).getD k false = true := by
          intro k hk
          by_cases e : i = k
          · subst e; simp [hls]
          · rw [← others k (by omega)]; simp [Array.getElem?_setIfInBounds_ne e]
        have hb : b = ⟨((List.range n).map (fun t => b.tmps.getD t undef)).toArray, a.defers⟩ := by
          have hs : b.tmps.size = n := h.size.trans hn
          have e : b.tmps = ((List.range n).map (fun t => b.tmps.getD t undef)).toArray := by
            apply Array.ext
            · simp [hs]
            · intro i h1 h2
              simp [h1]
          rw [← h.defers, ← e]
        have hf := fin (fun t => b.tmps.getD t undef) v h.grow h.frame (fun j d hj hd => h.rel j d (others j hj) hd)
        rw [← hb] at hf
        unfold wpOp
        simp only [hol]
        unfold wpList at hf
        rw [if_pos (wanted_none hgd)] at hf ⊢
        exact hf.imp (Oper.wp_mono (fun b' v' hq => full fuel _ b' v' hallL (by simp [h.lsize]) hq)) (fun h => h)
      · have hml' : (listed.setIfInBounds i true).getD m false = false := by
          have e : (listed.setIfInBounds i true).getD m false = listed.getD m false := by simp [Array.getElem?_setIfInBounds_ne him]
          rw [e]; exact hml
        have hs := step i o (by omega) ho (fun t => b.tmps.getD t undef) v h.grow h.frame (fun j d hj hd => h.rel j d (hdep j hj) hd)
        unfold wpOp
        simp only [ho]
        rw [yielded_eqF hok b (h.size.trans hn)]
        split
        · rename_i hw
          rw [if_pos hw] at hs
          refine .inl (Gives.wp ?_)
          unfold Gives at hs ⊢
          generalize (execOp (evF fun t => b.tmps.getD t undef) o).run P v = r at hs
          cases r with
          | ok nx w' =>
            cases nx <;> simp only at hs ⊢
            case value u => exact ih _ _ _ (h.put ho hok hn ht hmo hs.1 hs.2 hlt) hcl' hml' hcnt
            case skip => exact ih _ _ _ (h.put ho hok hn ht hmo hs.1 hs.2 hlt) hcl' hml' hcnt
            case enter k args => exact Calls.mono hs fun e w'' ⟨u, he, hg, hR⟩ => ⟨u, he, ih _ _ _ (h.put ho hok hn ht hmo hg hR hlt) hcl' hml' hcnt⟩
          | halt x w' => exact hs.elim
        · rename_i hw
          rw [if_neg hw] at hs
          exact ih _ _ _ (h.put ho hok hn ht hmo (hr v) hs hlt) hcl' hml' hcnt
  have none0 : ∀ i, (Array.replicate ops.size false).getD i false = false := by
    intro i
    by_cases h : i < ops.size
    · simp [h]
    · simp [h]
  refine key ops.size _ a _ ⟨hr _, rfl, rfl, by simp, fun t _ => rfl, fun j d hl hd => ?_⟩ (fun i j hi _ => ?_) (none0 m) ?_
  · rw [none0] at hl; cases hl
  · rw [none0] at hi; cases hi
  · refine Nat.le_trans List.countP_le_length ?_
    simp
end

theorem AllFrom.outlt {Pr : Nat → Oper → Prop} (l l2 : List Oper) (h : AllFrom Pr 0 l) : ∀ i o, i < l.length → (l ++ l2)[i]? = some o → Pr i o := by
  intro i o hi ho
  rw [List.getElem?_append_left hi] at ho
  have := AllFrom.out l 0 h i o ho
  rwa [Nat.zero_add] at this
/-- THE LAW, the last operation apart: the frame told by the slots that are written. -/
theorem wp_region_rs {P : Program} (n m : Nat) (l : List Rl) (ws : List Nat) {id : Nat} {os : List Oper} {Q : Exit → Act → World → Prop} {a : Act} {w : World} (hm : P.follows .mixedOrders = true) (hn : a.tmps.size = n) (hok : slotsOk os.toArray n = true) (hws : allIn os.toArray ws = true)
    (o : Oper) (hos : os = os.take m ++ [o]) (hml : (os.take m).length = m) (hwa : waitsAll os.toArray m = true) (hgd : o.guard = none)
    (steps : AllFrom (Stp P os.toArray a w.drew l) 0 (os.take m))
    (fin : ∀ (f : Nat → Value) (w' : World), Gr w.drew w' → (∀ j d, j < m → dstOf os.toArray j = some d → relOf l j w' (f d)) → (∀ t, writes os.toArray t = false → f t = a.tmps.getD t undef) → wpList P os.toArray Q [o] ⟨putAll f ws a.tmps, a.defers⟩ w') :
    (Code.region id os.toArray true).wp P Q a w := by
  have hl : os.length = m + 1 := by rw [hos, List.length_append, hml]; rfl
  refine wp_region_rel_last n m hm hn hok (by simpa using hl) hwa o (by rw [List.getElem?_toArray, hos, List.getElem?_append_right (by omega), hml]; simp) hgd Gr (relOf l) Gr.refl Gr.trans (fun j _ _ _ h g => (l.getD j Rl.any).mono h g) (fun i o' hi ho => ?_) (fun f w' g hF hD => ?_)
  · refine AllFrom.outlt (os.take m) [o] steps i o' (by omega) ?_
    rw [← hos]
    simpa using ho
  · have e : ((List.range n).map f).toArray = putAll f ws a.tmps := by
      apply Array.ext
      · rw [putAll_size, hn]; simp
      · intro t h1 h2
        have ht : t < n := by simpa using h1
        have h3 := putAll_get f ws a.tmps t (by rw [hn]; exact ht) (by
          by_cases hw : writes os.toArray t = true
          · left
            obtain ⟨j, hj, hd⟩ := List.any_eq_true.1 hw
            have hd := beq_iff_eq.1 hd
            have := List.all_eq_true.1 hws j hj
            rw [hd] at this
            simpa using this
          · right
            exact (hF t (by simpa using hw)).symm)
        have h4 : (putAll f ws a.tmps)[t] = f t := by
          rw [← h3]; simp [h2]
        rw [h4]; simp
    rw [e]
    exact fin f w' g hD hF
end Go.Proofs.Ytcffinkkfdfcaaa

/- A region that draws its order, told by the values that its operations yield and by what becomes of the world, whatever the order. Conditions: each slot is written once; no operation panics. -/
namespace Go.Proofs.Ytcffinkkfdfcaaa
open Go Go.RowKit

/-- One operation's step. -/
def StpV (P : Program) (ops : Array Oper) (a : Act) (W : World) (G : World → World → Prop) (vals : List Value) (i : Nat) (o : Oper) : Prop :=
  ∀ (f : Nat → Value) (w : World), G W w → (∀ t, writes ops t = false → f t = a.tmps.getD t undef) →
      (∀ j d, depOn ops i j = true → dstOf ops j = some d → f d = vals.getD j undef) → if Region.wanted o (yieldedF ops f) = true then Gives P o f w (fun v w'' => G w w'' ∧ v = vals.getD i undef) else undef = vals.getD i undef
/-- THE LAW. -/
theorem wp_region_rv {P : Program} (n : Nat) (G : World → World → Prop) (vals : List Value) (ws : List Nat) {id : Nat} {os : List Oper} {Q : Exit → Act → World → Prop} {a : Act} {w : World} (hm : P.follows .mixedOrders = true) (hn : a.tmps.size = n) (hok : slotsOk os.toArray n = true) (hws : allIn os.toArray ws = true)
    (hr : ∀ w, G w w) (ht : ∀ {a b c}, G a b → G b c → G a c)
    (steps : AllFrom (StpV P os.toArray a w.drew G vals) 0 os)
    (fin : ∀ (f : Nat → Value) (w' : World), G w.drew w' → (∀ j d, dstOf os.toArray j = some d → f d = vals.getD j undef) → Q .normal ⟨putAll f ws a.tmps, a.defers⟩ w') :
    (Code.region id os.toArray true).wp P Q a w := by
  refine wp_region_rel n hm hn hok G (fun j _ v => v = vals.getD j undef) hr ht (fun j _ _ _ h _ => h) (fun i o ho => ?_) (fun f w' g hF hD => ?_)
  · have := AllFrom.out os 0 steps i o (by simpa using ho)
    rw [Nat.zero_add] at this
    exact this
  have e : ((List.range n).map f).toArray = putAll f ws a.tmps := by
    apply Array.ext
    · rw [putAll_size, hn]; simp
    · intro t h1 h2
      have ht : t < n := by simpa using h1
      have h3 := putAll_get f ws a.tmps t (by rw [hn]; exact ht) (by
        by_cases hw : writes os.toArray t = true
        · left
          obtain ⟨j, hj, hd⟩ := List.any_eq_true.1 hw
          have hd := beq_iff_eq.1 hd
          have := List.all_eq_true.1 hws j hj
          rw [hd] at this
          simpa using this
        · right
          exact (hF t (by simpa using hw)).symm)
      have h4 : (putAll f ws a.tmps)[t] = f t := by
        rw [← h3]; simp [h2]
      rw [h4]; simp
  rw [e]
  exact fin f w' g hD
/-- A whole row stored. -/
theorem gives_store_row {P : Program} {o : Oper} {f : Nat → Value} {w : World} {K : Value → World → Prop} (ty : TypeId) (x y : Operand) (ho : o.op = .store ty x y)
    (g : Nat) (cells : Array Value) (hx : evF f x = .pointer (some ⟨g, 0, none⟩)) (hy : evF f y = .agg cells)
    (t : TypeId) (old : Array Value) (hg : w.heap[g]? = some (.cells old t (0, 0))) (hi : (P.info? ty).map (·.size) = some cells.size)
    (hold : old.size = cells.size) (h1 : cells.all (·.oneCell') = true) (hK : K undef (w.setRow g cells)) : Gives P o f w K := by
  unfold Gives execOp
  simp only [ho, hx, hy, Instr.storeAt, Instr.sureAddr, Sem.run_bind, Sem.run_pure, Result.andThen_ok, run_storeVar_row w g t ty old cells hg hi hold h1]
  exact hK
/-- Only block g has turned, and it still holds these cells if it did. -/
def Zg (g : Nat) (o : Obj) (a b : World) : Prop := Keeps (fun j => j = g) a b ∧ (a.heap[g]? = some o → b.heap[g]? = some o)
theorem Zg.refl (g : Nat) (o : Obj) (w : World) : Zg g o w w := ⟨Keeps.refl _ _, id⟩
theorem Zg.trans {g : Nat} {o : Obj} {a b c : World} (h : Zg g o a b) (k : Zg g o b c) : Zg g o a c := ⟨h.1.trans k.1, fun e => k.2 (h.2 e)⟩
theorem Zg.row {g : Nat} {cs old : Array Value} {t : TypeId} {w : World} (h : w.heap[g]? = some (.cells old t (0, 0))) : Zg g (.cells cs t (0, 0)) w (w.setRow g cs) :=
  ⟨⟨rfl, rfl, rfl, by rw [show (w.setRow g cs).heap.size = w.heap.size from by simp [World.setRow]]; exact Nat.le_refl _, fun k _ hk => setRow_other w g k cs hk⟩, fun _ => setRow_heap w g old cs t _ h⟩
theorem Zg.cell {g : Nat} {o : Obj} {a b : World} (h : Zg g o a b) {p i : Nat} {v : Value} (hp : p ≠ g) (hl : p < a.heap.size) (hc : a.cell? ⟨p, i, none⟩ = some v) : b.cell? ⟨p, i, none⟩ = some v :=
  (World.cell?_of_block (w := a) (a := ⟨p, i, none⟩) (h.1.block p hl hp)).trans hc
end Go.Proofs.Ytcffinkkfdfcaaa

/- A region that draws its order and ends in a tail that waits for all others: the others by relations, the tail one behind the other. Conditions: each slot is written once; no operation ahead of the tail panics. -/
namespace Go.Proofs.Ytcffinkkfdfcaaa
open Go Go.RowKit

/-- Slots that operations ahead of number m write. -/
def writesTo (ops : Array Oper) (m t : Nat) : Bool := (List.range m).any (fun j => dstOf ops j == some t)
structure RInvT (ops : Array Oper) (m : Nat) (G : World → World → Prop) (R : Nat → World → Value → Prop) (a0 : Act) (W0 : World) (listed : Array Bool) (a : Act) (w : World) : Prop where
  grow : G W0 w
  defers : a.defers = a0.defers
  size : a.tmps.size = a0.tmps.size
  lsize : listed.size = ops.size
  frame : ∀ t, writesTo ops m t = false → a.tmps.getD t undef = a0.tmps.getD t undef
  rel : ∀ j d, listed.getD j false = true → dstOf ops j = some d → R j w (a.tmps.getD d undef)
theorem RInvT.put {ops : Array Oper} {m : Nat} {G : World → World → Prop} {R : Nat → World → Value → Prop} {a0 : Act} {W0 : World} {listed : Array Bool} {a : Act} {w w' : World} {i : Nat} {o : Oper} {v : Value} {n : Nat} (him : i < m) (ho : ops[i]? = some o) (hok : slotsOk ops n = true) (hn : a0.tmps.size = n) (h : RInvT ops m G R a0 W0 listed a w)
    (ht : ∀ {a b c}, G a b → G b c → G a c) (hm : ∀ j {a b v}, R j a v → G a b → R j b v) (hg : G w w') (hr : R i w' v) (hi : i < ops.size) : RInvT ops m G R a0 W0 (listed.setIfInBounds i true) (a.put o.dst v) w' := by
  have hdo : dstOf ops i = o.dst := by unfold dstOf; rw [ho]; rfl
  have get : ∀ t, (a.put o.dst v).tmps.getD t undef = if o.dst = some t ∧ t < n then v else a.tmps.getD t undef := by
    intro t
    unfold Act.put
    cases hd : o.dst with
    | none => simp
    | some d =>
      by_cases e : d = t
      · subst e
        have hlt : d < n := slotsOk_lt hok (hdo.trans hd)
        have hlt2 : d < a.tmps.size := by rw [h.size, hn]; exact hlt
        simp [hlt, hlt2]
      · simp [e, Array.getElem?_setIfInBounds_ne e]
  refine ⟨ht h.grow hg, ?_, ?_, by simp [h.lsize], fun t hw => ?_, fun j d hl hd => ?_⟩
  · rw [← h.defers]; unfold Act.put; cases o.dst <;> rfl
  · rw [← h.size]; unfold Act.put; cases o.dst <;> simp
  · rw [get, if_neg, h.frame t hw]
    rintro ⟨e, _⟩
    have : writesTo ops m t = true := List.any_eq_true.2 ⟨i, List.mem_range.2 him, by rw [hdo, e]; exact beq_self_eq_true _⟩
    rw [hw] at this; cases this
  · rw [get]
    by_cases hji : j = i
    · subst hji
      rw [if_pos ⟨hdo.symm.trans hd, slotsOk_lt hok hd⟩]
      exact hr
    · rw [if_neg]
      · refine hm j (h.rel j d ?_ hd) hg
        rw [← hl]
        simp [Array.getElem?_setIfInBounds_ne (Ne.symm hji)]
      · rintro ⟨e, _⟩
        exact hji (slotsOk_ne hok hd (hdo.trans e))
/-- One operation's step, ahead of the tail. -/
def StpT (P : Program) (ops : Array Oper) (m : Nat) (a : Act) (W : World) (l : List Rl) (i : Nat) (o : Oper) : Prop :=
  ∀ (f : Nat → Value) (w : World), Gr W w → (∀ t, writesTo ops m t = false → f t = a.tmps.getD t undef) →
      (∀ j d, depOn ops i j = true → dstOf ops j = some d → relOf l j w (f d)) → if Region.wanted o (yieldedF ops f) = true then Gives P o f w (fun v w'' => Gr w w'' ∧ relOf l i w'' v) else relOf l i w undef

/-- From m on each operation waits for the one ahead of it. -/
def chained (ops : Array Oper) (m : Nat) : Bool := (List.range ops.size).all (fun j => decide (j ≤ m) || depOn ops j (j - 1))
section
variable {P : Program} {ops : Array Oper} {Q : Exit → Act → World → Prop}
theorem not_ready_of {listed : Array Bool} {i : Nat} (hi : i ∈ Region.ready .any ops listed) : ∀ j, depOn ops i j = true → listed.getD j false = true := by
  obtain ⟨h1, o, ho, hall⟩ := mem_ready.1 hi
  intro j hj
  unfold depOn at hj
  rw [ho] at hj
  obtain ⟨q, hq, hb⟩ := Array.any_eq_true.1 hj
  have he : o.after[q] ∈ o.after := Array.getElem_mem hq
  generalize o.after[q] = e at he hb
  simp only [Bool.and_eq_true, beq_iff_eq] at hb
  have := hall e he hb.1
  rw [hb.2] at this
  exact this
theorem ready_open {listed : Array Bool} {i : Nat} (hls : listed.size = ops.size) (hi : i ∈ Region.ready .any ops listed) : listed.getD i false = false ∧ i < ops.size := by
  obtain ⟨h1, o, ho, _⟩ := mem_ready.1 hi
  have hlt : i < ops.size := (Array.getElem?_eq_some_iff.1 ho).1
  have : i < listed.size := by rw [hls]; exact hlt
  simp [this] at h1 ⊢
  exact ⟨h1, hlt⟩
theorem ready_mk {n : Nat} (hok : slotsOk ops n = true) {listed : Array Bool} (hls : listed.size = ops.size) {i : Nat} (hi : i < ops.size) (h0 : listed.getD i false = false) (hall : ∀ j, j < i → listed.getD j false = true) : i ∈ Region.ready .any ops listed := by
  refine mem_ready.2 ⟨?_, ops[i], by simp [hi], fun e he hb => ?_⟩
  · have : i < listed.size := by rw [hls]; exact hi
    simp [this] at h0 ⊢
    exact h0
  · have hlt := slotsOk_back hok (i := i) (o := ops[i]) (by simp [hi]) e he hb
    exact hall e.on hlt
theorem set_get (listed : Array Bool) (i j : Nat) (hls : i < listed.size) : (listed.setIfInBounds i true).getD j false = if i = j then true else listed.getD j false := by
  split
  · rename_i e; subst e; simp [hls]
  · rename_i e; simp [Array.getElem?_setIfInBounds_ne e]

theorem tailAny {n m : Nat} (hok : slotsOk ops n = true) (hch : chained ops m = true) : ∀ (r fuel : Nat) (listed : Array Bool) (b : Act) (v : World), listed.size = ops.size → r ≤ ops.size → m ≤ ops.size - r →
    (∀ i, i < ops.size → (listed.getD i false = true ↔ i < ops.size - r)) → r ≤ fuel → wpList P ops Q (ops.toList.drop (ops.size - r)) b v → wpAny P .any ops Q fuel listed b v := by
  intro r
  induction r with
  | zero =>
    intro fuel listed b v hls _ _ hl _ hq
    have h0 : Region.ready .any ops listed = [] := by
      apply List.eq_nil_iff_forall_not_mem.2
      intro i hi
      obtain ⟨h1, h2⟩ := ready_open hls hi
      have := (hl i h2).2 (by omega)
      rw [h1] at this; cases this
    have hq' : Q .normal b v := by
      rw [Nat.sub_zero, List.drop_of_length_le (by simp)] at hq
      exact hq
    cases fuel with
    | zero => exact ⟨h0, hq'⟩
    | succ k => exact ⟨fun _ => hq', fun i hi => by rw [h0] at hi; cases hi⟩
  | succ r ih =>
    intro fuel listed b v hls hr hm hl hf hq
    obtain ⟨j, ej⟩ : ∃ j, j = ops.size - (r + 1) := ⟨_, rfl⟩
    have hj : j < ops.size := by omega
    have hj0 : listed.getD j false = false := by
      cases h : listed.getD j false
      · rfl
      · have := (hl j hj).1 h; omega
    have hjr : j ∈ Region.ready .any ops listed := ready_mk hok hls hj hj0 (fun i hi => (hl i (by omega)).2 (by omega))
    cases fuel with
    | zero => omega
    | succ k =>
      refine ⟨fun h0 => (by rw [h0] at hjr; cases hjr), fun i hi => ?_⟩
      obtain ⟨h1, h2⟩ := ready_open hls hi
      have hij : i = j := by
        have hge : j ≤ i := by
          rcases Nat.lt_or_ge i j with h | h
          · have := (hl i h2).2 (by omega)
            rw [h1] at this; cases this
          · exact h
        rcases Nat.eq_or_lt_of_le hge with h | h
        · exact h.symm
        · have h3 := List.all_eq_true.1 hch i (List.mem_range.2 h2)
          simp only [Bool.or_eq_true, decide_eq_true_eq] at h3
          rcases h3 with h3 | h3
          · omega
          · have h4 := not_ready_of hi (i - 1) h3
            have := (hl (i - 1) (by omega)).1 h4
            omega
      subst hij
      have hd : ops.toList.drop i = ops[i] :: ops.toList.drop (i + 1) := by
        rw [List.drop_eq_getElem_cons (by simpa using hj)]
        simp
      rw [← ej, hd] at hq
      have hw : wpOp P ops Q i (wpList P ops Q (ops.toList.drop (i + 1))) b v := by
        unfold wpOp
        rw [Array.getElem?_eq_getElem hj]
        exact hq
      refine wpOp_mono (fun b' v' hq' => ih k _ b' v' (by simpa using hls) (by omega) (by omega) (fun q hqs => ?_) (by omega) ?_) hw
      · rw [set_get _ _ _ (by rw [hls]; exact hj)]
        split
        · simp; omega
        · rw [hl q hqs]; omega
      · rw [show ops.size - r = i + 1 by omega]; exact hq'

variable {G : World → World → Prop} {R : Nat → World → Value → Prop} {a0 : Act} {W0 : World}
theorem wp_region_rel_tail (n m : Nat) {id : Nat} {a : Act} {w : World} (hm : P.follows .mixedOrders = true) (hn : a.tmps.size = n) (hok : slotsOk ops n = true)
    (hsz : m < ops.size) (hwa : waitsAll ops m = true) (hch : chained ops m = true)
    (G : World → World → Prop) (R : Nat → World → Value → Prop) (hr : ∀ w, G w w) (ht : ∀ {a b c}, G a b → G b c → G a c) (hmo : ∀ j {a b v}, R j a v → G a b → R j b v)
    (step : ∀ (i : Nat) (o : Oper), i < m → ops[i]? = some o → ∀ (f : Nat → Value) (w' : World), G w.drew w' → (∀ t, writesTo ops m t = false → f t = a.tmps.getD t undef) →
      (∀ j d, depOn ops i j = true → dstOf ops j = some d → R j w' (f d)) → if Region.wanted o (yieldedF ops f) = true then Gives P o f w' (fun v w'' => G w' w'' ∧ R i w'' v) else R i w' undef)
    (fin : ∀ (f : Nat → Value) (w' : World), G w.drew w' → (∀ t, writesTo ops m t = false → f t = a.tmps.getD t undef) → (∀ j d, j < m → dstOf ops j = some d → R j w' (f d)) → wpList P ops Q (ops.toList.drop m) ⟨((List.range n).map f).toArray, a.defers⟩ w') :
    (Code.region id ops true).wp P Q a w := by
  refine wp_region_any hm ?_
  have key : ∀ (fuel : Nat) (listed : Array Bool) (b : Act) (v : World), RInvT ops m G R a w.drew listed b v → (∀ i j, listed.getD i false = true → depOn ops i j = true → listed.getD j false = true) → (∀ i, m ≤ i → i < ops.size → listed.getD i false = false) →
      ((List.range ops.size).countP (fun i => listed.getD i false == false)) ≤ fuel → wpAny P .any ops Q fuel listed b v := by
    intro fuel
    induction fuel with
    | zero =>
      intro listed b v h _ hml hc
      have := List.countP_eq_zero.1 (Nat.le_zero.1 hc) m (List.mem_range.2 hsz)
      rw [hml m (Nat.le_refl _) hsz] at this
      exact absurd rfl this
    | succ fuel ih =>
      intro listed b v h hcl hml hc
      by_cases hall : ∀ i, i < m → listed.getD i false = true
      · have hcount : ops.size - m ≤ fuel + 1 := by
          refine Nat.le_trans ?_ hc
          have e : (List.range ops.size) = List.range m ++ (List.range (ops.size - m)).map (m + ·) := by
            rw [← List.range_add]; congr 1; omega
          rw [e, List.countP_append]
          have : ((List.range (ops.size - m)).map (m + ·)).countP (fun i => listed.getD i false == false) = ops.size - m := by
            rw [List.countP_eq_length.2]
            · simp
            · intro i hi
              obtain ⟨q, hq, rfl⟩ := List.mem_map.1 hi
              have := List.mem_range.1 hq
              rw [hml (m + q) (by omega) (by omega)]
              rfl
          omega
        have hb : b = ⟨((List.range n).map (fun t => b.tmps.getD t undef)).toArray, a.defers⟩ := by
          have hs : b.tmps.size = n := h.size.trans hn
          have e : b.tmps = ((List.range n).map (fun t => b.tmps.getD t undef)).toArray := by
            apply Array.ext
            · simp [hs]
            · intro i h1 h2
              simp [h1]
          rw [← h.defers, ← e]
        have hf := fin (fun t => b.tmps.getD t undef) v h.grow h.frame (fun j d hj hd => h.rel j d (hall j hj) hd)
        rw [← hb] at hf
        have e1 : ops.size - (ops.size - m) = m := by omega
        refine tailAny hok hch (ops.size - m) (fuel + 1) listed b v h.lsize (by omega) (by omega) (fun i hi => ?_) hcount (by rw [e1]; exact hf)
        rw [e1]
        constructor
        · intro h1
          rcases Nat.lt_or_ge i m with h2 | h2
          · exact h2
          · rw [hml i h2 hi] at h1; cases h1
        · exact hall i
      · have lessm : ∀ i, i ∈ Region.ready .any ops listed → i < m := by
          intro i hi
          obtain ⟨h1, h2⟩ := ready_open h.lsize hi
          rcases Nat.lt_trichotomy i m with h3 | h3 | h3
          · exact h3
          · exfalso
            subst h3
            apply hall
            intro j hj
            have h4 := List.all_eq_true.1 hwa j (List.mem_range.2 hj)
            have h5 := ups_in ops (fun x => x = i ∨ listed.getD x false = true) (fun p q hp hd => by
              rcases hp with rfl | hp
              · exact .inr (not_ready_of hi q hd)
              · exact .inr (hcl p q hp hd)) i [i] (fun x hx => .inl (by simpa using hx)) j (by simpa using h4)
            rcases h5 with h5 | h5
            · omega
            · exact h5
          · have h4 := List.all_eq_true.1 hch i (List.mem_range.2 h2)
            simp only [Bool.or_eq_true, decide_eq_true_eq] at h4
            rcases h4 with h4 | h4
            · omega
            · have h5 := not_ready_of hi (i - 1) h4
              rw [hml (i - 1) (by omega) (by omega)] at h5; cases h5
        refine ⟨fun h0 => ?_, fun i hi => ?_⟩
        · exfalso
          apply hall
          intro i
          induction i using Nat.strongRecOn with
          | _ i ih2 =>
            intro hi
            cases hc2 : listed.getD i false with
            | true => rfl
            | false =>
              have := ready_mk hok h.lsize (by omega : i < ops.size) hc2 (fun j hj => ih2 j hj (by omega))
              rw [h0] at this; cases this
        · have him := lessm i hi
          obtain ⟨h2, hlt⟩ := ready_open h.lsize hi
          obtain ⟨h1, o, ho, _⟩ := mem_ready.1 hi
          have hls : i < listed.size := by rw [h.lsize]; exact hlt
          have hdep := not_ready_of hi
          have hcl' : ∀ p j, (listed.setIfInBounds i true).getD p false = true → depOn ops p j = true → (listed.setIfInBounds i true).getD j false = true := by
            intro p j hp hd
            rw [set_get _ _ _ hls] at hp ⊢
            split
            · rfl
            · split at hp
              · rename_i e; subst e; exact hdep j hd
              · exact hcl p j hp hd
          have hml' : ∀ q, m ≤ q → q < ops.size → (listed.setIfInBounds i true).getD q false = false := by
            intro q h3 h4
            rw [set_get _ _ _ hls, if_neg (by omega)]
            exact hml q h3 h4
          have hcnt : (List.range ops.size).countP (fun k => (listed.setIfInBounds i true).getD k false == false) ≤ fuel := by
            have gen : ∀ (l : List Nat), i ∈ l → l.countP (fun k => (listed.setIfInBounds i true).getD k false == false) < l.countP (fun k => listed.getD k false == false) := by
              have le : ∀ (l : List Nat), l.countP (fun k => (listed.setIfInBounds i true).getD k false == false) ≤ l.countP (fun k => listed.getD k false == false) := by
                intro l
                apply List.countP_mono_left
                intro k _ hk
                rw [set_get _ _ _ hls] at hk
                split at hk
                · cases hk
                · exact hk
              intro l hl
              induction l with
              | nil => cases hl
              | cons k l ihl =>
                by_cases e : i = k
                · subst e
                  have := le l
                  have h2' : (listed.getD i false == false) = true := by rw [h2]; rfl
                  rw [List.countP_cons_of_pos (p := fun k => listed.getD k false == false) (by exact h2'), List.countP_cons_of_neg (by simp [hls])]
                  omega
                · have hl' : i ∈ l := by
                    rcases List.mem_cons.1 hl with h | h
                    · exact absurd h e
                    · exact h
                  have := ihl hl'
                  have e2 : (listed.setIfInBounds i true).getD k false = listed.getD k false := by rw [set_get _ _ _ hls, if_neg e]
                  rw [List.countP_cons, List.countP_cons, e2]
                  omega
            have := gen _ (List.mem_range.2 hlt)
            omega
          have hs := step i o him ho (fun t => b.tmps.getD t undef) v h.grow h.frame (fun j d hj hd => h.rel j d (hdep j hj) hd)
          unfold wpOp
          simp only [ho]
          rw [yielded_eqF hok b (h.size.trans hn)]
          split
          · rename_i hw
            rw [if_pos hw] at hs
            refine .inl (Gives.wp ?_)
            unfold Gives at hs ⊢
            generalize (execOp (evF fun t => b.tmps.getD t undef) o).run P v = r at hs
            cases r with
            | ok nx w' =>
              cases nx <;> simp only at hs ⊢
              case value u => exact ih _ _ _ (h.put him ho hok hn ht hmo hs.1 hs.2 hlt) hcl' hml' hcnt
              case skip => exact ih _ _ _ (h.put him ho hok hn ht hmo hs.1 hs.2 hlt) hcl' hml' hcnt
              case enter k args => exact Calls.mono hs fun e w'' ⟨u, he, hg, hR⟩ => ⟨u, he, ih _ _ _ (h.put him ho hok hn ht hmo hg hR hlt) hcl' hml' hcnt⟩
            | halt x w' => exact hs.elim
          · rename_i hw
            rw [if_neg hw] at hs
            exact ih _ _ _ (h.put him ho hok hn ht hmo (hr v) hs hlt) hcl' hml' hcnt
  have none0 : ∀ i, (Array.replicate ops.size false).getD i false = false := by
    intro i
    by_cases h : i < ops.size
    · simp [h]
    · simp [h]
  refine key ops.size _ a _ ⟨hr _, rfl, rfl, by simp, fun t _ => rfl, fun j d hl hd => ?_⟩ (fun i j hi _ => ?_) (fun i _ _ => none0 i) ?_
  · rw [none0] at hl; cases hl
  · rw [none0] at hi; cases hi
  · refine Nat.le_trans List.countP_le_length ?_
    simp
end

theorem AllFrom.outT {Pr : Nat → Oper → Prop} (l : List Oper) (m : Nat) (h : AllFrom Pr 0 (l.take m)) : ∀ i o, i < m → l[i]? = some o → Pr i o := by
  intro i o hi ho
  have h2 : (l.take m)[i]? = some o := by rw [List.getElem?_take, if_pos hi]; exact ho
  have := AllFrom.out _ 0 h i o h2
  rwa [Nat.zero_add] at this
/-- THE LAW, the tail apart: the frame told by the slots that are written. -/
theorem wp_region_rt {P : Program} (n m : Nat) (l : List Rl) (ws : List Nat) {id : Nat} {os : List Oper} {Q : Exit → Act → World → Prop} {a : Act} {w : World} (hm : P.follows .mixedOrders = true) (hn : a.tmps.size = n) (hok : slotsOk os.toArray n = true) (hws : allIn os.toArray ws = true)
    (hsz : m < os.toArray.size) (hwa : waitsAll os.toArray m = true) (hch : chained os.toArray m = true)
    (steps : AllFrom (StpT P os.toArray m a w.drew l) 0 (os.take m))
    (fin : ∀ (f : Nat → Value) (w' : World), Gr w.drew w' → (∀ j d, j < m → dstOf os.toArray j = some d → relOf l j w' (f d)) → wpList P os.toArray Q (os.drop m) ⟨putAll f ws a.tmps, a.defers⟩ w') :
    (Code.region id os.toArray true).wp P Q a w := by
  refine wp_region_rel_tail n m hm hn hok hsz hwa hch Gr (relOf l) Gr.refl Gr.trans (fun j _ _ _ h g => (l.getD j Rl.any).mono h g) (fun i o' hi ho => ?_) (fun f w' g hF hD => ?_)
  · exact AllFrom.outT os m steps i o' hi (by simpa using ho)
  · have e : ((List.range n).map f).toArray = putAll f ws a.tmps := by
      apply Array.ext
      · rw [putAll_size, hn]; simp
      · intro t h1 h2
        have ht : t < n := by simpa using h1
        have h3 := putAll_get f ws a.tmps t (by rw [hn]; exact ht) (by
          by_cases hw : writesTo os.toArray m t = true
          · left
            obtain ⟨j, hj, hd⟩ := List.any_eq_true.1 hw
            have hd := beq_iff_eq.1 hd
            have := List.all_eq_true.1 hws j (List.mem_range.2 (by have := List.mem_range.1 hj; omega))
            rw [hd] at this
            simpa using this
          · right
            exact (hF t (by simpa using hw)).symm)
        have h4 : (putAll f ws a.tmps)[t] = f t := by
          rw [← h3]; simp [h2]
        rw [h4]; simp
    rw [e]
    simpa using fin f w' g hD
/-- A slice of n bytes at a row's head. -/
def Rl.rdb (n : Nat) (bs : List UInt8) : Rl := ⟨fun w v => ∃ g, v = .slice (some ⟨g, 0, none⟩) n n ∧ Rd w (some ⟨g, 0, none⟩) (bs.map bv), fun ⟨g, h, r⟩ hb => ⟨g, h, r.below hb⟩⟩
theorem rdb_lit (w : World) (bs : List UInt8) (n : Nat) (t : TypeId) : (Rl.rdb n bs).R (w.alloc (.cells (bs.map bv).toArray t)) (.slice (some ⟨w.heap.size, 0, none⟩) n n) := ⟨_, rfl, Rd.lit w _ t⟩
end Go.Proofs.Ytcffinkkfdfcaaa

/- What GetHello answers: the Hello that bytes say, or an error. Conditions: bytes that can be read. -/
namespace Go.Proofs.Ytcffinkkfdfcaaa
open Go Go.RowKit

/-- A Hello's eighteen cells. -/
def helC (mx ft : Nat) (l : List UInt8) : List Value := .int .i64 (mx : Int) :: .int .u32 (ft : Int) :: l.map bv
def helV (mx ft : Nat) (l : List UInt8) : Value := .agg (helC mx ft l).toArray
structure Hel where
  mx : Nat
  ft : Nat
  nc : List UInt8
def Hel.val (h : Hel) : Value := helV h.mx h.ft h.nc
theorem keepsP_b {B p : Nat} {w a b : World} (h : Below B w a) (hk : Keeps (fun j => j = p) a b) (hp : B ≤ p) (hz : B ≤ w.heap.size) : Below B w b :=
  h.trans (hk.below (fun k hk => ⟨Nat.lt_of_lt_of_le hk (Nat.le_trans hz h.size), by omega⟩))
def offB (mx : Nat) : Bool := decide (1 ≤ mx ∧ mx ≤ 3)
/-- What bytes say as a Hello: the error; the Hello. -/
def helS1 (bs : List UInt8) : FS := opS bs 3
def helS2 (bs : List UInt8) : FS := byS (helS1 bs) 1
def helS3 (bs : List UInt8) : FS := byS (helS2 bs) 4
def helS4 (bs : List UInt8) : FS := byS (helS3 bs) 16
def helS5 (bs : List UInt8) : FS := badS (helS4 bs) (!offB (oneN (helS1 bs)))
def helE (bs : List UInt8) : Nat := (helS5 bs).err
def helR (bs : List UInt8) : Hel := if helE bs = 0 then ⟨oneN (helS1 bs), fourN (helS2 bs), byB (helS3 bs) 16⟩ else ⟨0, 0, zerB 16⟩
theorem opS_at (bs : List UInt8) (k : Nat) : (opS bs k).at_ = 0 := by unfold opS knS; split <;> rfl
theorem helS1_at (bs : List UInt8) : (helS1 bs).at_ ≤ 100 := by rw [helS1, opS_at]; decide
theorem helS2_at (bs : List UInt8) : (helS2 bs).at_ ≤ 100 := by rw [helS2, byS_at, helS1, opS_at]; decide
theorem helS3_at (bs : List UInt8) : (helS3 bs).at_ ≤ 100 := by rw [helS3, byS_at, helS2, byS_at, helS1, opS_at]; decide
theorem copy_src {w : World} {A : Option Addr} {vs : List Value} (h : Rd w A vs) (hp : 0 < vs.length) : ∃ ad, A = some ad ∧ ∀ j v, vs[j]? = some v → w.cell? (ad.add j) = some v := by
  obtain ⟨b, off, e, _, _⟩ := h.addr hp
  exact ⟨_, e, h.cellsAt _ e⟩
theorem offerMay_c (mx ft : Nat) (w : World) :
    Calls Try.prog 42 #[.agg #[.int .i64 (mx : Int), .int .u32 (ft : Int)]] w fun r w' => r = .returned (.bool (offB mx)) ∧ Below w.heap.size w w' := by
  have kb : Below w.heap.size w (w.alloc (.cells #[.int .i64 (mx : Int), .int .u32 (ft : Int)] 41)) := (Below.refl _ _).alloc (Nat.le_refl _) _
  by_cases h1 : 1 ≤ mx
  · by_cases h3 : mx ≤ 3
    · have e : offB mx = true := decide_eq_true ⟨h1, h3⟩
      rw [e]; clear e
      have d1 : decide ((1 : Int) ≤ (mx : Int)) = true := decide_eq_true (by omega)
      have d3 : decide ((mx : Int) ≤ 3) = true := decide_eq_true (by omega)
      go_enter Try.func42, Try.ntmps42
      go_wp2
      go_ret
      exact ⟨rfl, kb⟩
    · have e : offB mx = false := decide_eq_false (by omega)
      rw [e]; clear e
      have d1 : decide ((1 : Int) ≤ (mx : Int)) = true := decide_eq_true (by omega)
      have d3 : decide ((mx : Int) ≤ 3) = false := decide_eq_false (by omega)
      go_enter Try.func42, Try.ntmps42
      go_wp2
      go_ret
      exact ⟨rfl, kb⟩
  · have e : offB mx = false := decide_eq_false (by omega)
    rw [e]; clear e
    have d1 : decide ((1 : Int) ≤ (mx : Int)) = false := decide_eq_false (by omega)
    go_enter Try.func42, Try.ntmps42
    go_wp2
    go_ret
    exact ⟨rfl, kb⟩
theorem hel_zero : (#[.int .i64 0, .int .u32 0, .int .u8 0, .int .u8 0, .int .u8 0, .int .u8 0, .int .u8 0, .int .u8 0, .int .u8 0, .int .u8 0, .int .u8 0, .int .u8 0, .int .u8 0, .int .u8 0, .int .u8 0, .int .u8 0, .int .u8 0, .int .u8 0] : Array Value) = (helC 0 0 (zerB 16)).toArray := rfl
theorem hel_start (mx ft : Nat) : (#[.int .i64 (mx : Int), .int .u32 (ft : Int), .int .u8 0, .int .u8 0, .int .u8 0, .int .u8 0, .int .u8 0, .int .u8 0, .int .u8 0, .int .u8 0, .int .u8 0, .int .u8 0, .int .u8 0, .int .u8 0, .int .u8 0, .int .u8 0, .int .u8 0, .int .u8 0] : Array Value) = (helC mx ft (zerB 16)).toArray := rfl
theorem hel_splice (mx ft : Nat) (l m : List UInt8) (hl : l.length = 16) (hm : m.length = 16) : splice (helC mx ft m) 2 (l.map bv) = helC mx ft l := by
  unfold splice helC
  simp [hl, hm]
theorem info_hel : (Try.prog.info? 44).map (·.size) = some 18 := by kernel_rfl
theorem hello_results (tmps : Array Value) (g : Nat) (t : TypeId) (cs : Array Value) (fr : Nat × Nat) (y : Int) (h2 : tmps.getD 2 undef = .pointer (some ⟨g, 0, none⟩)) (h3 : tmps.getD 3 undef = .int .i64 y) (w : World) (hg : w.heap[g]? = some (.cells cs t fr)) (hi : (Try.prog.info? 44).map (·.size) = some cs.size) :
    (results Try.f21 tmps).run Try.prog w = .ok (.tuple #[.agg cs, .int .i64 y]) w := by
  have h2' : tmps[2]?.getD undef = .pointer (some ⟨g, 0, none⟩) := by simpa using h2
  have h3' : tmps[3]?.getD undef = .int .i64 y := by simpa using h3
  simp [results, Try.results21, h2', h3', asAddr, run_loadVar_row w g t 44 cs fr _ hg Try.underlying44 rfl hi]
theorem hel_one (mx ft : Nat) (l : List UInt8) : (helC mx ft l).toArray.all (·.oneCell') = true := by
  unfold helC
  simp [Value.oneCell', bv]
set_option maxRecDepth 100000 in
set_option maxHeartbeats 4000000 in
theorem GetHello_c (bs : List UInt8) (A : Option Addr) (n c : Nat) (w : World) (hn : bs.length = n) (hr : Rd w A (bs.map bv)) (hl : n ≤ 140737488355328) :
    Calls Try.prog 21 #[.slice A n c] w fun r w' => r = .returned (.tuple #[(helR bs).val, .int .i64 (helE bs : Int)]) ∧ Below w.heap.size w w' := by
  have HN := Lib.hid hn
  obtain ⟨w1, ew1⟩ : ∃ w1, w1 = w.alloc (.cells #[.int .i64 0, .int .u32 0, .int .u8 0, .int .u8 0, .int .u8 0, .int .u8 0, .int .u8 0, .int .u8 0, .int .u8 0, .int .u8 0, .int .u8 0, .int .u8 0, .int .u8 0, .int .u8 0, .int .u8 0, .int .u8 0, .int .u8 0, .int .u8 0] 44) := ⟨_, rfl⟩
  obtain ⟨gr, egr⟩ : ∃ gr, gr = w.heap.size := ⟨_, rfl⟩
  have b1 : Below w.heap.size w w1 := by rw [ew1]; exact (Below.refl _ _).alloc (Nat.le_refl _) _
  have HG1 : Hid (w1.heap[gr]? = some (.cells (helC 0 0 (zerB 16)).toArray 44 (0, 0))) := Lib.hid (by rw [ew1, egr, ← hel_zero]; exact heap_alloc_new _ _)
  have HR1 := Lib.hid (hr.below b1)
  have HB1 := Lib.hid b1
  have EW1 := Lib.hid ew1
  have EGR := Lib.hid egr
  obtain ⟨E, eE⟩ : ∃ E, helE bs = E := ⟨_, rfl⟩
  obtain ⟨R, eR⟩ : ∃ R, helR bs = R := ⟨_, rfl⟩
  rw [eE, eR]
  have HE := Lib.hid eE
  have HRR := Lib.hid eR
  clear ew1 egr b1 hn hr eE eR
  go_enter Try.func21, Try.ntmps21
  go_upto_region 1 with (fail)
  rw [← EW1.out, ← EGR.out]
  go_wp2_with (fail)
  refine (open_c bs A n c 3 w1 HN.out HR1.out hl (by decide)).mono ?_
  rintro _ w2 ⟨p, A', n', c', rfl, hp, hf, hb⟩
  have HF2 : Hid (Flds w2 p A' n' c' (helS1 bs)) := Lib.hid hf
  have HG2 := Lib.hid ((hb.block gr (heap_lt HG1.out)).trans HG1.out)
  have HB2 := Lib.hid (HB1.out.trans (hb.mono HB1.out.size))
  have HP : Hid (w.heap.size < p ∧ gr ≠ p) := Lib.hid (by have := heap_lt HG1.out; have := EGR.out; omega)
  clear hp hf hb
  go_wp2_with (fail)
  refine (one_c p A' n' c' (helS1 bs) w2 HF2.out (helS1_at bs)).mono ?_
  rintro _ w3 ⟨rfl, hf, hk⟩
  have HF3 : Hid (Flds w3 p A' n' c' (helS2 bs)) := Lib.hid hf
  have HG3 := Lib.hid ((hk.block gr (heap_lt HG2.out) HP.out.2).trans HG2.out)
  have HB3 := Lib.hid (keepsP_b HB2.out hk (Nat.le_of_lt HP.out.1) (Nat.le_refl _))
  clear hf hk HF2 HG2 HB2
  go_wp2_with (fail)
  refine (four_c p A' n' c' (helS2 bs) w3 HF3.out (helS2_at bs)).mono ?_
  rintro _ w4 ⟨rfl, hf, hk⟩
  have HF4 : Hid (Flds w4 p A' n' c' (helS3 bs)) := Lib.hid hf
  have HG4 := Lib.hid ((hk.block gr (heap_lt HG3.out) HP.out.2).trans HG3.out)
  have HB4 := Lib.hid (keepsP_b HB3.out hk (Nat.le_of_lt HP.out.1) (Nat.le_refl _))
  clear hf hk HF3 HG3 HB3
  obtain ⟨M, hM⟩ : ∃ M, oneN (helS1 bs) = M := ⟨_, rfl⟩
  obtain ⟨F, hF⟩ : ∃ F, fourN (helS2 bs) = F := ⟨_, rfl⟩
  rw [hM, hF]
  have HM := Lib.hid hM
  have HFF := Lib.hid hF
  clear hM hF
  obtain ⟨w5, ew5⟩ : ∃ w5, w5 = w4.alloc (.cells #[.int .i64 (M : Int), .int .u32 (F : Int), .int .u8 0, .int .u8 0, .int .u8 0, .int .u8 0, .int .u8 0, .int .u8 0, .int .u8 0, .int .u8 0, .int .u8 0, .int .u8 0, .int .u8 0, .int .u8 0, .int .u8 0, .int .u8 0, .int .u8 0, .int .u8 0] 44) := ⟨_, rfl⟩
  obtain ⟨g5, eg5⟩ : ∃ g5, g5 = w4.heap.size := ⟨_, rfl⟩
  have b5 : Below w4.heap.size w4 w5 := by rw [ew5]; exact (Below.refl _ _).alloc (Nat.le_refl _) _
  have HH5 : Hid (w5.heap[g5]? = some (.cells (helC M F (zerB 16)).toArray 44 (0, 0))) := Lib.hid (by rw [ew5, eg5, ← hel_start]; exact heap_alloc_new _ _)
  have HF5 := Lib.hid (HF4.out.below b5)
  have HG5 := Lib.hid ((b5.block gr (heap_lt HG4.out)).trans HG4.out)
  have HB5 := Lib.hid (HB4.out.trans (b5.mono HB4.out.size))
  have HQ : Hid (gr < g5 ∧ p < g5 ∧ w.heap.size ≤ g5) := Lib.hid (by have := heap_lt HG4.out; have := HF4.out.lt; have := HB4.out.size; omega)
  have EW5 := Lib.hid ew5
  have EG5 := Lib.hid eg5
  have K45 : Hid (Keeps (fun j => j = p) w4 w5) := Lib.hid (Keeps.of_below b5 _ (fun k hk _ => hk))
  obtain ⟨NC, hNC⟩ : ∃ NC, byB (helS3 bs) 16 = NC := ⟨_, rfl⟩
  have HNL : Hid (NC.length = 16) := Lib.hid (by rw [← hNC]; exact byB_len _ _)
  have HNM : Hid ((NC.map bv).length = Nat.min 16 16) := Lib.hid (by rw [List.length_map, HNL.out]; rfl)
  have HFT : Hid (2 + (NC.map bv).length ≤ (helC M F (zerB 16)).length) := Lib.hid (by rw [HNM.out]; simp [helC, zerB])
  have HSP : Hid (splice (helC M F (zerB 16)) 2 (NC.map bv) = helC M F NC) := Lib.hid (hel_splice _ _ _ _ HNL.out (by simp [zerB]))
  have HNC := Lib.hid hNC
  clear ew5 eg5 b5 HG4 HB4 hNC
  go_upto_region 3 with (fail)
  rw [← EW5.out, ← EG5.out]
  go_region_held3 (fun _ => True) (trivial) (first
    | (go_at_call 50; refine (bytes_c p A' n' c' (helS3 bs) 16 (by decide) w5.drew (HF5.out.drewN 1) (helS3_at bs)).mono ?_; rintro _ w6 ⟨Ab, cb, rfl, ht, hf, hk⟩; have hk6 := ((Keeps.refl (fun j => j = p) w5).drewN 1).trans hk; have K46 := Lib.hid (K45.out.trans hk6); have HP6 := Lib.hid hf.blk; have HG6 := Lib.hid ((hk6.block gr (heap_lt HG5.out) HP.out.2).trans HG5.out); have HB6 := Lib.hid (keepsP_b HB5.out hk6 (Nat.le_of_lt HP.out.1) (Nat.le_refl _)); have HH6 := Lib.hid ((hk6.block g5 (heap_lt HH5.out) (by have := HQ.out; omega)).trans HH5.out); have RB6 : Hid (Rd w6 Ab (NC.map bv)) := Lib.hid (by rw [← HNC.out]; exact ht.r.2.1); clear ht hf hk hk6)
    | (refine step_copy_splice rfl (.tmp 15) (.tmp 17) 25 25 rfl 5 Try.underlying25 (by kernel_rfl) _ _ 16 16 16 cb rfl rfl g5 2 (helC M F (zerB 16)) 44 HH6.out (NC.map bv) HNM.out (fun hp => ⟨rfl, copy_src RB6.out hp⟩) HFT.out (bv_one _) g5 w6 (Below.refl _ _) (Nat.le_refl _) ?_; rw [HSP.out]; intro w7 hg7 hb7; have HB67 := Lib.hid hb7; clear hb7))
  have hg7' := hg7.out
  have a0 : w7.cell? ⟨g5, 0, none⟩ = some (.int .i64 (M : Int)) := (heap_cell hg7' 0).trans rfl
  have a1 : w7.cell? ⟨g5, 1, none⟩ = some (.int .u32 (F : Int)) := (heap_cell hg7' 1).trans rfl
  have HH7 := Lib.hid hg7'
  have k67 : Keeps (fun j => w4.heap.size ≤ j) w6 w7 := Keeps.of_below HB67.out _ (fun k _ hk => by rw [EG5.out]; omega)
  have HF7 : Hid (Flds w7 p A' n' c' (helS4 bs)) := Lib.hid (HF4.out.next (K46.out.over k67) (by show (byS (helS3 bs) 16).l = _; rw [byS_l]) (by show (byS (helS3 bs) 16).at_ ≤ 1000; rw [byS_at]; have := helS3_at bs; omega) ((HB67.out.block p (by have := HQ.out; omega)).trans HP6.out))
  have HG7 := Lib.hid ((HB67.out.block gr (by have := HQ.out; omega)).trans HG6.out)
  have HB7 := Lib.hid (HB6.out.trans (HB67.out.mono HQ.out.2.2))
  clear hg7 hg7' HB67 k67 K46 K45 HF4 HP6 HG6 HB6 HH6 RB6 HF5 HG5 HB5 HH5 HNM HFT HSP HNL
  go_wp2_with (fail)
  refine (offerMay_c M F w7).mono ?_
  rintro _ w8 ⟨rfl, hb8⟩
  have HF8 := Lib.hid (HF7.out.below hb8)
  have HG8 := Lib.hid ((hb8.block gr (heap_lt HG7.out)).trans HG7.out)
  have HH8 := Lib.hid ((hb8.block g5 (heap_lt HH7.out)).trans HH7.out)
  have HB8 := Lib.hid (HB7.out.trans (hb8.mono HB7.out.size))
  obtain ⟨O, hO⟩ : ∃ O, offB M = O := ⟨_, rfl⟩
  rw [hO]
  have HO := Lib.hid hO
  clear hb8 hO a0 a1 HF7 HG7 HH7 HB7
  go_wp2_with (fail)
  refine (bad_c p A' n' c' (helS4 bs) (!O) w8 HF8.out).mono ?_
  rintro _ w9 ⟨rfl, hf9, hk9, -⟩
  have hb9 : (badS (helS4 bs) (!O)).err = E := by rw [← HE.out]; unfold helE helS5; rw [HM.out, HO.out]
  obtain ⟨⟨c0, c1, c2⟩, -⟩ := three_of hf9.blk
  rw [hb9] at c2
  have HG9 := Lib.hid ((hk9.block gr (heap_lt HG8.out) HP.out.2).trans HG8.out)
  have HH9 := Lib.hid ((hk9.block g5 (heap_lt HH8.out) (by have := HQ.out; omega)).trans HH8.out)
  have HB9 := Lib.hid (keepsP_b HB8.out hk9 (Nat.le_of_lt HP.out.1) (Nat.le_refl _))
  have hpw : p < w9.drew.heap.size := hf9.lt
  clear hf9 hk9 hb9 HF8 HG8 HH8 HB8
  have HSZ : Hid (some 18 = some (helC M F NC).toArray.size) := Lib.hid (by rw [← HNC.out]; simp [helC, byB_len])
  have HSZ2 : Hid ((helC 0 0 (zerB 16)).toArray.size = (helC M F NC).toArray.size) := Lib.hid (by rw [← HNC.out]; simp [helC, byB_len, zerB])
  by_cases h0 : E = 0
  · have d0 : ((E : Int) != 0) = false := by rw [h0]; rfl
    have eR : R = ⟨M, F, NC⟩ := by rw [← HRR.out]; unfold helR; rw [if_pos (HE.out.trans h0), HM.out, HFF.out, HNC.out]
    have ER := Lib.hid eR
    have E0 := Lib.hid h0
    clear eR h0 hpw
    go_wp2_with (first
      | (refine wpList_load_row rfl 44 (.tmp 5) rfl g5 rfl 44 _ (0, 0) _ HH9.out Try.underlying44 rfl (info_hel.trans HSZ.out) ?_)
      | (refine wpList_store_row rfl 44 (.tmp 2) (.tmp 35) rfl gr (helC M F NC).toArray rfl rfl 44 _ HG9.out (info_hel.trans HSZ.out) HSZ2.out (hel_one _ _ _) ?_))
    have HBF := Lib.hid (below_setRow (g := gr) HB9.out (Nat.le_of_eq EGR.out.symm) (helC M F NC).toArray)
    refine bodyPost_ret (v := .tuple #[.agg (helC M F NC).toArray, .int .i64 0]) (hello_results _ gr 44 _ (0, 0) 0 rfl rfl _ (setRow_heap w9 gr _ _ _ _ HG9.out) (info_hel.trans HSZ.out)) rfl ?_
    rw [ER.out, E0.out]
    exact ⟨rfl, HBF.out⟩
  · have d0 : ((E : Int) != 0) = true := by rw [bne_iff_ne]; omega
    have eR : R = ⟨0, 0, zerB 16⟩ := by rw [← HRR.out]; unfold helR; rw [if_neg (by rw [HE.out]; exact h0)]
    have ER := Lib.hid eR
    clear eR h0
    go_upto_region 6 with (fail)
    have HNE : Hid (p ≠ gr) := Lib.hid (Ne.symm HP.out.2)
    refine wp_region_rv 36 (Zg gr (.cells ((helC 0 0 (zerB 16)).toArray) 44 (0, 0))) [helV 0 0 (zerB 16), .pointer (some ⟨p, 0, none⟩), .pointer (some ⟨p, 0, none⟩), .pointer (some ⟨p, 2, none⟩), .int .i64 (E : Int), undef, .int .i64 (E : Int)] [30, 31, 32, 33, 34, 3] (by kernel_rfl) rfl (by kernel_rfl) (by kernel_rfl) (Zg.refl _ _) Zg.trans ?_ ?_
    · repeat (first | exact AllFrom.nil_ | (refine AllFrom.cons_ (by rfl) ?_ ?_; rotate_left))
      · intro f w' g hF hD
        rw [if_pos (wanted_none rfl)]
        clear hF hD
        exact gives_build 44 #[] rfl ((helC 0 0 (zerB 16)).toArray) (by kernel_rfl) ⟨Zg.refl _ _ _, rfl⟩
      · intro f w' g hF hD
        have h4 : f 4 = .pointer (some ⟨p, 0, none⟩) := hF 4 (by kernel_rfl)
        rw [if_pos (wanted_none rfl)]
        clear hF hD
        exact gives_val (by simp only [execOp, evF, h4]; first | rfl | go_simp) ⟨Zg.refl _ _ _, rfl⟩
      · intro f w' g hF hD
        have h31 : f 31 = .pointer (some ⟨p, 0, none⟩) := hD 1 31 (by kernel_rfl) rfl
        rw [if_pos (wanted_none rfl)]
        clear hF hD
        exact gives_val (by simp only [execOp, evF, h31]; first | rfl | go_simp) ⟨Zg.refl _ _ _, rfl⟩
      · intro f w' g hF hD
        have h32 : f 32 = .pointer (some ⟨p, 0, none⟩) := hD 2 32 (by kernel_rfl) rfl
        rw [if_pos (wanted_none rfl)]
        clear hF hD
        exact gives_val (by simp only [execOp, evF, h32]; first | rfl | go_simp) ⟨Zg.refl _ _ _, rfl⟩
      · intro f w' g hF hD
        have h33 : f 33 = .pointer (some ⟨p, 2, none⟩) := hD 3 33 (by kernel_rfl) rfl
        rw [if_pos (wanted_none rfl)]
        clear hF hD
        have cl := g.cell (p := p) (i := 2) HNE.out hpw c2
        exact gives_val (by simp only [execOp, evF, h33]; go_simp) ⟨Zg.refl _ _ _, rfl⟩
      · intro f w' g hF hD
        have h2 : f 2 = .pointer (some ⟨gr, 0, none⟩) := hF 2 (by kernel_rfl)
        have h30 : f 30 = helV 0 0 (zerB 16) := hD 0 30 (by kernel_rfl) rfl
        rw [if_pos (wanted_none rfl)]
        clear hF hD
        exact gives_store_row 44 (.tmp 2) (.tmp 30) rfl gr ((helC 0 0 (zerB 16)).toArray) (by simp only [evF, h2]) (by simp only [evF, h30]; rfl) 44 ((helC 0 0 (zerB 16)).toArray) (g.2 HG9.out) (info_hel.trans rfl) rfl (hel_one _ _ _) ⟨Zg.row (g.2 HG9.out), rfl⟩
      · intro f w' g hF hD
        have h34 : f 34 = .int .i64 (E : Int) := hD 4 34 (by kernel_rfl) rfl
        rw [if_pos (wanted_none rfl)]
        clear hF hD
        exact gives_val (by simp only [execOp, evF, h34]; first | rfl | go_simp) ⟨Zg.refl _ _ _, rfl⟩
    intro f' w10 g hD
    have h30 : f' 30 = helV 0 0 (zerB 16) := hD 0 30 rfl
    have h31 : f' 31 = .pointer (some ⟨p, 0, none⟩) := hD 1 31 rfl
    have h32 : f' 32 = .pointer (some ⟨p, 0, none⟩) := hD 2 32 rfl
    have h33 : f' 33 = .pointer (some ⟨p, 2, none⟩) := hD 3 33 rfl
    have h34 : f' 34 = .int .i64 (E : Int) := hD 4 34 rfl
    have h3 : f' 3 = .int .i64 (E : Int) := hD 6 3 rfl
    simp only [putAll, List.setIfInBounds_toArray, List.set_cons_zero, List.set_cons_succ, h30, h31, h32, h33, h34, h3]
    have HG10 := Lib.hid (g.2 HG9.out)
    have HB10 := Lib.hid ((below_drewN HB9.out 1).trans (g.1.below (fun k hk => ⟨Nat.lt_of_lt_of_le hk HB9.out.size, by have := EGR.out; omega⟩)))
    clear hD g c0 c1 c2 hpw h30 h31 h32 h33 h34 h3
    go_wp2_with (fail)
    refine bodyPost_ret (v := .tuple #[.agg (helC 0 0 (zerB 16)).toArray, .int .i64 (E : Int)]) (hello_results _ gr 44 _ (0, 0) (E : Int) rfl rfl _ HG10.out (info_hel.trans rfl)) rfl ?_
    rw [ER.out]
    exact ⟨rfl, HB10.out⟩
end Go.Proofs.Ytcffinkkfdfcaaa

/- The law's fixed examples hold. Conditions: none. -/
namespace Go.Proofs.Ytcffinkkfdfcaaa
open Go Go.RowKit

theorem fix_one : putD 1 ⟨5, 65535, 0, 0, false, ⟨0, 0, 0, []⟩⟩ = (0, [0, 5, 255, 255, 0, 0, 0, 0, 0, 0, 0, 0, 0, 0, 0, 0, 0, 0, 0, 0, 0]) := by kernel_rfl
theorem fix_two : putD 2 ⟨5, 65535, 0, 0, false, ⟨0, 0, 0, []⟩⟩ = (0, [6, 2, 0, 5]) := by kernel_rfl
theorem fix_hel : helE [] = 12 := by kernel_rfl
theorem fix_helR : (helR []).val = .agg #[.int .i64 0, .int .u32 0, .int .u8 0, .int .u8 0, .int .u8 0, .int .u8 0, .int .u8 0, .int .u8 0, .int .u8 0, .int .u8 0, .int .u8 0, .int .u8 0, .int .u8 0, .int .u8 0, .int .u8 0, .int .u8 0, .int .u8 0, .int .u8 0] := by
  unfold helR
  rw [if_neg (by rw [fix_hel]; decide)]
  rfl
def L21 : List UInt8 := [0, 5, 255, 255, 0, 0, 0, 0, 0, 0, 0, 0, 0, 0, 0, 0, 0, 0, 0, 0, 0]
set_option maxRecDepth 100000 in
set_option maxHeartbeats 4000000 in
theorem fixedB_c (w : World) : Calls Try.prog 9 #[] w fun r w' => r = .returned (.bool true) ∧ Below w.heap.size w w' := by
  go_enter Try.func9, Try.ntmps9
  go_wp2_with (fail)
  refine (PutData_c 1 5 65535 0 0 false 0 0 0 none 0 0 [] w (by unfold U16; decide) (by unfold U16; decide) (by unfold U64; decide) (by unfold U64; decide) (by decide) (TxtO.nil_ _ _).r (by decide)).mono ?_
  rintro _ w1 ⟨x1, rfl, ho1, hb1⟩
  rw [fix_one] at ho1 ⊢
  have ho1' : OwnB w1 w.heap.size x1 L21 := ho1
  obtain ⟨A1, c1, rfl, hc1, hm1, r1, _⟩ := OwnB.form ho1'
  have hl : L21.length = 21 := rfl
  rw [hl] at hc1 ⊢
  have R1 := Lib.hid r1
  have HB1 := Lib.hid hb1
  clear ho1 ho1' r1 hb1 hl
  go_wp2_with (fail)
  refine (PutData_c 2 5 65535 0 0 false 0 0 0 none 0 0 [] w1 (by unfold U16; decide) (by unfold U16; decide) (by unfold U64; decide) (by unfold U64; decide) (by decide) (TxtO.nil_ _ _).r (by decide)).mono ?_
  rintro _ w2 ⟨x2, rfl, ho2, hb2⟩
  rw [fix_two] at ho2 ⊢
  obtain ⟨A2, c2, rfl, hc2, hm2, r2, _⟩ := OwnB.form ho2
  have R2 := Lib.hid r2
  have R12 := Lib.hid (R1.out.below hb2)
  have HB2 := Lib.hid (HB1.out.trans (hb2.mono HB1.out.size))
  clear ho2 r2 hb2
  go_wp2_with (fail)
  refine (GetHello_c [] none 0 0 w2 rfl (.inl rfl) (by decide)).mono ?_
  rintro _ w3 ⟨rfl, hb3⟩
  rw [fix_hel, fix_helR]
  obtain ⟨w4, ew4⟩ : ∃ w4, w4 = w3.alloc (.cells #[.int .i64 0, .int .u32 0, .int .u8 0, .int .u8 0, .int .u8 0, .int .u8 0, .int .u8 0, .int .u8 0, .int .u8 0, .int .u8 0, .int .u8 0, .int .u8 0, .int .u8 0, .int .u8 0, .int .u8 0, .int .u8 0, .int .u8 0, .int .u8 0] 44) := ⟨_, rfl⟩
  have b4 : Below w3.heap.size w3 w4 := by rw [ew4]; exact (Below.refl _ _).alloc (Nat.le_refl _) _
  have hb24 := hb3.trans (b4.mono hb3.size)
  have R14 := R12.out.below hb24
  have R24 := Lib.hid (R2.out.below hb24)
  have HB4 := Lib.hid (HB2.out.trans (hb24.mono HB2.out.size))
  obtain ⟨b, off, rfl, hb, hc⟩ := R14.addrB (by decide)
  have y1 : w4.cell? ⟨b, off + 1, none⟩ = some (.int .u8 5) := hc 1 (by decide)
  have y2 : w4.cell? ⟨b, off + 2, none⟩ = some (.int .u8 255) := hc 2 (by decide)
  have EW4 := Lib.hid ew4
  clear hb24 b4 hb3 R14 hb hc ew4
  go_upto_region 4 with (fail)
  rw [← EW4.out]
  go_wp2_with (fail)
  refine (Same_t A2 (some ⟨w4.heap.size, 0, none⟩) 4 4 c2 4 [6, 2, 0, 5] _ rfl rfl (R24.out.alloc _) (Rd.lit w4 ([6, 2, 0, 5].map bv) _) (by decide)).mono ?_
  rintro _ w5 ⟨rfl, q, rfl⟩
  have HB5 := Lib.hid (below_drewN (HB4.out.alloc HB4.out.size (.cells #[.int .u8 6, .int .u8 2, .int .u8 0, .int .u8 5] 5)) q)
  clear y1 y2
  go_wp2_with (fail)
  go_ret
  exact ⟨rfl, HB5.out⟩
end Go.Proofs.Ytcffinkkfdfcaaa

/- What the reference's Pick answers. Conditions: items and numbers that can be read. -/
namespace Go.Proofs.Ytcffinkkfdfcaaa
open Go Go.RowKit

theorem mem_take_succ {zs : List Int} {k : Nat} (h : k < zs.length) (z : Int) : decide (z ∈ zs.take (k + 1)) = (decide (z ∈ zs.take k) || decide (zs[k] = z)) := by
  have e : (z ∈ zs.take (k + 1)) = (z ∈ zs.take k ∨ zs[k] = z) := by
    rw [List.take_succ_eq_append_getElem h, List.mem_append, List.mem_singleton, eq_comm (a := z)]
  simp only [e, Bool.decide_or]
theorem ItsR.row1 {ok : Nat → Prop} {w : World} {z : Int} {cr li : Bool} {bs : List UInt8} {sub : Fo} {At As : Option Addr} {m cm e1 : Nat} (tt : TxtR ok w At m cm bs) (s1 : FoR ok w As 0 sub) (l1 : sub.len ≤ e1) (l2 : e1 ≤ maxLen) (l3 : sub.len ≤ 2199023255488) (hk : ∀ j, ok j → j < w.heap.size → j < w.heap.size) :
    ItsR (· < w.heap.size) w [⟨z, cr, li, At, m, cm, As, sub.len, e1⟩] (.cons z cr li bs sub .nil) :=
  ⟨_, [], rfl, rfl, rfl, rfl, tt.weak hk, ⟨rfl, s1.weak hk, l1, l2, l3⟩, rfl⟩
set_option maxRecDepth 100000 in
set_option maxHeartbeats 8000000 in
theorem refPick_c (f : Fo) (ok : Nat → Prop) (A : Option Addr) (n c : Nat) (Ak : Option Addr) (nk ck : Nat) (ks : List Int) (w : World) (hn : f.len = n) (h1 : FoR ok w A 0 f) (hl : n ≤ 100000) (hk : ks.length = nk) (hr : RdI w Ak ks) (hlk : nk ≤ 140737488355328) :
    Calls Try.prog 74 #[.slice A n c, .slice Ak nk ck] w fun r w' => ∃ v, r = .returned (.tuple #[v, .int .i64 ((pickT ks f).1 : Int)]) ∧ FoM (fun _ => True) w' v (pickT ks f).2 ∧ Below w.heap.size w w' := by
  have HN := Lib.hid hn; clear hn
  have H1 := Lib.hid h1; clear h1
  have HKS := Lib.hid hk; clear hk
  have HRK := Lib.hid hr; clear hr
  obtain ⟨T, eT⟩ : ∃ T, T = pickT ks f := ⟨_, rfl⟩
  rw [← eT]
  have ET := Lib.hid eT; clear eT
  go_enter Try.func74, Try.ntmps74
  go_wp2_with (fail)
  go_loopw [6, 7] (fun v i wr => ∃ (q : Nat) (r P : Fo) (ds : List ItV), i = .int .i64 q ∧ Hid (q + r.len = n) ∧ Hid (FoR ok w A q r) ∧ Hid (f = P.app r) ∧ Hid (critF ks P = false) ∧ Hid (P.len = q) ∧ Hid (OwnI wr w.heap.size v ds) ∧ Hid (ItsR (· < w.heap.size) w ds (pickF ks P)) ∧ Hid (Below w.heap.size w wr)) (fun _ i _ => n - (intOf i).toNat)
  case atStart => exact ⟨0, f, .nil, [], rfl, Lib.hid (by rw [HN.out]; omega), H1, Lib.hid rfl, Lib.hid rfl, Lib.hid rfl, Lib.hid (World.ownsRow_made w #[] 0 (Nat.le_refl _) (Nat.zero_le _) rfl), Lib.hid rfl, Lib.hid ((Below.refl _ _).alloc (Nat.le_refl _) _)⟩
  case round =>
    obtain ⟨wo, rfl⟩ : ∃ wo, wo = wr := ⟨_, rfl⟩
    obtain ⟨q, r, P, ds, rfl, HK, R1, HF, HCr, HPl, HO, HI, HB⟩ := hrel
    cases r with
    | nil =>
      have hk : q = n := HK.out
      have hk' : (n : Int) ≤ (q : Int) := by omega
      have hF : f = P := by rw [HF.out, Fo.app_nil]
      have e0 : T = (0, pickF ks P) := by rw [ET.out, pickT, hF, HCr.out]; rfl
      have E0 := Lib.hid e0
      clear hk hF e0
      go_wp2_with (fail)
      go_ret2
      refine ⟨_, by rw [E0.out]; rfl, ?_, HB.out⟩
      rw [E0.out]
      exact ⟨ds, HO.out.low (Nat.zero_le _), fun _ _ => trivial, (ItsR.frame (fun j (hj : j < w.heap.size) _ => HB.out.block j hj) HB.out.size _ _ HI.out).weak (fun _ _ _ => trivial)⟩
    | cons z cr li bs sub rest =>
      obtain ⟨⟨b1, o1, At, m, cm, As1, e1, eA, hb1, -, ⟨c0, ca, cb, cc, cd⟩, tt, s1, l1, l2, l3⟩, r1⟩ := R1.out.one
      subst eA
      have hlt : q < n := by have := HK.out; simp only [Fo.len] at this; omega
      have kb := HB.out
      have D1 := Lib.hid (ItsR.row1 (z := z) (cr := cr) (li := li) tt s1 l1 l2 l3 (fun _ _ h => h))
      have R1b := Lib.hid r1
      rw [← kb.cell (p := ⟨b1, _, none⟩) hb1] at c0 ca cb cc cd
      have HKb : Hid (q + 1 + rest.len = n) := Lib.hid (by have := HK.out; simp only [Fo.len] at this; omega)
      have HFb : Hid (f = (P.app (.cons z cr li bs sub .nil)).app rest) := Lib.hid (by rw [HF.out, Fo.app_assoc]; rfl)
      obtain ⟨sl, esl⟩ : ∃ sl, sl = sub.len := ⟨_, rfl⟩
      rw [← esl] at cd l1 l3 D1
      have hlt' : (q : Int) < (n : Int) := by omega
      have C0 := Lib.hid c0
      have CA := Lib.hid ca
      have CB := Lib.hid cb
      have CC := Lib.hid cc
      have CD := Lib.hid cd
      have HB1 := Lib.hid hb1
      clear tt s1 r1 esl HK HF R1 kb l1 l2 c0 ca cb cc cd hb1
      go_wp2_with (fail)
      go_loopw [8, 9] (fun b k wr => ∃ (j : Nat), b = .bool (decide (z ∈ ks.take j)) ∧ k = .int .i64 j ∧ j ≤ nk ∧ ∃ y, wr = wo.drewN y) (fun _ k _ => nk - (intOf k).toNat)
      case atStart => exact ⟨0, by simp, rfl, Nat.zero_le _, 0, rfl⟩
      case round =>
        obtain ⟨j, hb, rfl, hj, y, rfl⟩ := hrel
        obtain ⟨B, eB⟩ : ∃ B, B = decide (z ∈ ks.take j) := ⟨_, rfl⟩
        rw [← eB] at hb
        subst hb
        have EB := Lib.hid eB
        clear eB
        have c0 := C0.out
        have ca := CA.out
        rcases Nat.lt_or_ge j nk with hjn | hjn
        · have hjk : j < ks.length := by rw [HKS.out]; exact hjn
          obtain ⟨bk, ok', rfl, hbk, hck⟩ := HRK.out.addr (by omega)
          have k0 := hck j hjk
          rw [← HB.out.cell (p := ⟨bk, _, none⟩) hbk] at k0
          obtain ⟨zj, ez⟩ : ∃ zj, zj = ks[j] := ⟨_, rfl⟩
          rw [← ez] at k0
          have hjn' : (j : Int) < (nk : Int) := by omega
          obtain ⟨E, eE⟩ : ∃ E, E = (zj == z) := ⟨_, rfl⟩
          have e0 : (zj == z) = E := eE.symm
          have hnew : Hid (decide (z ∈ ks.take (j + 1)) = (B || E)) := Lib.hid (by
            rw [mem_take_succ hjk, ← EB.out, eE, ez]
            congr 1)
          clear hck ez eE
          cases B with
          | true =>
            have hnew' : Hid (decide (z ∈ ks.take (j + 1)) = true) := Lib.hid (by rw [hnew.out]; rfl)
            clear hnew
            go_wp2_with (fail)
            go_quiet (fail)
            go_wp2_with (fail)
            go_roundw
            case rel => exact ⟨j + 1, by rw [hnew'.out], by go_num, by omega, _, rfl⟩
            case measure => simp [intOf]; omega
          | false =>
            have hnew' : Hid (decide (z ∈ ks.take (j + 1)) = E) := Lib.hid (by rw [hnew.out]; rfl)
            clear hnew
            go_wp2_with (fail)
            go_quiet (fail)
            go_wp2_with (fail)
            go_roundw
            case rel => exact ⟨j + 1, by rw [hnew'.out], by go_num, by omega, _, rfl⟩
            case measure => simp [intOf]; omega
        · have hjn' : (nk : Int) ≤ (j : Int) := by omega
          have hB : B = decide (z ∈ ks) := by rw [EB.out, List.take_of_length_le (by rw [HKS.out]; exact hjn)]
          have cb := CB.out
          have cc := CC.out
          have cd := CD.out
          have HOy := Lib.hid (HO.out.drewN y)
          have HBy : Hid (Below w.heap.size w (wo.drewN y)) := Lib.hid (below_drewN HB.out y)
          by_cases hin : z ∈ ks
          · rw [decide_eq_true hin] at hB
            subst hB
            have hpk : Hid (pickF ks (P.app (.cons z cr li bs sub .nil)) = (pickF ks P).app (.cons z cr li bs sub .nil)) := Lib.hid (by rw [pickF_app]; simp only [pickF, if_pos hin])
            have hcr : Hid (critF ks (P.app (.cons z cr li bs sub .nil)) = false) := Lib.hid (by rw [critF_app, HCr.out]; simp [critF, hin])
            have b67 : Below wo.heap.size (wo.drewN y) ((wo.drewN y).alloc (.cells #[.int .i64 z, .bool cr, .bool li, .slice At m cm, .slice As1 sl e1] 76)) := (Below.refl (wo.drewN y).heap.size (wo.drewN y)).alloc (Nat.le_refl _) _
            have HO7 : Hid (OwnI ((wo.drewN y).alloc (.cells #[.int .i64 z, .bool cr, .bool li, .slice At m cm, .slice As1 sl e1] 76)) w.heap.size u6 ds) := Lib.hid (HOy.out.below b67)
            have HB7 : Hid (Below w.heap.size w ((wo.drewN y).alloc (.cells #[.int .i64 z, .bool cr, .bool li, .slice At m cm, .slice As1 sl e1] 76))) := Lib.hid (HBy.out.trans (b67.mono HBy.out.size))
            have HR7 := Lib.hid (Rd.lit (wo.drewN y) (cellsI [⟨z, cr, li, At, m, cm, As1, sl, e1⟩]) 76)
            have hdl : ds.length ≤ 100000 := by rw [ItsR.len _ ds HI.out]; have := pickF_len ks P; have := HPl.out; omega
            clear hin b67 HOy HBy
            go_wp2_with (at_builtin; refine wpList_appI _ rfl (.tmp 37) (.tmp 42) rfl w.heap.size _ ds rfl HO7.out (some ⟨wo.heap.size, 0, none⟩) 1 1 [⟨z, cr, li, At, m, cm, As1, sl, e1⟩] rfl rfl HR7.out (by omega) HB7.out.size ?_; intro v12 w12 ho12 hg12 hv12; have HO12 := Lib.hid ho12; have HB12 := Lib.hid (HB7.out.grown hg12 HB7.out.size (fun k e => (HO7.out.lt k e).1)); clear ho12 hg12 hv12)
            go_roundw
            case measure => simp [intOf]; omega
            case rel => exact ⟨q + 1, rest, _, _, by go_num, HKb, R1b, HFb, hcr, Lib.hid (by rw [Fo.len_app, HPl.out]; rfl), HO12, Lib.hid (by rw [hpk.out]; exact ItsR.snoc D1.out _ _ HI.out), HB12⟩
          · rw [decide_eq_false hin] at hB
            subst hB
            cases cr with
            | true =>
              have e0 : T = (7, .nil) := by rw [ET.out, pickT, HFb.out, critF_app, critF_app]; simp [critF, hin]
              have E0 := Lib.hid e0
              clear e0 hin
              go_wp2_with (fail)
              go_ret2
              exact ⟨_, by rw [E0.out]; rfl, by rw [E0.out]; exact FoM.nil_ _ _, HBy.out⟩
            | false =>
              have hpk : Hid (pickF ks (P.app (.cons z false li bs sub .nil)) = pickF ks P) := Lib.hid (by rw [pickF_app]; simp only [pickF, if_neg hin]; exact Fo.app_nil _)
              have hcr : Hid (critF ks (P.app (.cons z false li bs sub .nil)) = false) := Lib.hid (by rw [critF_app, HCr.out]; simp [critF])
              clear hin
              go_wp2_with (fail)
              go_roundw
              case measure => simp [intOf]; omega
              case rel => exact ⟨q + 1, rest, _, ds, by go_num, HKb, R1b, HFb, hcr, Lib.hid (by rw [Fo.len_app, HPl.out]; rfl), HOy, Lib.hid (by rw [hpk.out]; exact HI.out), HBy⟩
end Go.Proofs.Ytcffinkkfdfcaaa

/- Slices of bytes in a row of the call's own. Conditions: none. -/
namespace Go.Proofs.Ytcffinkkfdfcaaa
open Go Go.RowKit

theorem info_sl : (Try.prog.info? 25).map (fun i => (i.zero, i.size, i.bytes)) = some (some (.slice none 0 0), 1, 24) := by kernel_rfl
/-- 'make([][]byte, n)'. -/
theorem wpList_makeS (w : World) {ops : Array Oper} {rest : List Oper} {o : Oper} {a : Act} {Q : Exit → Act → World → Prop} (hgd : o.guard = none) (l c : Operand) (ho : o.op = Op.makeSlice 94 l c)
    (kl kc : IntKind) (L C : Int) (n : Nat) (hl : a.eval l = .int kl L) (hc : a.eval c = .int kc C) (hL : L = (n : Int)) (hC : C = (n : Int)) (hn : n ≤ 6000000000000)
    (h : ∀ w', Own w' w.heap.size 25 (.slice (some ⟨w.heap.size, 0, none⟩) n n) (List.replicate n (.slice none 0 0)) → Below w.heap.size w w' → w.grownBy w' none → wpList Try.prog ops Q rest (a.put o.dst (.slice (some ⟨w.heap.size, 0, none⟩) n n)) w') :
    wpList Try.prog ops Q (o :: rest) a w := by
  obtain ⟨i0, hi, hz0, hz1, hz2⟩ := info_parts info_sl
  refine wpList_make_full w hgd l c 94 ho w.heap.size 25 i0 (.slice none 0 0) 1 Try.underlying94 hi hz0 hz1 kl kc L C n hl hc hL hC (by rw [hz2]; omega) (by unfold maxLen; omega) (Nat.le_refl _) ?_
  intro w' h1 h2
  refine h w' ?_ ((Below.refl _ _).grown h2 (Nat.le_refl _) (fun k hk => by cases hk)) h2
  have e : (madeCells (Value.slice none 0 0).cells (n * 1)).toList = List.replicate n (.slice none 0 0) := by
    rw [Nat.mul_one]; exact toList_madeCells_one _ _
  rw [e] at h1
  simpa [Own] using h1

/-- The value is a slice of these bytes, in a block behind B. -/
def SlV (w : World) (B : Nat) (v : Value) (b : List UInt8) : Prop :=
  ∃ A c, v = .slice A b.length c ∧ Rd w A (b.map bv) ∧ b.length ≤ c ∧ c ≤ maxLen ∧ ∀ a, A = some a → B < a.block
theorem SlV.below {w w' : World} {B : Nat} {v : Value} {b : List UInt8} (h : SlV w B v b) (hb : Below w.heap.size w w') : SlV w' B v b := by
  obtain ⟨A, c, h1, h2, h3⟩ := h
  exact ⟨A, c, h1, h2.below hb, h3⟩
theorem SlV.set {w : World} {B i : Nat} {v u : Value} {b : List UInt8} (h : SlV w B v b) : SlV (w.setCell ⟨B, i, none⟩ u) B v b := by
  obtain ⟨A, c, h1, h2, h3, h4, h5⟩ := h
  exact ⟨A, c, h1, h2.far u (fun a e => by have := h5 a e; simp; omega), h3, h4, h5⟩
theorem SlV.own {w : World} {B B' : Nat} {v : Value} {b : List UInt8} (h : OwnB w B' v b) (hB : B < B') : SlV w B v b := by
  obtain ⟨A, c, h1, h2, h3, h4, h5⟩ := h.form
  exact ⟨A, c, h1, h4, h2, h3, fun a e => Nat.lt_of_lt_of_le hB (h5 a e).1⟩

/-- k copies lie in the row, the rest is nil. -/
def Cps (w : World) (B n : Nat) (bss : List (List UInt8)) (k : Nat) : Prop :=
  ∃ vs : List Value, vs.length = k ∧ Own w B 25 (.slice (some ⟨B, 0, none⟩) n n) (vs ++ List.replicate (n - k) (.slice none 0 0)) ∧ ∀ j (h1 : j < vs.length) (h2 : j < bss.length), SlV w B vs[j] bss[j]
theorem Cps.zero {w : World} {B n : Nat} {bss : List (List UInt8)} (h : Own w B 25 (.slice (some ⟨B, 0, none⟩) n n) (List.replicate n (.slice none 0 0))) : Cps w B n bss 0 :=
  ⟨[], rfl, by simpa using h, fun j h1 => absurd h1 (by simp)⟩
theorem Cps.below {w w' : World} {B n k : Nat} {bss : List (List UInt8)} (h : Cps w B n bss k) (hb : Below w.heap.size w w') : Cps w' B n bss k := by
  obtain ⟨vs, h1, h2, h3⟩ := h
  exact ⟨vs, h1, Own.below h2 hb, fun j g1 g2 => (h3 j g1 g2).below hb⟩
theorem Cps.put {w : World} {B n k : Nat} {bss : List (List UInt8)} (h : Cps w B n bss k) (hk : k < n) (v : Value) (hv : ∀ h2 : k < bss.length, SlV w B v bss[k]) : Cps (w.setCell ⟨B, k, none⟩ v) B n bss (k + 1) := by
  obtain ⟨vs, h1, h2, h3⟩ := h
  refine ⟨vs ++ [v], by simp [h1], ?_, fun j g1 g2 => ?_⟩
  · have := h2.set k v
    rw [List.set_append_right _ _ (by omega), h1, Nat.sub_self, show n - k = (n - (k + 1)) + 1 by omega, List.replicate_succ, List.set_cons_zero] at this
    rw [List.append_assoc]
    exact this
  · rcases Nat.lt_or_ge j vs.length with hj | hj
    · rw [List.getElem_append_left hj]
      exact (h3 j hj g2).set
    · have : j = k := by simp at g1; omega
      subst this
      rw [List.getElem_append_right hj]
      simp only [h1, Nat.sub_self, List.getElem_cons_zero]
      exact (hv g2).set
theorem Cps.cell {w : World} {B n k : Nat} {bss : List (List UInt8)} (h : Cps w B n bss k) (j : Nat) (hj : j < n) (hk : k ≤ n) : ∃ u, w.cell? ⟨B, j, none⟩ = some u := by
  obtain ⟨vs, h1, h2, h3⟩ := h
  have : j < (vs ++ List.replicate (n - k) (Value.slice none 0 0)).length := by simp [h1]; omega
  exact ⟨_, h2.cell j this⟩
theorem Cps.free {w : World} {B n k : Nat} {bss : List (List UInt8)} (h : Cps w B n bss k) (j : Nat) : w.frozen? ⟨B, j, none⟩ = false := by
  obtain ⟨vs, h1, h2, h3⟩ := h
  exact h2.free j
theorem Cps.rds {w : World} {B n : Nat} {bss : List (List UInt8)} (h : Cps w B n bss n) (hn : bss.length = n) : RdS w (some ⟨B, 0, none⟩) bss := by
  obtain ⟨vs, h1, h2, h3⟩ := h
  rw [Nat.sub_self, List.replicate_zero, List.append_nil] at h2
  obtain ⟨A, c, e, q1, q2, q3, q4, _⟩ := Own.form h2
  injection e with e1 e2 e3
  subst e1
  obtain ⟨_, hlt, _⟩ := q4 _ rfl
  refine .inr ⟨B, 0, rfl, hlt, fun k hk => ?_⟩
  obtain ⟨Ak, ck, g1, g2, g3, g4, _⟩ := h3 k (by omega) hk
  refine ⟨Ak, ck, ?_, g2, g3, g4⟩
  rw [Nat.zero_add, h2.cell k (by omega), g1]
end Go.Proofs.Ytcffinkkfdfcaaa

/- Cuts of slices whose bound is known under another spelling. Conditions: the bound lies in the slice. -/
namespace Go.Proofs.Ytcffinkkfdfcaaa
open Go Go.RowKit

/-- A guarded operation whose guard lets it run is walked as a plain one. -/
theorem wpList_open {P : Program} {ops : Array Oper} {Q : Exit → Act → World → Prop} {a : Act} {w : World} {rest : List Oper} {o : Oper} (hw : Region.wanted o (yielded ops a.tmps) = true)
    (h : wpList P ops Q ({ o with guard := none } :: rest) a w) : wpList P ops Q (o :: rest) a w := by
  unfold wpList at h ⊢
  rw [if_pos hw]
  rw [if_pos (by simp [Region.wanted])] at h
  exact h
theorem wpList_sliceTo (w : World) {ops : Array Oper} {rest : List Oper} {o : Oper} {a : Act} {Q : Exit → Act → World → Prop} (hgd : o.guard = none) (x y : Operand) (ho : o.op = .slice 25 x none (some y) none)
    (A : Option Addr) (m c : Nat) (hx : a.eval x = .slice A m c) (V : Int) (hy : a.eval y = .int .i64 V) (k : Nat) (hV : V = (k : Int)) (hk : k ≤ c)
    (h : wpList Try.prog ops Q rest (a.put o.dst (.slice A k c)) w) : wpList Try.prog ops Q (o :: rest) a w := by
  subst hV
  refine wpList_plain hgd fun K hK => ?_
  have hk' : (k : Int) ≤ (c : Int) := by omega
  unfold Oper.wp execOp
  simp only [ho, Option.map_some, Option.map_none, hx, hy]
  go_simp
  exact hK _ _ h

theorem wpList_sliceFrom (w w0 : World) {ops : Array Oper} {rest : List Oper} {o : Oper} {a : Act} {Q : Exit → Act → World → Prop} (hgd : o.guard = none) (x y : Operand) (ho : o.op = .slice 25 x (some y) none none)
    (A : Option Addr) (m c : Nat) (hx : a.eval x = .slice A m c) (V : Int) (hy : a.eval y = .int .i64 V) (k : Nat) (hV : V = (k : Int)) (hk : k ≤ m) (hm : m ≤ c) (l : List UInt8) (hl : l.length = m) (hr : Rd w0 A (l.map bv))
    (h : ∀ A' c', Rd w0 A' ((l.drop k).map bv) → m - k ≤ c' → c' ≤ c → wpList Try.prog ops Q rest (a.put o.dst (.slice A' (m - k) c')) w) : wpList Try.prog ops Q (o :: rest) a w := by
  subst hV
  refine wpList_plain hgd fun K hK => ?_
  have hk' : (k : Int) ≤ (m : Int) := by omega
  have hc := hr.cut (k := k) (n := m) (c := c) (by rw [List.length_map]; exact hl) hk hm
  rw [← List.map_drop] at hc
  unfold Oper.wp execOp
  simp only [ho, Option.map_some, Option.map_none, hx, hy]
  go_simp
  exact hK _ _ (h _ _ hc (by omega) (by omega))

/-- 'append(v, x)' of one slice, laid in a new block. -/
theorem wpList_appS1 (w : World) {ops : Array Oper} {rest : List Oper} {o : Oper} {a : Act} {Q : Exit → Act → World → Prop} (hgd : o.guard = none) (s x : Operand)
    (ho : o.op = .call { callee := .builtin .append, args := #[s, x], argTypes := #[94, 94] })
    (B : Nat) (v : Value) (vs : List Value) (hs : a.eval s = v) (hown : Own w B 25 v vs) (X : Value) (hx : a.eval x = .slice (some ⟨w.heap.size, 0, none⟩) 1 1) (h1 : X.oneCell' = true)
    (hlen : vs.length + 1 ≤ 1000000000000) (hB : B ≤ w.heap.size)
    (h : ∀ v' w', Own w' B 25 v' (vs ++ [X]) → (w.alloc (.cells #[X] 25)).grownBy w' v.ownBlock → wpList Try.prog ops Q rest (a.put o.dst v') w') : wpList Try.prog ops Q (o :: rest) a (w.alloc (.cells #[X] 25)) := by
  obtain ⟨i0, hi, hz0, hz1, hz2⟩ := info_parts info_sl
  refine wpList_app _ hgd s x 94 ho B 25 i0 (.slice none 0 0) 24 Try.underlying94 hi hz0 hz1 hz2 rfl v vs hs (Own.alloc hown _) _ 1 1 [X] hx rfl (.inr ⟨w.heap.size, 0, rfl, by simp, fun k hk => ?_⟩) (fun u hu => by simp at hu; subst hu; exact h1) (by unfold maxLen; omega) (by omega) (by simp; omega) (fun v' w' g1 g2 _ => h v' w' g1 g2)
  have : k = 0 := by simp at hk; omega
  subst this
  exact cell_of_row _ _ 0 _ _ (0, 0) (heap_alloc_new w _)

/-- The values are slices of these bytes, in the memory of that world. -/
def SlL (w : World) (vs : List Value) (bss : List (List UInt8)) : Prop :=
  vs.length = bss.length ∧ ∀ j (h1 : j < vs.length) (h2 : j < bss.length), ∃ A c, vs[j] = .slice A bss[j].length c ∧ Rd w A (bss[j].map bv) ∧ bss[j].length ≤ c ∧ c ≤ maxLen
theorem SlL.nil_ (w : World) : SlL w [] [] := ⟨rfl, fun j h => absurd h (by simp)⟩
theorem SlL.snoc {w : World} {vs : List Value} {bss : List (List UInt8)} (h : SlL w vs bss) (A : Option Addr) (n c : Nat) (b : List UInt8) (hn : b.length = n) (hr : Rd w A (b.map bv)) (h1 : n ≤ c) (h2 : c ≤ maxLen) : SlL w (vs ++ [.slice A n c]) (bss ++ [b]) := by
  refine ⟨by simp [h.1], fun j g1 g2 => ?_⟩
  rcases Nat.lt_or_ge j vs.length with hj | hj
  · rw [List.getElem_append_left hj]
    obtain ⟨A', c', q1, q2, q3, q4⟩ := h.2 j hj (by have := h.1; omega)
    refine ⟨A', c', ?_, ?_⟩
    · rw [q1, List.getElem_append_left (by have := h.1; omega)]
    · rw [List.getElem_append_left (by have := h.1; omega)]; exact ⟨q2, q3, q4⟩
  · have e : j = vs.length := by simp at g1; omega
    subst e
    have e2 := h.1
    refine ⟨A, c, ?_, ?_⟩
    · simp [e2, hn]
    · simp [e2, hn]; exact ⟨hr, h1, h2⟩
theorem SlL.rds {w w' : World} {B : Nat} {v : Value} {vs : List Value} {bss : List (List UInt8)} (h : SlL w vs bss) (hb : Below w.heap.size w w') (ho : Own w' B 25 v vs) :
    ∃ A c, v = .slice A bss.length c ∧ RdS w' A bss := by
  obtain ⟨A, c, e, q1, q2, q3, q4, _⟩ := Own.form ho
  refine ⟨A, c, by rw [e, h.1], ?_⟩
  rcases Nat.eq_zero_or_pos bss.length with h0 | h0
  · left; exact List.eq_nil_of_length_eq_zero h0
  · obtain ⟨b, off, rfl, hlt, hc⟩ := q3.addr (by rw [h.1]; exact h0)
    refine .inr ⟨b, off, rfl, hlt, fun k hk => ?_⟩
    have hk' : k < vs.length := by rw [h.1]; exact hk
    obtain ⟨Ak, ck, g1, g2, g3, g4⟩ := h.2 k hk' hk
    exact ⟨Ak, ck, by rw [hc k hk', g1], g2.below hb, g3, g4⟩
end Go.Proofs.Ytcffinkkfdfcaaa
