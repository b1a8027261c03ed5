/- Parts one behind the other: What the reference's Get answers, with where the item's texts lie; What the reference's sizes answers: the bytes of the items of the kinds 1 and up, or an error; What the reference's number answers; What the reference's GetHello answers; A tag's cells; What feat.Ceiling, feat.May and the reference's May answer; What bytes say as a Select: plain data; How a law's argument is opened: an event by value; a slice of events; How a law's argument is opened: a list of items; How a law's argument is opened: data with a part, by value; An array of 32 bytes by value, opened: its bytes. Conditions: as told at each. -/
import Derived.Test.YtcffinkkfdfcaaaPBodyGets4
import Derived.Test.YtcffinkkfdfcaaaPBodyGets8
import Derived.Test.YtcffinkkfdfcaaaPBodyGets6
import Derived.Test.YtcffinkkfdfcaaaPBodyGets5
import Derived.Great.BuildSlice
import Derived.Test.YtcffinkkfdfcaaaPBodyGets1
import Derived.Laws.BitsAllLaws
import Derived.Deep.Fields
import Derived.WideKeyArr2

/- What the reference's Get answers, with where the item's texts lie. Conditions: a list that can be read. -/
namespace Go.Proofs.Ytcffinkkfdfcaaa
open Go Go.RowKit

set_option maxRecDepth 100000 in
set_option maxHeartbeats 4000000 in
theorem refGet_k (f : Fo) (ok : Nat → Prop) (A : Option Addr) (n c : Nat) (x : Int) (w : World) (hn : f.len = n) (h1 : FoR ok w A 0 f) (hl : n ≤ 2199023255488) :
    Calls Try.prog 75 #[.slice A n c, .int .i64 x] w fun r w' => ∃ d : ItV, r = .returned (.tuple #[d.val, .bool (hasI x f)]) ∧ ItsR ok w' [d] (getI x f) ∧ Below w.heap.size w w' := by
  have HN := Lib.hid hn; clear hn
  have H1 := Lib.hid h1; clear h1
  obtain ⟨B, eB⟩ : ∃ B, B = hasI x f := ⟨_, rfl⟩
  obtain ⟨T, eT⟩ : ∃ T, T = getI x f := ⟨_, rfl⟩
  rw [← eT, ← eB]
  have ET := Lib.hid eT; clear eT
  have EB := Lib.hid eB; clear eB
  obtain ⟨w1, ew1⟩ : ∃ w1, w1 = w.alloc (.cells #[.int .i64 0, .bool false, .bool false, .slice none 0 0, .slice none 0 0] 76) := ⟨_, rfl⟩
  obtain ⟨gr, egr⟩ : ∃ gr, gr = w.heap.size := ⟨_, rfl⟩
  have b1 : Below w.heap.size w w1 := by rw [ew1]; exact (Below.refl _ _).alloc (Nat.le_refl _) _
  have g1 : w1.heap[gr]? = some (.cells ItV.zer.cells.toArray 76 (0, 0)) := by rw [ew1, egr]; exact heap_alloc_new _ _
  have EW1 := Lib.hid ew1
  have EGR := Lib.hid egr
  have B1 := Lib.hid b1
  have G1 := Lib.hid g1
  clear ew1 egr b1 g1
  go_enter Try.func75, Try.ntmps75
  go_upto_region 1 with (fail)
  rw [← EW1.out, ← EGR.out]
  go_wp2_with (fail)
  go_loopw [6] (fun i wr => ∃ (q : Nat) (r : Fo), i = .int .i64 q ∧ Hid (q + r.len = n) ∧ Hid (FoR ok w A q r) ∧ Hid (B = hasI x r) ∧ Hid (T = getI x r) ∧ wr = w1) (fun i _ => n - (intOf i).toNat)
  case atStart => exact ⟨0, f, rfl, Lib.hid (by rw [HN.out]; omega), H1, EB, ET, rfl⟩
  case round =>
    obtain ⟨q, r, rfl, HK, R1, HBr, HTr, ewr⟩ := hrel
    have HB : Hid (Below w.heap.size w wr) := by rw [ewr]; exact B1
    have HG : Hid (wr.heap[gr]? = some (.cells ItV.zer.cells.toArray 76 (0, 0))) := by rw [ewr]; exact G1
    have EWR := Lib.hid ewr
    clear ewr
    obtain ⟨⟨s0, s1, s2, s3, s4⟩, f0, f1, f2, f3, f4⟩ := five_of HG.out
    cases r with
    | nil =>
      have hk : q = n := HK.out
      have hk' : (n : Int) ≤ (q : Int) := by omega
      have eB2 : B = false := HBr.out
      obtain ⟨w8, ew8⟩ : ∃ w8, w8 = set5 wr gr ItV.zer := ⟨_, rfl⟩
      have h8 : w8.heap[gr]? = some (.cells ItV.zer.cells.toArray 76 (0, 0)) := by rw [ew8]; exact set5_heap HG.out _
      have b8 : Below w.heap.size w w8 := by rw [ew8]; exact HB.out.trans ((set5_keeps wr gr ItV.zer).below (fun j hj => ⟨Nat.lt_of_lt_of_le hj HB.out.size, by have := EGR.out; omega⟩))
      obtain ⟨⟨v0, v1, v2, v3, v4⟩, -⟩ := five_of h8
      have B8 := Lib.hid b8
      have EB2 := Lib.hid eB2
      unfold set5 at ew8
      unfold ItV.zer at s0 s1 s2 s3 s4 ew8 v0 v1 v2 v3 v4
      dsimp only at s0 s1 s2 s3 s4 ew8 v0 v1 v2 v3 v4
      have EW8 := Lib.hid ew8
      clear hk eB2 ew8 h8 b8
      go_wp2_with (fail)
      rw [← EW8.out]
      refine bodyPost_ret (v := .tuple #[.agg #[.int .i64 0, .bool false, .bool false, .slice none 0 0, .slice none 0 0], .bool false]) (by simp [results, Try.results75, go_sem, v0, v1, v2, v3, v4]) rfl ?_
      rw [EB2.out]
      exact ⟨ItV.zer, rfl, by rw [HTr.out]; exact ItsR.one (TxtO.nil_ _ _).r rfl trivial (Nat.le_refl _) (Nat.zero_le _) (by simp [Fo.len]), B8.out⟩
    | cons z cr li bs sub rest =>
      obtain ⟨⟨b1, o1, At, m, cm, As1, e1, eA, hb1, -, ⟨c0, ca, cb, cc, cd⟩, tt, ss1, l1, l2, l3⟩, r1⟩ := R1.out.one
      subst eA
      have hlt : q < n := by have := HK.out; simp only [Fo.len] at this; omega
      have kb := HB.out
      have TT := Lib.hid tt
      have S1 := Lib.hid ss1
      have R1b := Lib.hid r1
      rw [← kb.cell (p := ⟨b1, _, none⟩) hb1] at c0 ca cb cc cd
      have HKb : Hid (q + 1 + rest.len = n) := Lib.hid (by have := HK.out; simp only [Fo.len] at this; omega)
      obtain ⟨sl, esl⟩ : ∃ sl, sl = sub.len := ⟨_, rfl⟩
      rw [← esl] at cd l1 l3
      have ESL := Lib.hid esl
      have L1 := Lib.hid l1
      have L2 := Lib.hid l2
      have hlt' : (q : Int) < (n : Int) := by omega
      clear tt ss1 r1 esl HK R1 kb l1 l2
      by_cases hin : z = x
      · have d0 : (z == x) = true := by rw [hin]; exact beq_self_eq_true _
        have hB : B = true := HBr.out.trans (if_pos hin)
        have hT : T = .cons z cr li bs sub .nil := HTr.out.trans (if_pos hin)
        have HB' := Lib.hid hB
        have HT' := Lib.hid hT
        clear hin hB hT
        obtain ⟨w8, ew8⟩ : ∃ w8, w8 = set5 wr gr ⟨z, cr, li, At, m, cm, As1, sl, e1⟩ := ⟨_, rfl⟩
        have h8 : w8.heap[gr]? = some (.cells (ItV.cells ⟨z, cr, li, At, m, cm, As1, sl, e1⟩).toArray 76 (0, 0)) := by rw [ew8]; exact set5_heap HG.out _
        have k8 : Keeps (fun j => j = gr) wr w8 := by rw [ew8]; exact set5_keeps _ _ _
        have b8 : Below w.heap.size w w8 := HB.out.trans (k8.below (fun j hj => ⟨Nat.lt_of_lt_of_le hj HB.out.size, by have := EGR.out; omega⟩))
        have ho8 : ItsR ok w8 [⟨z, cr, li, At, m, cm, As1, sl, e1⟩] (.cons z cr li bs sub .nil) :=
          ItsR.one (TT.out.frame (fun j _ hj => b8.block j hj) b8.size) ESL.out (S1.out.below b8) L1.out L2.out (by rw [← ESL.out]; exact l3)
        have HO8 := Lib.hid ho8
        obtain ⟨⟨v0, v1, v2, v3, v4⟩, -⟩ := five_of h8
        have B8 := Lib.hid b8
        unfold set5 at ew8
        unfold ItV.zer at s0 s1 s2 s3 s4
        dsimp only at s0 s1 s2 s3 s4 ew8 v0 v1 v2 v3 v4
        have EW8 := Lib.hid ew8
        clear ew8 h8 b8 k8 ho8
        go_wp2_with (fail)
        rw [← EW8.out]
        refine bodyPost_ret (v := .tuple #[.agg #[.int .i64 z, .bool cr, .bool li, .slice At m cm, .slice As1 sl e1], .bool true]) (by simp [results, Try.results75, go_sem, v0, v1, v2, v3, v4]) rfl ?_
        rw [HB'.out, HT'.out]
        exact ⟨⟨z, cr, li, At, m, cm, As1, sl, e1⟩, rfl, HO8.out, B8.out⟩
      · have d0 : (z == x) = false := by rw [beq_eq_false_iff_ne]; exact hin
        have hB : B = hasI x rest := HBr.out.trans (if_neg hin)
        have hT : T = getI x rest := HTr.out.trans (if_neg hin)
        have HB' := Lib.hid hB
        have HT' := Lib.hid hT
        clear hin hB hT s0 s1 s2 s3 s4 f0 f1 f2 f3 f4
        go_wp2_with (fail)
        go_roundw
        case rel => exact ⟨q + 1, rest, by go_num, HKb, R1b, HB', HT', EWR.out⟩
        case measure => simp [intOf]; omega
end Go.Proofs.Ytcffinkkfdfcaaa

/- What the reference's sizes answers: the bytes of the items of the kinds 1 and up, or an error. Conditions: bytes and sizes that can be read. -/
namespace Go.Proofs.Ytcffinkkfdfcaaa
open Go Go.RowKit

def szE (bs : List UInt8) (zs : List Nat) : Nat := (szG (opS bs zs.length) zs).2.err
def szL (bs : List UInt8) (zs : List Nat) : List (List UInt8) := (szG (opS bs zs.length) zs).1
def nI (zs : List Nat) : List Int := List.map (fun z : Nat => (z : Int)) zs
/-- The values are slices of these bytes, in blocks of a kind. -/
def SlT (ok : Nat → Prop) (w : World) (vs : List Value) (bss : List (List UInt8)) : Prop :=
  vs.length = bss.length ∧ ∀ j (h1 : j < vs.length) (h2 : j < bss.length), ∃ A c, vs[j] = .slice A bss[j].length c ∧ TxtR ok w A bss[j].length c bss[j]
theorem SlT.nil_ (ok : Nat → Prop) (w : World) : SlT ok w [] [] := ⟨rfl, fun j h => absurd h (by simp)⟩
theorem SlT.frame {ok : Nat → Prop} {w w' : World} {vs : List Value} {bss : List (List UInt8)} (h : SlT ok w vs bss) (hk : ∀ k, ok k → k < w.heap.size → w'.heap[k]? = w.heap[k]?) (hs : w.heap.size ≤ w'.heap.size) : SlT ok w' vs bss :=
  ⟨h.1, fun j h1 h2 => by
    obtain ⟨A, c, q1, q2⟩ := h.2 j h1 h2
    exact ⟨A, c, q1, q2.frame hk hs⟩⟩
theorem SlT.snoc {ok : Nat → Prop} {w : World} {vs : List Value} {bss : List (List UInt8)} (h : SlT ok w vs bss) (A : Option Addr) (n c : Nat) (b : List UInt8) (ht : TxtR ok w A n c b) : SlT ok w (vs ++ [.slice A n c]) (bss ++ [b]) := by
  refine ⟨by simp [h.1], fun j g1 g2 => ?_⟩
  rcases Nat.lt_or_ge j vs.length with hj | hj
  · rw [List.getElem_append_left hj]
    obtain ⟨A', c', q1, q2⟩ := h.2 j hj (by have := h.1; omega)
    refine ⟨A', c', ?_, ?_⟩
    · rw [q1, List.getElem_append_left (by have := h.1; omega)]
    · rw [List.getElem_append_left (by have := h.1; omega)]; exact q2
  · have e : j = vs.length := by simp at g1; omega
    subst e
    have e2 := h.1
    refine ⟨A, c, ?_, ?_⟩
    · simp [e2, ht.1]
    · simp only [e2, List.getElem_concat_length]; rw [ht.1]; exact ht
theorem SlT.l {ok : Nat → Prop} {w : World} {vs : List Value} {bss : List (List UInt8)} (h : SlT ok w vs bss) : SlL w vs bss :=
  ⟨h.1, fun j h1 h2 => by
    obtain ⟨A, c, q1, -, q2, q3, q4, -⟩ := h.2 j h1 h2
    exact ⟨A, c, q1, q2, q3, q4⟩⟩
theorem ItsR.parts {ok : Nat → Prop} {w : World} {d : ItV} {I : Fo} (h : ItsR ok w [d] I) : d.li = itL I ∧ TxtR ok w d.A d.n d.c (itB I) ∧ FoR ok w d.As 0 (itS I) ∧ d.ns = (itS I).len ∧ (itS I).len ≤ d.cs ∧ d.cs ≤ maxLen ∧ (itS I).len ≤ 2199023255488 := by
  cases I with
  | nil => cases h
  | cons k cr li bs sub rest =>
    obtain ⟨d', ds', e, h1, h2, h3, h4, ⟨h5, h6, h7, h8, h9⟩, -⟩ := h
    injection e with e1 e2
    subst e1
    exact ⟨h3, h4, h6, h5, h7, h8, h9⟩
theorem szG_step {s : FS} {zs : List Nat} {q : Nat} (hq : q < zs.length) : szG s (zs.drop q) = (byB s zs[q] :: (szG (byS s zs[q]) (zs.drop (q + 1))).1, (szG (byS s zs[q]) (zs.drop (q + 1))).2) := by
  rw [List.drop_eq_getElem_cons hq]; rfl
/-- How far the reference has come: the state, the bytes so far. -/
structure SzI (s0 : FS) (zs : List Nat) (q : Nat) (s : FS) (done : List (List UInt8)) : Prop where
  eq : szG s0 zs = (done ++ (szG s (zs.drop q)).1, (szG s (zs.drop q)).2)
  len : done.length = q
  l : s.l = s0.l
  at_ : s.at_ = q
  err : s.err = 0
theorem SzI.start {s0 : FS} {zs : List Nat} (h : s0.err = 0) (ha : s0.at_ = 0) : SzI s0 zs 0 s0 [] := ⟨by simp, rfl, rfl, ha, h⟩
theorem SzI.next {s0 s : FS} {zs : List Nat} {q : Nat} {done : List (List UInt8)} (h : SzI s0 zs q s done) (hq : q < zs.length) (he : (byS s zs[q]).err = 0) : SzI s0 zs (q + 1) (byS s zs[q]) (done ++ [byB s zs[q]]) :=
  ⟨by rw [h.eq, szG_step hq]; simp, by simp [h.len], by rw [byS_l, h.l], by rw [byS_at, h.at_], he⟩
theorem SzI.bad {s0 s : FS} {zs : List Nat} {q e : Nat} {done : List (List UInt8)} (h : SzI s0 zs q s done) (hq : q < zs.length) (he : (byS s zs[q]).err = e) (h0 : e ≠ 0) : (szG s0 zs).2.err = e := by
  rw [h.eq, szG_step hq]
  show (szG (byS s zs[q]) (zs.drop (q + 1))).2.err = e
  rw [szG_sticks _ _ (by rw [he]; exact h0), he]
theorem SzI.fin {s0 s : FS} {zs : List Nat} {q : Nat} {done : List (List UInt8)} (h : SzI s0 zs q s done) (hq : q = zs.length) : (szG s0 zs).1 = done ∧ (szG s0 zs).2.err = 0 := by
  have e : zs.drop q = [] := by rw [hq]; simp
  rw [h.eq, e]
  exact ⟨by simp [szG], h.err⟩
set_option maxRecDepth 100000 in
set_option maxHeartbeats 4000000 in
theorem sizes_c (bs : List UInt8) (A : Option Addr) (n c : Nat) (zs : List Nat) (As : Option Addr) (nz cs : Nat) (w : World) (hn : bs.length = n) (hr : Rd w A (bs.map bv)) (hc : n ≤ c) (hcm : c ≤ maxLen) (hl : n ≤ 140737488355328) (hz : RdI w As (nI zs)) (hnz : zs.length = nz) (hk : nz ≤ 10) (hzz : ∀ z ∈ zs, z ≤ 1000) :
    Calls Try.prog 52 #[.slice A n c, .slice As nz cs] w fun r w' => ∃ v, r = .returned (.tuple #[v, .int .i64 (szE bs zs : Int)]) ∧ (szE bs zs = 0 → ∃ X cX, v = .slice X nz cX ∧ RdS w' X (szL bs zs)) ∧ Below w.heap.size w w' := by
  have HN := Lib.hid hn
  have HR := Lib.hid hr
  have HC := Lib.hid hc
  have HCM := Lib.hid hcm
  have HZ := Lib.hid hz
  have HNZ := Lib.hid hnz
  have HZZ := Lib.hid hzz
  obtain ⟨E, eE⟩ : ∃ E, szE bs zs = E := ⟨_, rfl⟩
  obtain ⟨L, eL⟩ : ∃ L, szL bs zs = L := ⟨_, rfl⟩
  rw [eE, eL]
  have HE := Lib.hid eE
  have HLL := Lib.hid eL
  clear hn hr hc hcm hz hnz hzz eE eL
  go_enter Try.func52, Try.ntmps52
  go_wp2_with (fail)
  refine (refDecodeT_c bs A n c w HN.out HR.out HC.out HCM.out hl).mono ?_
  rintro _ w1 ⟨v1, rfl, ho, hb⟩
  obtain ⟨A1, c1, rfl, -, -, r1⟩ := ho.form (n := (decT bs).2.len) rfl
  obtain ⟨D, eD⟩ : ∃ D, (decT bs).1 = D := ⟨_, rfl⟩
  obtain ⟨L1, eL1⟩ : ∃ L1, (decT bs).2 = L1 := ⟨_, rfl⟩
  have hsz : L1.size ≤ 64 := by rw [← eL1]; exact decT_size bs
  rw [eL1] at r1
  rw [eD, eL1]
  have HS0 : Hid (opS bs zs.length = knS L1 nz D) := Lib.hid (by unfold opS; rw [eD, eL1, HNZ.out])
  have R1 := Lib.hid r1
  have HB1 := Lib.hid hb
  have HSZ := Lib.hid hsz
  clear ho hb r1 eD eL1 hsz
  by_cases h0 : D = 0
  · have d0 : ((D : Int) != 0) = false := by rw [h0]; rfl
    have H0 := Lib.hid h0
    clear h0
    obtain ⟨w2, ew2⟩ : ∃ w2, w2 = w1.alloc (.cells #[] 3) := ⟨_, rfl⟩
    have b2 : Below w1.heap.size w1 w2 := by rw [ew2]; exact (Below.refl _ _).alloc (Nat.le_refl _) _
    have HO2 : Hid (OwnZ w2 w1.heap.size (.slice (some ⟨w1.heap.size, 0, none⟩) 0 0) (kindsL 0)) := Lib.hid (by rw [ew2]; exact World.ownsRow_made w1 #[] 0 (Nat.le_refl _) (Nat.zero_le _) rfl)
    have K12 := Lib.hid b2
    have EW2 := Lib.hid ew2
    clear ew2 b2
    go_upto_region 5 with (fail)
    rw [← EW2.out]
    go_wp2_with (fail)
    go_loopw [8, 25] (fun v i wr => ∃ q : Nat, q ≤ nz ∧ i = .int .i64 q ∧ Hid (OwnZ wr w1.heap.size v (kindsL q)) ∧ Hid (Below w1.heap.size w1 wr)) (fun _ i _ => nz - (intOf i).toNat)
    case atStart => exact ⟨0, by omega, rfl, HO2, K12⟩
    case round =>
      obtain ⟨q, hq, rfl, HO, HB⟩ := hrel
      have hsz : w1.heap.size ≤ wr.heap.size := HB.out.size
      by_cases hlt : q < nz
      · have hlt' : (q : Int) < (nz : Int) := by omega
        go_wp2_with (first | (at_builtin; refine wpList_appZ1 wr rfl (.tmp 28) (.tmp 31) rfl w1.heap.size u8 (kindsL q) rfl HO.out _ rfl ((q : Int) + 1) rfl (by rw [kindsL_len]; omega) hsz ?_; intro v' w' h1 h2; have HO2 := Lib.hid h1; have HB2 := Lib.hid (HB.out.trans h2); clear h1 h2))
        go_roundw
        case rel => exact ⟨q + 1, by omega, by go_num, Lib.hid (by rw [kindsL_succ]; exact HO2.out), HB2⟩
        case measure => simp [intOf]; omega
      · obtain rfl : nz = q := by omega
        obtain ⟨Ak, ck, rfl, hc1, hc2, rk⟩ := HO.out.form
        rw [kindsL_len]
        have RK := Lib.hid rk
        clear rk hc1 hc2
        have HBr : Hid (Below w.heap.size w wr) := Lib.hid (HB1.out.trans (HB.out.mono HB1.out.size))
        have RR := Lib.hid (R1.out.below HB.out)
        go_wp2_with (fail)
        refine (refPick_c L1 _ A1 _ c1 Ak nz ck (kindsL nz) wr rfl RR.out (by have := Fo.len_le L1; have := HSZ.out; omega) (kindsL_len nz) RK.out (by omega)).mono ?_
        rintro _ w3 ⟨v3, rfl, ho3, hb3⟩
        obtain ⟨E3, eE3⟩ : ∃ E3, (pickT (kindsL nz) L1).1 = E3 := ⟨_, rfl⟩
        obtain ⟨L3, eL3⟩ : ∃ L3, (pickT (kindsL nz) L1).2 = L3 := ⟨_, rfl⟩
        have hsz3 : L3.size ≤ 64 := by rw [← eL3]; exact Nat.le_trans (pickT_size _ _) HSZ.out
        have hl3 := Fo.len_le L3
        rw [eL3] at ho3
        rw [eE3]
        have HS3 : Hid (opS bs zs.length = ⟨L3, 0, E3⟩) := Lib.hid (by rw [HS0.out, knS, if_neg (by rw [H0.out]; simp), eE3, eL3])
        obtain ⟨A3, c3, rfl, -, -, r3⟩ := ho3.form (n := L3.len) rfl
        have HB3 : Hid (Below w.heap.size w w3) := Lib.hid (HBr.out.trans (hb3.mono (Nat.le_trans HB1.out.size hsz)))
        have R3 : Hid (FoR (· < w3.heap.size) w3 A3 0 L3) := Lib.hid (r3.weak (fun _ _ h => h))
        have HL3 : Hid (L3.len ≤ 64) := Lib.hid (by omega)
        clear ho3 hb3 r3 eE3 eL3 hsz3 hl3
        by_cases h3 : E3 = 0
        · have d3 : ((E3 : Int) != 0) = false := by rw [h3]; rfl
          have hS3 : opS bs zs.length = ⟨L3, 0, 0⟩ := HS3.out.trans (by rw [h3])
          have HSS := Lib.hid hS3
          clear h3 hS3
          obtain ⟨w4, ew4⟩ : ∃ w4, w4 = w3.alloc (.cells #[] 25) := ⟨_, rfl⟩
          have HO4 : Hid (Own w4 w3.heap.size 25 (.slice (some ⟨w3.heap.size, 0, none⟩) 0 0) []) := Lib.hid (by rw [ew4]; exact World.ownsRow_made w3 #[] 0 (Nat.le_refl _) (Nat.zero_le _) rfl)
          have HB4 : Hid (Below w3.heap.size w3 w4) := Lib.hid (by rw [ew4]; exact (Below.refl _ _).alloc (Nat.le_refl _) _)
          have EW4 := Lib.hid ew4
          clear ew4
          go_upto_region 14 with (fail)
          rw [← EW4.out]
          go_wp2_with (fail)
          go_loopw [10, 46] (fun v i wr => ∃ (q : Nat) (s : FS) (done : List (List UInt8)) (vs : List Value), q ≤ nz ∧ i = .int .i64 q ∧ Hid (SzI ⟨L3, 0, 0⟩ zs q s done) ∧ Hid (Own wr w3.heap.size 25 v vs) ∧ Hid (SlT (· < w3.heap.size) wr vs done ∧ vs.length = q) ∧ Hid (Below w3.heap.size w3 wr)) (fun _ i _ => nz - (intOf i).toNat)
          case atStart => exact ⟨0, ⟨L3, 0, 0⟩, [], [], by omega, rfl, Lib.hid (SzI.start rfl rfl), HO4, Lib.hid ⟨SlT.nil_ _ _, rfl⟩, HB4⟩
          case round =>
            obtain ⟨wo, rfl⟩ : ∃ wo, wo = wr := ⟨_, rfl⟩
            obtain ⟨q, s, done, vs, hq, rfl, HI, HO5, HSL, HB5⟩ := hrel
            have hz5 : w3.heap.size ≤ wo.heap.size := HB5.out.size
            by_cases hlt : q < nz
            · have hlt' : (q : Int) < (nz : Int) := by omega
              have hqz : q < zs.length := by rw [HNZ.out]; exact hlt
              obtain ⟨Bq, eB⟩ : ∃ Bq, nxB s = Bq := ⟨_, rfl⟩
              obtain ⟨I, eI⟩ : ∃ I, nxI s = I := ⟨_, rfl⟩
              have eB2 : hasI ((q : Int) + 1) L3 = Bq := by rw [← eB]; unfold nxB; rw [if_pos HI.out.err, HI.out.at_, HI.out.l]; rfl
              have eI2 : getI ((q : Int) + 1) L3 = I := by rw [← eI]; unfold nxI; rw [if_pos HI.out.err, HI.out.at_, HI.out.l]; rfl
              have HEB := Lib.hid eB
              have HEI := Lib.hid eI
              have HEB2 := Lib.hid eB2
              have HEI2 := Lib.hid eI2
              have HQZ := Lib.hid hqz
              clear eB eI eB2 eI2 hqz
              go_wp2_with (fail)
              refine (refGet_k L3 (· < w3.heap.size) A3 _ c3 ((q : Int) + 1) wo rfl (R3.out.frame (fun j _ hj => HB5.out.block j hj) hz5) (by have := HL3.out; omega)).mono ?_
              rintro _ w5 ⟨⟨dk, dc, dl, dA, dn, dcc, dAs, dns, dcs⟩, rfl, ho6, hb6⟩
              unfold ItV.val
              dsimp only
              rw [HEI2.out] at ho6
              rw [HEB2.out]
              obtain ⟨hli, ht, -⟩ := ho6.parts
              dsimp only at hli ht
              obtain ⟨gx, egx⟩ : ∃ gx, gx = w5.heap.size := ⟨_, rfl⟩
              obtain ⟨w6, ew6⟩ : ∃ w6, w6 = w5.alloc (.cells #[.int .i64 dk, .bool dc, .bool dl, .slice dA dn dcc, .slice dAs dns dcs] 76) := ⟨_, rfl⟩
              have b6 : Below w5.heap.size w5 w6 := by rw [ew6]; exact (Below.refl _ _).alloc (Nat.le_refl _) _
              have hx6 : w6.heap[gx]? = some (.cells (ItV.cells ⟨dk, dc, dl, dA, dn, dcc, dAs, dns, dcs⟩).toArray 76 (0, 0)) := by rw [ew6, egx]; exact heap_alloc_new _ _
              have hb56 : Below wo.heap.size wo w6 := hb6.trans (b6.mono hb6.size)
              have HX6 := Lib.hid hx6
              have HT6 := Lib.hid (ht.frame (w' := w6) (fun j _ hj => b6.block j hj) b6.size)
              have HB6 := Lib.hid (HB5.out.trans (hb56.mono hz5))
              have HO6 := Lib.hid (Own.below HO5.out hb56)
              have HSL6 := Lib.hid (HSL.out.1.frame (fun j _ hj => hb56.block j hj) hb56.size)
              have HBW : Hid (Below w.heap.size w w6) := Lib.hid (HB3.out.trans (HB6.out.mono HB3.out.size))
              have HLI := Lib.hid hli
              have EW6 := Lib.hid ew6
              have EGX := Lib.hid egx
              clear ho6 hb6 ht egx ew6 b6 hx6 hb56 hli
              go_upto_region 18 with (fail)
              rw [← EW6.out, ← EGX.out]
              cases Bq with
              | false =>
                have hE : E = 12 := by
                  rw [← HE.out]; unfold szE; rw [HSS.out]
                  refine HI.out.bad HQZ.out ?_ (by decide)
                  unfold byS
                  rw [if_neg (by rw [HEB.out]; simp)]
                  show (if s.err = 0 ∧ nxB s = false ∧ true = true then 12 else s.err) = 12
                  rw [if_pos ⟨HI.out.err, HEB.out, rfl⟩]
                have EE := Lib.hid hE
                clear hE
                go_wp2_with (fail)
                go_ret2
                rw [EE.out]
                exact ⟨_, rfl, fun h => absurd h (by decide), HBW.out⟩
              | true =>
                obtain ⟨z, ez⟩ : ∃ z, zs[q]? = some z := ⟨zs[q]'HQZ.out, by rw [List.getElem?_eq_getElem HQZ.out]⟩
                have ez' : zs[q]'HQZ.out = z := by rw [List.getElem?_eq_getElem HQZ.out] at ez; injection ez
                have hz1000 : z ≤ 1000 := HZZ.out z (List.mem_of_getElem? ez)
                obtain ⟨bz, oz, rfl, hbz, hcz⟩ : ∃ b off, As = some ⟨b, off, none⟩ ∧ b < w.heap.size ∧ w.cell? ⟨b, off + q, none⟩ = some (.int .i64 (z : Int)) := by
                  rcases HZ.out with h | ⟨b, off, e, hb, hc⟩
                  · exfalso
                    have := congrArg List.length h
                    simp [nI, HNZ.out] at this; omega
                  · refine ⟨b, off, e, hb, ?_⟩
                    rw [hc q (by simp [nI, HNZ.out]; exact hlt)]
                    simp [nI, ez']
                have hcz6 : w6.cell? ⟨bz, oz + q, none⟩ = some (.int .i64 (z : Int)) := (HBW.out.cell (p := ⟨bz, _, none⟩) hbz).trans hcz
                obtain ⟨⟨x0, x1, x2, x3, x4⟩, -⟩ := five_of HX6.out
                dsimp only at x0 x1 x2 x3 x4
                have hdn := HT6.out.1
                have hbyS : ∀ X, (itL I || !decide ((itB I).length = z)) = X → byS s (zs[q]'HQZ.out) = badS (nxS s true) X := by
                  intro X hX
                  unfold byS
                  rw [if_pos HEB.out, HEI.out, ez', hX]
                have h0n : (nxS s true).err = 0 := nxS_ok HEB.out
                have HBY := Lib.hid hbyS
                have H0N := Lib.hid h0n
                have HDN := Lib.hid hdn
                have EZ := Lib.hid ez'
                have HZ1 := Lib.hid hz1000
                clear ez ez' hz1000 hcz hdn hbyS h0n x0 x1 x4
                by_cases hbad : dl = true ∨ dn ≠ z
                · have hE : E = 3 := by
                    rw [← HE.out]; unfold szE; rw [HSS.out]
                    refine HI.out.bad HQZ.out ?_ (by decide)
                    rw [HBY.out true (by
                      rcases hbad with h | h
                      · rw [← HLI.out, h]; rfl
                      · rw [decide_eq_false (by rw [HDN.out]; exact h)]; simp)]
                    simp [badS, H0N.out]
                  have EE := Lib.hid hE
                  clear hE
                  have hb2 : dl = true ∨ dl = false ∧ dn ≠ z := by
                    cases dl with
                    | true => exact .inl rfl
                    | false => exact .inr ⟨rfl, by rcases hbad with h | h; cases h; exact h⟩
                  clear hbad
                  rcases hb2 with q1 | ⟨q1, q2⟩
                  · subst q1
                    go_wp2_with (fail)
                    go_quiet (fail)
                    go_wp2_with (fail)
                    go_ret2
                    rw [EE.out]
                    exact ⟨_, rfl, fun h => absurd h (by decide), below_drewN HBW.out _⟩
                  · subst q1
                    have d5 : ((dn : Int) != (z : Int)) = true := by rw [bne_iff_ne]; omega
                    clear q2
                    go_wp2_with (fail)
                    go_quiet (fail)
                    go_wp2_with (fail)
                    go_ret2
                    rw [EE.out]
                    exact ⟨_, rfl, fun h => absurd h (by decide), below_drewN HBW.out _⟩
                · obtain ⟨q1, q2⟩ : dl = false ∧ dn = z := by
                    cases dl with
                    | true => exact absurd (.inl rfl) hbad
                    | false =>
                      refine ⟨rfl, ?_⟩
                      rcases Nat.decEq dn z with h | h
                      · exact absurd (.inr h) hbad
                      · exact h
                  subst q1 q2
                  clear hbad
                  have d5 : ((dn : Int) != (dn : Int)) = false := by simp
                  have hby : byS s (zs[q]'HQZ.out) = nxS s true := by rw [HBY.out false (by rw [← HLI.out, decide_eq_true HDN.out]; rfl)]; simp [badS]
                  have hbb : byB s (zs[q]'HQZ.out) = itB I := by
                    unfold byB
                    rw [if_pos ⟨HEB.out, by rw [HEI.out]; exact HLI.out.symm, by rw [HEI.out, EZ.out]; exact HDN.out⟩, HEI.out]
                  have HIN : Hid (SzI ⟨L3, 0, 0⟩ zs (q + 1) (nxS s true) (done ++ [itB I])) := Lib.hid (by
                    have := HI.out.next HQZ.out (by rw [hby]; exact H0N.out)
                    rw [hby, hbb] at this; exact this)
                  clear hby hbb
                  have HSN := Lib.hid (HSL6.out.snoc dA dn dcc (itB I) HT6.out)
                  have HVL : Hid (vs.length ≤ 10) := Lib.hid (by have := HSL.out.2; omega)
                  go_wp2_with (fail)
                  go_quiet (fail)
                  have hz6 : w3.heap.size ≤ (w6.drewN nq).heap.size := HB6.out.size
                  go_wp2_with (first | (at_builtin; refine wpList_appS1 (w6.drewN nq) rfl (.tmp 70) (.tmp 73) rfl w3.heap.size u10 vs rfl (Own.drewN HO6.out nq) _ rfl rfl (by have := HVL.out; omega) hz6 ?_; intro v7 w7 ho7 hg7; have HO7 := Lib.hid ho7; have hb7 := ((Below.refl w3.heap.size (w6.drewN nq)).alloc hz6 (.cells #[.slice dA dn dcc] 25)).grown hg7 (by simp; exact Nat.le_succ_of_le hz6) (fun k e => (Own.lt HO6.out k e).1); have HB7 := Lib.hid ((below_drewN HB6.out nq).trans hb7); have HSL7 := Lib.hid (And.intro (HSN.out.frame (w' := w7) (fun j hj _ => hb7.block j hj) hb7.size) (show (vs ++ [Value.slice dA dn dcc]).length = q + 1 by rw [List.length_append, HSL.out.2]; rfl)); clear ho7 hg7 hb7))
                  go_roundw
                  case rel => exact ⟨q + 1, nxS s true, done ++ [itB I], vs ++ [.slice dA dn dcc], by omega, by go_num, HIN, HO7, HSL7, HB7⟩
                  case measure => simp [intOf]; omega
            · obtain rfl : nz = q := by omega
              obtain ⟨f1, f2⟩ := HI.out.fin HNZ.out.symm
              obtain ⟨X, cX, rfl, hX⟩ := HSL.out.1.l.rds (Below.refl _ _) HO5.out
              have hE : E = 0 := by rw [← HE.out]; unfold szE; rw [HSS.out]; exact f2
              have hL : L = done := by rw [← HLL.out]; unfold szL; rw [HSS.out]; exact f1
              have hdl : done.length = nz := HI.out.len
              rw [hdl]
              have EE := Lib.hid hE
              have EL := Lib.hid hL
              have HXX := Lib.hid hX
              have HBW := Lib.hid (HB3.out.trans (HB5.out.mono HB3.out.size))
              clear f1 f2 hE hL hX hdl
              go_wp2_with (fail)
              go_ret2
              rw [EE.out, EL.out]
              exact ⟨_, rfl, fun _ => ⟨_, _, rfl, HXX.out⟩, HBW.out⟩
        · have d3 : ((E3 : Int) != 0) = true := by rw [bne_iff_ne]; omega
          have eE : E = E3 := by rw [← HE.out]; unfold szE; rw [HS3.out, szG_sticks _ _ h3]
          have EE := Lib.hid eE
          have HD := Lib.hid h3
          clear eE h3
          go_wp2_with (fail)
          go_ret2
          rw [EE.out]
          exact ⟨_, rfl, fun h => absurd h HD.out, HB3.out⟩
  · have d0 : ((D : Int) != 0) = true := by rw [bne_iff_ne]; omega
    have eE : E = D := by rw [← HE.out]; unfold szE; rw [HS0.out, szG_sticks _ _ (by unfold knS; rw [if_pos h0]; exact h0)]; unfold knS; rw [if_pos h0]
    have EE := Lib.hid eE
    have HD := Lib.hid h0
    clear eE h0
    go_wp2_with (fail)
    go_ret2
    rw [EE.out]
    exact ⟨_, rfl, fun h => absurd h HD.out, HB1.out⟩
end Go.Proofs.Ytcffinkkfdfcaaa

/- What the reference's number answers. Conditions: at most eight bytes, to be read. -/
namespace Go.Proofs.Ytcffinkkfdfcaaa
open Go Go.RowKit

theorem beN_take_succ {bs : List UInt8} {k : Nat} (h : k < bs.length) : beN (bs.take (k + 1)) = beN (bs.take k) * 256 + bs[k].toNat := by
  rw [List.take_succ_eq_append_getElem h, beN_snoc]
def U56 (n : Nat) : Prop := n < 72057594037927936
theorem U56.step {n x : Nat} (h : U56 n) (hx : x < 256) : IntKind.u64.wrap (IntKind.u64.wrap ((n : Int) * 256) + (x : Int)) = ((n * 256 + x : Nat) : Int) := by
  unfold U56 at h
  unfold IntKind.wrap
  simp [IntKind.bits, IntKind.signed]
  omega
theorem beN_u56 {bs : List UInt8} {k : Nat} (hk : k < bs.length) (h : bs.length ≤ 8) : U56 (beN (bs.take k)) := by
  have := beN_lt (bs.take k)
  rw [List.length_take, Nat.min_eq_left (by omega)] at this
  unfold U56
  exact Nat.lt_of_lt_of_le this (Nat.le_trans (Nat.pow_le_pow_right (by decide) (by omega : k ≤ 7)) (by decide))
set_option maxRecDepth 100000 in
set_option maxHeartbeats 1000000 in
theorem refNumber_c (bs : List UInt8) (A : Option Addr) (n c : Nat) (w : World) (hn : bs.length = n) (hr : Rd w A (bs.map bv)) (h8 : n ≤ 8) :
    Calls Try.prog 53 #[.slice A n c] w fun r w' => r = .returned (.int .u64 (beN bs : Int)) ∧ w = w' := by
  have HN := Lib.hid hn
  have HR := Lib.hid hr
  obtain ⟨V, eV⟩ : ∃ V, beN bs = V := ⟨_, rfl⟩
  rw [eV]
  have HV := Lib.hid eV
  clear hn hr eV
  go_enter Try.func53, Try.ntmps53
  go_wp2_with (fail)
  go_loop [3, 7] (fun v i => ∃ q : Nat, q ≤ n ∧ i = .int .i64 q ∧ v = .int .u64 (beN (bs.take q) : Nat)) (fun _ i => n - (intOf i).toNat)
  case atStart => exact ⟨0, by omega, rfl, rfl⟩
  case round =>
    obtain ⟨q, hq, rfl, rfl⟩ := hrel
    obtain ⟨X, eX⟩ : ∃ X, beN (bs.take q) = X := ⟨_, rfl⟩
    rw [eX]
    by_cases hlt : q < n
    · have hlt' : (q : Int) < (n : Int) := by omega
      have hqb : q < bs.length := by rw [HN.out]; exact hlt
      obtain ⟨b, off, rfl, hb, hc⟩ := HR.out.addrB (by omega)
      have c0 := hc q hqb
      obtain ⟨x, ex⟩ : ∃ x, bs[q].toNat = x := ⟨_, rfl⟩
      unfold bv at c0
      rw [ex] at c0
      have hx : x < 256 := by rw [← ex]; exact bs[q].toNat_lt
      have hstep := U56.step (n := X) (x := x) (by rw [← eX]; exact beN_u56 hqb (by rw [HN.out]; exact h8)) hx
      have hnext : beN (bs.take (q + 1)) = X * 256 + x := by rw [beN_take_succ hqb, eX, ex]
      have HST := Lib.hid hstep
      have HNX := Lib.hid hnext
      clear hstep hnext ex eX hc hqb
      go_wp2_with (fail)
      go_round
      case rel => exact ⟨q + 1, by omega, by go_num, by rw [HNX.out, ← HST.out]⟩
      case measure => simp [intOf]; omega
    · obtain rfl : n = q := by omega
      have hX : X = V := by rw [← eX, ← HV.out, ← HN.out, List.take_length]
      have HX := Lib.hid hX
      clear hX eX
      go_wp2_with (fail)
      go_ret
      exact ⟨by rw [HX.out]; rfl, rfl⟩
end Go.Proofs.Ytcffinkkfdfcaaa

/- What the reference's GetHello answers. Conditions: bytes that can be read. -/
namespace Go.Proofs.Ytcffinkkfdfcaaa
open Go Go.RowKit

theorem ref_hello_results (tmps : Array Value) (g : Nat) (t : TypeId) (cs : Array Value) (fr : Nat × Nat) (y : Int) (h2 : tmps.getD 2 undef = .pointer (some ⟨g, 0, none⟩)) (h3 : tmps.getD 3 undef = .int .i64 y) (w : World) (hg : w.heap[g]? = some (.cells cs t fr)) (hi : (Try.prog.info? 44).map (·.size) = some cs.size) :
    (results Try.f22 tmps).run Try.prog w = .ok (.tuple #[.agg cs, .int .i64 y]) w := by
  have h2' : tmps[2]?.getD undef = .pointer (some ⟨g, 0, none⟩) := by simpa using h2
  have h3' : tmps[3]?.getD undef = .int .i64 y := by simpa using h3
  simp [results, Try.results22, h2', h3', asAddr, run_loadVar_row w g t 44 cs fr _ hg Try.underlying44 rfl hi]
/-- A block of a Hello's cells, made from block B on. -/
def Rl.hel (B mx ft : Nat) (l : List UInt8) : Rl := ⟨fun w v => ∃ g, v = .pointer (some ⟨g, 0, none⟩) ∧ B ≤ g ∧ w.heap[g]? = some (.cells (helC mx ft l).toArray 44 (0, 0)), fun ⟨g, h, hB, r⟩ hb => ⟨g, h, hB, (hb.block g (heap_lt r)).trans r⟩⟩
theorem keepB1 {g B i : Nat} {v : Value} {a b : World} (hg : g < B) (h : a.cell? ⟨g, i, none⟩ = some v) (hb : Below B a b) : b.cell? ⟨g, i, none⟩ = some v := (hb.cell (p := ⟨g, i, none⟩) hg).trans h
theorem i64w {n : Nat} (h : n < 256) : IntKind.i64.wrap (n : Int) = (n : Int) := by
  unfold IntKind.wrap
  simp [IntKind.bits, IntKind.signed]
  omega
theorem RdS.at3 {w : World} {X : Option Addr} {b0 b1 b2 : List UInt8} (h : RdS w X [b0, b1, b2]) : ∃ b off, X = some ⟨b, off, none⟩ ∧ b < w.heap.size ∧
    (∃ A c, w.cell? ⟨b, off, none⟩ = some (.slice A b0.length c) ∧ Rd w A (b0.map bv)) ∧ (∃ A c, w.cell? ⟨b, off + 1, none⟩ = some (.slice A b1.length c) ∧ Rd w A (b1.map bv)) ∧ (∃ A c, w.cell? ⟨b, off + 2, none⟩ = some (.slice A b2.length c) ∧ Rd w A (b2.map bv)) := by
  obtain ⟨b, off, e, hb, hc⟩ := h.addr (by simp)
  refine ⟨b, off, e, hb, ?_, ?_, ?_⟩
  · obtain ⟨A, c, q1, q2, -⟩ := hc 0 (by simp); exact ⟨A, c, q1, q2⟩
  · obtain ⟨A, c, q1, q2, -⟩ := hc 1 (by simp); exact ⟨A, c, q1, q2⟩
  · obtain ⟨A, c, q1, q2, -⟩ := hc 2 (by simp); exact ⟨A, c, q1, q2⟩
set_option maxRecDepth 100000 in
set_option maxHeartbeats 4000000 in
theorem refGetHello_c (bs : List UInt8) (A : Option Addr) (n c : Nat) (w : World) (hn : bs.length = n) (hr : Rd w A (bs.map bv)) (hc : n ≤ c) (hcm : c ≤ maxLen) (hl : n ≤ 140737488355328) :
    Calls Try.prog 22 #[.slice A n c] w fun r w' => r = .returned (.tuple #[(helR bs).val, .int .i64 (helE bs : Int)]) ∧ Below w.heap.size w w' := by
  have HN := Lib.hid hn
  have HC := Lib.hid hc
  have HCM := Lib.hid hcm
  obtain ⟨w1, ew1⟩ : ∃ w1, w1 = w.alloc (.cells #[.int .i64 0, .int .u32 0, .int .u8 0, .int .u8 0, .int .u8 0, .int .u8 0, .int .u8 0, .int .u8 0, .int .u8 0, .int .u8 0, .int .u8 0, .int .u8 0, .int .u8 0, .int .u8 0, .int .u8 0, .int .u8 0, .int .u8 0, .int .u8 0] 44) := ⟨_, rfl⟩
  obtain ⟨gr, egr⟩ : ∃ gr, gr = w.heap.size := ⟨_, rfl⟩
  have b1 : Below w.heap.size w w1 := by rw [ew1]; exact (Below.refl _ _).alloc (Nat.le_refl _) _
  have g1 : w1.heap[gr]? = some (.cells (helC 0 0 (zerB 16)).toArray 44 (0, 0)) := by rw [ew1, egr, ← hel_zero]; exact heap_alloc_new _ _
  obtain ⟨w2, ew2⟩ : ∃ w2, w2 = w1.alloc (.cells #[.int .i64 1, .int .i64 4, .int .i64 16] 3) := ⟨_, rfl⟩
  obtain ⟨g2, eg2⟩ : ∃ g2, g2 = w1.heap.size := ⟨_, rfl⟩
  have b2 : Below w1.heap.size w1 w2 := by rw [ew2]; exact (Below.refl _ _).alloc (Nat.le_refl _) _
  have HZ : Hid (RdI w2 (some ⟨g2, 0, none⟩) (nI [1, 4, 16])) := Lib.hid (.inr ⟨g2, 0, rfl, by rw [ew2, eg2]; simp, fun k hk => by
    have hh : w2.heap[g2]? = some (.cells #[.int .i64 1, .int .i64 4, .int .i64 16] 3 (0, 0)) := by rw [ew2, eg2]; exact heap_alloc_new _ _
    rw [Nat.zero_add, heap_cell hh]
    have : k = 0 ∨ k = 1 ∨ k = 2 := by simp [nI] at hk; omega
    rcases this with rfl | rfl | rfl <;> rfl⟩)
  have HG2 : Hid (w2.heap[gr]? = some (.cells (helC 0 0 (zerB 16)).toArray 44 (0, 0))) := Lib.hid ((b2.block gr (heap_lt g1)).trans g1)
  have HB2 := Lib.hid (b1.trans (b2.mono b1.size))
  have HR2 := Lib.hid ((hr.below b1).below b2)
  have EW1 := Lib.hid ew1
  have EW2 := Lib.hid ew2
  have EGR := Lib.hid egr
  have EG2 := Lib.hid eg2
  obtain ⟨E, eE⟩ : ∃ E, helE bs = E := ⟨_, rfl⟩
  obtain ⟨R, eR⟩ : ∃ R, helR bs = R := ⟨_, rfl⟩
  rw [eE, eR]
  have HE := Lib.hid eE
  have HRR := Lib.hid eR
  clear ew1 ew2 egr eg2 b1 b2 g1 hn hr hc hcm eE eR
  go_enter Try.func22, Try.ntmps22
  go_upto_region 1 with (fail)
  rw [← EW1.out, ← EGR.out]
  go_wp2_with (fail)
  rw [← EW2.out, ← EG2.out]
  refine (sizes_c bs A n c [1, 4, 16] (some ⟨g2, 0, none⟩) 3 3 w2 HN.out HR2.out HC.out HCM.out hl HZ.out rfl (by decide) (by decide)).mono ?_
  rintro _ w3 ⟨v3, rfl, hX, hb3⟩
  have hE0 : szE bs [1, 4, 16] = (helS4 bs).err := rfl
  obtain ⟨E0, eE0⟩ : ∃ E0, (helS4 bs).err = E0 := ⟨_, rfl⟩
  rw [hE0, eE0] at hX ⊢
  have HE0 := Lib.hid eE0
  have HG3 := Lib.hid ((hb3.block gr (heap_lt HG2.out)).trans HG2.out)
  have HB3 := Lib.hid (HB2.out.trans (hb3.mono HB2.out.size))
  have HXX := Lib.hid hX
  clear hE0 eE0 hX hb3
  by_cases h0 : E0 = 0
  · have d0 : ((E0 : Int) != 0) = false := by rw [h0]; rfl
    obtain ⟨X, cX, rfl, hX⟩ := HXX.out h0
    have hX' : RdS w3 X [byB (helS1 bs) 1, byB (helS2 bs) 4, byB (helS3 bs) 16] := hX
    obtain ⟨bx, ox, rfl, hbx, ⟨A0, c0, x0, r0⟩, ⟨A1, c1, x1, r1⟩, ⟨A2, c2, x2, r2⟩⟩ := hX'.at3
    rw [byB_len] at x0 x1 x2
    obtain ⟨M, hM⟩ : ∃ M, oneN (helS1 bs) = M := ⟨_, rfl⟩
    obtain ⟨F, hF⟩ : ∃ F, fourN (helS2 bs) = F := ⟨_, rfl⟩
    obtain ⟨NC, hNC⟩ : ∃ NC, byB (helS3 bs) 16 = NC := ⟨_, rfl⟩
    rw [hNC] at r2
    obtain ⟨b4, hb4⟩ : ∃ b4, byB (helS2 bs) 4 = b4 := ⟨_, rfl⟩
    rw [hb4] at r1
    have hbF : beN b4 = F := by rw [← hb4]; exact hF
    have hl4 : b4.length = 4 := by rw [← hb4]; exact byB_len _ _
    have hlN : NC.length = 16 := by rw [← hNC]; exact byB_len _ _
    obtain ⟨x, ex⟩ : ∃ x, byB (helS1 bs) 1 = [x] := by
      match q : byB (helS1 bs) 1, byB_len (helS1 bs) 1 with
      | [x], _ => exact ⟨x, rfl⟩
    rw [ex] at r0
    obtain ⟨b0, o0, rfl, hlt0, hc0⟩ := r0.addrB (by simp)
    have y0 : w3.cell? ⟨b0, o0, none⟩ = some (.int .u8 (M : Int)) := by
      have := hc0 0 (by simp)
      rw [← hM]; unfold oneN; rw [ex]
      exact this
    have hM256 : M < 256 := by rw [← hM]; unfold oneN; exact UInt8.toNat_lt _
    have hF32 : F < 4294967296 := by rw [← hbF]; have := beN_lt b4; rw [hl4] at this; exact this
    have hwF := u32_u64w hF32
    have hwM := i64w hM256
    have HL4 := Lib.hid hl4
    have HLN := Lib.hid hlN
    have HBF := Lib.hid hbF
    have HR1 := Lib.hid r1
    have HR2b := Lib.hid r2
    have HM := Lib.hid hM
    have HFF := Lib.hid hF
    have HNC := Lib.hid hNC
    have H0 := Lib.hid h0
    clear h0 hX hX' r0 r1 r2 hc0 hl4 hlN hbF hb4 ex hM hF hNC hF32
    go_upto_region 4 with (fail)
    refine wp_region_rt 48 14 [Rl.eq (.slice (some ⟨bx, ox, none⟩) 3 cX), Rl.eq (.pointer (some ⟨bx, ox, none⟩)), Rl.eq (.slice (some ⟨b0, o0, none⟩) 1 c0), Rl.eq (.pointer (some ⟨b0, o0, none⟩)), Rl.eq (.int .u8 (M : Int)), Rl.eq (.int .i64 (M : Int)), Rl.eq (.slice (some ⟨bx, ox, none⟩) 3 cX), Rl.eq (.pointer (some ⟨bx, ox + 1, none⟩)), Rl.eq (.slice A1 4 c1), Rl.eq (.int .u64 (F : Int)), Rl.eq (.int .u32 (F : Int)), Rl.eq (.agg #[.int .i64 (M : Int), .int .u32 (F : Int)]), Rl.eq (helV M F (zerB 16)), Rl.hel w3.heap.size 0 0 (zerB 16)] [17, 18, 19, 20, 21, 22, 23, 24, 25, 26, 27, 28, 29, 6] (by kernel_rfl) rfl (by kernel_rfl) (by kernel_rfl) (by decide) (by kernel_rfl) (by kernel_rfl) ?_ ?_
    · simp only [List.take_succ_cons, List.take_zero]
      repeat (first | exact AllFrom.nil_ | (refine AllFrom.cons_ (by rfl) ?_ ?_; rotate_left))
      · intro f w' g hF hD
        have h4 : f 4 = .slice (some ⟨bx, ox, none⟩) 3 cX := hF 4 (by kernel_rfl)
        rw [if_pos (wanted_none rfl)]
        clear hF hD
        exact gives_val (by simp only [execOp, evF, h4]; first | rfl | go_simp) ⟨Gr.refl _, rfl⟩
      · intro f w' g hF hD
        have h17 : f 17 = (.slice (some ⟨bx, ox, none⟩) 3 cX) := hD 0 17 (by kernel_rfl) rfl
        rw [if_pos (wanted_none rfl)]
        clear hF hD
        exact gives_val (by simp only [execOp, evF, h17]; first | rfl | go_simp) ⟨Gr.refl _, rfl⟩
      · intro f w' g hF hD
        have h18 : f 18 = (.pointer (some ⟨bx, ox, none⟩)) := hD 1 18 (by kernel_rfl) rfl
        rw [if_pos (wanted_none rfl)]
        clear hF hD
        have cl : w'.cell? ⟨bx, ox, none⟩ = some (.slice (some ⟨b0, o0, none⟩) 1 c0) := (g.cell (p := ⟨bx, ox, none⟩) hbx).trans x0
        exact gives_val (by simp only [execOp, evF, h18]; go_simp) ⟨Gr.refl _, rfl⟩
      · intro f w' g hF hD
        have h19 : f 19 = (.slice (some ⟨b0, o0, none⟩) 1 c0) := hD 2 19 (by kernel_rfl) rfl
        rw [if_pos (wanted_none rfl)]
        clear hF hD
        exact gives_val (by simp only [execOp, evF, h19]; first | rfl | go_simp) ⟨Gr.refl _, rfl⟩
      · intro f w' g hF hD
        have h20 : f 20 = (.pointer (some ⟨b0, o0, none⟩)) := hD 3 20 (by kernel_rfl) rfl
        rw [if_pos (wanted_none rfl)]
        clear hF hD
        have cl : w'.cell? ⟨b0, o0, none⟩ = some (.int .u8 (M : Int)) := (g.cell (p := ⟨b0, o0, none⟩) hlt0).trans y0
        exact gives_val (by simp only [execOp, evF, h20]; go_simp) ⟨Gr.refl _, rfl⟩
      · intro f w' g hF hD
        have h21 : f 21 = (.int .u8 (M : Int)) := hD 4 21 (by kernel_rfl) rfl
        rw [if_pos (wanted_none rfl)]
        clear hF hD
        exact gives_val (by simp only [execOp, evF, h21]; first | rfl | go_simp) ⟨Gr.refl _, rfl⟩
      · intro f w' g hF hD
        have h4 : f 4 = .slice (some ⟨bx, ox, none⟩) 3 cX := hF 4 (by kernel_rfl)
        rw [if_pos (wanted_none rfl)]
        clear hF hD
        exact gives_val (by simp only [execOp, evF, h4]; first | rfl | go_simp) ⟨Gr.refl _, rfl⟩
      · intro f w' g hF hD
        have h23 : f 23 = (.slice (some ⟨bx, ox, none⟩) 3 cX) := hD 6 23 (by kernel_rfl) rfl
        rw [if_pos (wanted_none rfl)]
        clear hF hD
        exact gives_val (by simp only [execOp, evF, h23]; first | rfl | go_simp) ⟨Gr.refl _, rfl⟩
      · intro f w' g hF hD
        have h24 : f 24 = (.pointer (some ⟨bx, ox + 1, none⟩)) := hD 7 24 (by kernel_rfl) rfl
        rw [if_pos (wanted_none rfl)]
        clear hF hD
        have cl : w'.cell? ⟨bx, ox + 1, none⟩ = some (.slice A1 4 c1) := (g.cell (p := ⟨bx, ox + 1, none⟩) hbx).trans x1
        exact gives_val (by simp only [execOp, evF, h24]; go_simp) ⟨Gr.refl _, rfl⟩
      · intro f w' g hF hD
        have h25 : f 25 = (.slice A1 4 c1) := hD 8 25 (by kernel_rfl) rfl
        rw [if_pos (wanted_none rfl)]
        clear hF hD
        have kg : Below w3.heap.size w3 w' := (below_drewN (Below.refl _ _) 1).trans g
        refine gives_func rfl Try.func53 (by kernel_rfl) rfl (by simp only [List.map_toArray, List.map_cons, List.map_nil, evF, h25]) ((refNumber_c b4 A1 4 c1 w' HL4.out (HR1.out.below kg) (by decide)).mono ?_)
        rintro e w'' ⟨rfl, rfl⟩
        rw [HBF.out]
        exact ⟨_, rfl, Gr.refl _, rfl⟩
      · intro f w' g hF hD
        have h26 : f 26 = (.int .u64 (F : Int)) := hD 9 26 (by kernel_rfl) rfl
        rw [if_pos (wanted_none rfl)]
        clear hF hD
        exact gives_val (by simp only [execOp, evF, h26]; first | rfl | go_simp) ⟨Gr.refl _, rfl⟩
      · intro f w' g hF hD
        have h22 : f 22 = (.int .i64 (M : Int)) := hD 5 22 (by kernel_rfl) rfl
        have h27 : f 27 = (.int .u32 (F : Int)) := hD 10 27 (by kernel_rfl) rfl
        rw [if_pos (wanted_none rfl)]
        clear hF hD
        exact gives_build 41 _ rfl #[.int .i64 (M : Int), .int .u32 (F : Int)] (by simp only [List.map_toArray, List.map_cons, List.map_nil, evF, h22, h27]; kernel_rfl) ⟨Gr.refl _, rfl⟩
      · intro f w' g hF hD
        have h28 : f 28 = (.agg #[.int .i64 (M : Int), .int .u32 (F : Int)]) := hD 11 28 (by kernel_rfl) rfl
        rw [if_pos (wanted_none rfl)]
        clear hF hD
        exact gives_build 44 _ rfl (helC M F (zerB 16)).toArray (by simp only [List.map_toArray, List.map_cons, List.map_nil, evF, h28]; kernel_rfl) ⟨Gr.refl _, rfl⟩
      · intro f w' g hF hD
        rw [if_pos (wanted_none rfl)]
        clear hF hD
        have kg : Below w3.heap.size w3 w' := (below_drewN (Below.refl _ _) 1).trans g
        exact gives_val (by simp only [execOp, evF]; first | rfl | go_simp) ⟨(Below.refl _ _).alloc (Nat.le_refl _) _, w'.heap.size, rfl, kg.size, heap_alloc_new _ _⟩
    intro f' w4 g hD
    have h29 : f' 29 = helV M F (zerB 16) := hD 12 29 (by decide) rfl
    obtain ⟨g6, h6, hB6, hg6⟩ : ∃ g, f' 6 = .pointer (some ⟨g, 0, none⟩) ∧ w3.heap.size ≤ g ∧ w4.heap[g]? = some (.cells (helC 0 0 (zerB 16)).toArray 44 (0, 0)) := hD 13 6 (by decide) rfl
    simp only [List.drop_succ_cons, List.drop_zero, putAll, List.setIfInBounds_toArray, List.set_cons_zero, List.set_cons_succ, h29, h6]
    refine wpList_store_row rfl 44 (.tmp 6) (.tmp 29) rfl g6 (helC M F (zerB 16)).toArray rfl rfl 44 _ hg6 (info_hel.trans rfl) rfl (hel_one _ _ _) ?_
    obtain ⟨w5, ew5⟩ : ∃ w5, w5 = w4.setRow g6 (helC M F (zerB 16)).toArray := ⟨_, rfl⟩
    rw [← ew5]
    have hg5 : w5.heap[g6]? = some (.cells (helC M F (zerB 16)).toArray 44 (0, 0)) := by rw [ew5]; exact setRow_heap _ _ _ _ _ _ hg6
    have k5 : Keeps (fun j => j = g6) w4 w5 := by rw [ew5]; exact (Zg.row hg6).1
    have kg : Below w3.heap.size w3 w4 := (below_drewN (Below.refl _ _) 1).trans g
    have k35 : Below w3.heap.size w3 w5 := keepsP_b kg k5 hB6 (Nat.le_refl _)
    have hgr3 : gr < w3.heap.size := heap_lt HG3.out
    have HG5 := Lib.hid ((k35.block gr hgr3).trans HG3.out)
    have HB5 := Lib.hid (HB3.out.trans (k35.mono HB3.out.size))
    have HR5 := Lib.hid (HR2b.out.below k35)
    have x5 : w5.cell? ⟨bx, ox + 2, none⟩ = some (.slice A2 16 c2) := (k35.cell (p := ⟨bx, _, none⟩) hbx).trans x2
    have HGS : Hid (gr < g6 ∧ bx < g6 ∧ w.heap.size ≤ g6) := Lib.hid (by have := HB3.out.size; omega)
    have HS0 : Hid (w5.drew.cell? ⟨bx, ox + 2, none⟩ = some (.slice A2 16 c2)) := Lib.hid x5
    have HH5 := Lib.hid hg5
    have HNM : Hid ((NC.map bv).length = Nat.min 16 16) := Lib.hid (by rw [List.length_map, HLN.out]; rfl)
    have HFT : Hid (2 + (NC.map bv).length ≤ (helC M F (zerB 16)).length) := Lib.hid (by rw [HNM.out]; simp [helC, zerB])
    have HSP : Hid (splice (helC M F (zerB 16)) 2 (NC.map bv) = helC M F NC) := Lib.hid (hel_splice _ _ _ _ HLN.out (by simp [zerB]))
    have hbg := HGS.out.2.1
    clear ew5 hg5 k5 kg k35 hgr3 hD g h29 h6 hg6 x0 x1 x2 y0 hwF hwM hlt0 hbx hB6
    go_upto_region 5 with (fail)
    go_region_held3 (fun w' => w'.cell? ⟨bx, ox + 2, none⟩ = some (.slice A2 16 c2)) (first | (with_reducible exact HS0.out) | (with_reducible assumption) | exact keepB1 hbg (by with_reducible assumption) (by with_reducible assumption)) (first
      | (refine step_copy_splice rfl (.tmp 31) (.tmp 34) 25 25 rfl 5 Try.underlying25 (by kernel_rfl) _ _ 16 16 16 c2 rfl rfl g6 2 (helC M F (zerB 16)) 44 HH5.out (NC.map bv) HNM.out (fun hp => ⟨rfl, copy_src HR5.out hp⟩) HFT.out (bv_one _) g6 w5.drew (Below.refl _ _) (Nat.le_refl _) ?_; rw [HSP.out]; intro w6 hg6 hb6; have HB56 := Lib.hid ((below_drewN (Below.refl g6 w5) 1).trans hb6)))
    have hg6' := hg6.out
    have HG6 := Lib.hid ((HB56.out.block gr HGS.out.1).trans HG5.out)
    have HB6 := Lib.hid (HB5.out.trans (HB56.out.mono HGS.out.2.2))
    have a0 : w6.cell? ⟨g6, 0, none⟩ = some (.int .i64 (M : Int)) := (heap_cell hg6' 0).trans rfl
    have HH6 := Lib.hid hg6'
    have HSZ : Hid (some 18 = some (helC M F NC).toArray.size) := Lib.hid (by simp [helC, HLN.out])
    have HSZ2 : Hid ((helC 0 0 (zerB 16)).toArray.size = (helC M F NC).toArray.size) := Lib.hid (by simp [helC, HLN.out, zerB])
    clear hg6' hg6 hb6 x5 HS0 HNM HFT HSP HR5 HB56 HG5 HB5 HH5
    obtain ⟨O, hO⟩ : ∃ O, offB M = O := ⟨_, rfl⟩
    have hE : E = if O = true then 0 else 3 := by
      rw [← HE.out]; unfold helE helS5; rw [HM.out, hO]
      cases O with
      | true => rw [if_pos rfl]; show (badS (helS4 bs) false).err = 0; simp [badS]; exact HE0.out.trans H0.out
      | false => rw [if_neg (by decide)]; show (badS (helS4 bs) true).err = 3; simp [badS, HE0.out.trans H0.out]
    cases O with
    | true =>
      have hE' : E = 0 := by rw [hE, if_pos rfl]
      have eR : R = ⟨M, F, NC⟩ := by rw [← HRR.out]; unfold helR; rw [if_pos (HE.out.trans hE'), HM.out, HFF.out, HNC.out]
      obtain ⟨m1, m3⟩ : 1 ≤ M ∧ M ≤ 3 := of_decide_eq_true hO
      have d1 : decide ((M : Int) < 1) = false := decide_eq_false (by omega)
      have d3 : decide ((3 : Int) < (M : Int)) = false := decide_eq_false (by omega)
      have ER := Lib.hid eR
      have EE := Lib.hid hE'
      clear hE hE' eR hO m1 m3
      go_wp2_with (first
        | (refine wpList_load_row rfl 44 (.tmp 6) rfl g6 rfl 44 _ (0, 0) _ HH6.out Try.underlying44 rfl (info_hel.trans HSZ.out) ?_)
        | (refine wpList_store_row rfl 44 (.tmp 2) (.tmp 47) rfl gr (helC M F NC).toArray rfl rfl 44 _ HG6.out (info_hel.trans HSZ.out) HSZ2.out (hel_one _ _ _) ?_))
      have HBF := Lib.hid (below_setRow (g := gr) HB6.out (Nat.le_of_eq EGR.out.symm) (helC M F NC).toArray)
      refine bodyPost_ret (v := .tuple #[.agg (helC M F NC).toArray, .int .i64 0]) (ref_hello_results _ gr 44 _ (0, 0) 0 rfl rfl _ (setRow_heap w6 gr _ _ _ _ HG6.out) (info_hel.trans HSZ.out)) rfl ?_
      rw [ER.out, EE.out]
      exact ⟨rfl, HBF.out⟩
    | false =>
      have hE' : E = 3 := by rw [hE, if_neg (by decide)]
      have eR : R = ⟨0, 0, zerB 16⟩ := by rw [← HRR.out]; unfold helR; rw [if_neg (by rw [HE.out, hE']; decide)]
      have hO' : ¬ (1 ≤ M ∧ M ≤ 3) := of_decide_eq_false hO
      have ER := Lib.hid eR
      have EE := Lib.hid hE'
      clear hE hE' eR hO
      have hw : M < 1 ∨ 1 ≤ M ∧ 3 < M := by omega
      clear hO'
      rcases hw with m1 | ⟨m1, m3⟩
      · have d1 : decide ((M : Int) < 1) = true := decide_eq_true (by omega)
        clear m1
        go_upto_region 7 with (fail)
        go_wp2_with (first
          | (refine wpList_buildTo rfl 44 #[] rfl _ rfl (helC 0 0 (zerB 16)).toArray (by kernel_rfl) ?_)
          | (refine wpList_store_row rfl 44 (.tmp 2) (.tmp 46) rfl gr (helC 0 0 (zerB 16)).toArray rfl rfl 44 _ HG6.out (info_hel.trans rfl) rfl (hel_one _ _ _) ?_))
        have HBF := Lib.hid (below_setRow (g := gr) HB6.out (Nat.le_of_eq EGR.out.symm) (helC 0 0 (zerB 16)).toArray)
        refine bodyPost_ret (v := .tuple #[.agg (helC 0 0 (zerB 16)).toArray, .int .i64 3]) (ref_hello_results _ gr 44 _ (0, 0) 3 rfl rfl _ (setRow_heap w6 gr _ _ _ _ HG6.out) (info_hel.trans rfl)) rfl ?_
        rw [ER.out, EE.out]
        exact ⟨rfl, HBF.out⟩
      · have d1 : decide ((M : Int) < 1) = false := decide_eq_false (by omega)
        have d3 : decide ((3 : Int) < (M : Int)) = true := decide_eq_true (by omega)
        clear m1 m3
        go_upto_region 7 with (fail)
        go_wp2_with (first
          | (refine wpList_buildTo rfl 44 #[] rfl _ rfl (helC 0 0 (zerB 16)).toArray (by kernel_rfl) ?_)
          | (refine wpList_store_row rfl 44 (.tmp 2) (.tmp 46) rfl gr (helC 0 0 (zerB 16)).toArray rfl rfl 44 _ HG6.out (info_hel.trans rfl) rfl (hel_one _ _ _) ?_))
        have HBF := Lib.hid (below_setRow (g := gr) HB6.out (Nat.le_of_eq EGR.out.symm) (helC 0 0 (zerB 16)).toArray)
        refine bodyPost_ret (v := .tuple #[.agg (helC 0 0 (zerB 16)).toArray, .int .i64 3]) (ref_hello_results _ gr 44 _ (0, 0) 3 rfl rfl _ (setRow_heap w6 gr _ _ _ _ HG6.out) (info_hel.trans rfl)) rfl ?_
        rw [ER.out, EE.out]
        exact ⟨rfl, HBF.out⟩
  · have d0 : ((E0 : Int) != 0) = true := by rw [bne_iff_ne]; omega
    have hE : E = E0 := by rw [← HE.out]; unfold helE helS5; rw [badS_sticks (by rw [HE0.out]; exact h0), HE0.out]
    have eR : R = ⟨0, 0, zerB 16⟩ := by rw [← HRR.out]; unfold helR; rw [if_neg (by rw [HE.out, hE]; exact h0)]
    have ER := Lib.hid eR
    have EE := Lib.hid hE
    clear hE eR h0
    go_upto_region 3 with (fail)
    go_wp2_with (first
      | (refine wpList_buildTo rfl 44 #[] rfl _ rfl (helC 0 0 (zerB 16)).toArray (by kernel_rfl) ?_)
      | (refine wpList_store_row rfl 44 (.tmp 2) (.tmp 15) rfl gr (helC 0 0 (zerB 16)).toArray rfl rfl 44 _ HG3.out (info_hel.trans rfl) rfl (hel_one _ _ _) ?_))
    have HBF := Lib.hid (below_setRow (g := gr) HB3.out (Nat.le_of_eq EGR.out.symm) (helC 0 0 (zerB 16)).toArray)
    refine bodyPost_ret (v := .tuple #[.agg (helC 0 0 (zerB 16)).toArray, .int .i64 (E0 : Int)]) (ref_hello_results _ gr 44 _ (0, 0) (E0 : Int) rfl rfl _ (setRow_heap w3 gr _ _ _ _ HG3.out) (info_hel.trans rfl)) rfl ?_
    rw [ER.out, EE.out]
    exact ⟨rfl, HBF.out⟩
end Go.Proofs.Ytcffinkkfdfcaaa

/- A tag's cells. Conditions: bytes that can be read. -/
namespace Go.Proofs.Ytcffinkkfdfcaaa
open Go Go.RowKit

def a32C (l : List UInt8) : Array Value := (l.map bv).toArray
def conS (bs : List UInt8) : FS := byS (opS bs 1) 32
def conE (bs : List UInt8) : Nat := (conS bs).err
def conT (bs : List UInt8) : List UInt8 := if conE bs = 0 then byB (opS bs 1) 32 else zerB 32
theorem conT_len (bs : List UInt8) : (conT bs).length = 32 := by unfold conT; split; exact byB_len _ _; simp [zerB]
theorem a32_zero : (#[.int .u8 0, .int .u8 0, .int .u8 0, .int .u8 0, .int .u8 0, .int .u8 0, .int .u8 0, .int .u8 0, .int .u8 0, .int .u8 0, .int .u8 0, .int .u8 0, .int .u8 0, .int .u8 0, .int .u8 0, .int .u8 0, .int .u8 0, .int .u8 0, .int .u8 0, .int .u8 0, .int .u8 0, .int .u8 0, .int .u8 0, .int .u8 0, .int .u8 0, .int .u8 0, .int .u8 0, .int .u8 0, .int .u8 0, .int .u8 0, .int .u8 0, .int .u8 0] : Array Value) = a32C (zerB 32) := rfl
theorem info_a32c : (Try.prog.info? 47).map (·.size) = some 32 := by kernel_rfl
theorem a32_one (l : List UInt8) : (a32C l).all (·.oneCell') = true := by
  unfold a32C
  simp [Value.oneCell', bv]
theorem a32_size {l : List UInt8} (h : l.length = 32) : some 32 = some (a32C l).size := by unfold a32C; simp [h]
theorem con_results (tmps : Array Value) (g : Nat) (t : TypeId) (cs : Array Value) (fr : Nat × Nat) (y : Int) (h2 : tmps.getD 2 undef = .pointer (some ⟨g, 0, none⟩)) (h3 : tmps.getD 3 undef = .int .i64 y) (w : World) (hg : w.heap[g]? = some (.cells cs t fr)) (hi : (Try.prog.info? 47).map (·.size) = some cs.size) :
    (results Try.f25 tmps).run Try.prog w = .ok (.tuple #[.agg cs, .int .i64 y]) w := by
  have h2' : tmps[2]?.getD undef = .pointer (some ⟨g, 0, none⟩) := by simpa using h2
  have h3' : tmps[3]?.getD undef = .int .i64 y := by simpa using h3
  simp [results, Try.results25, h2', h3', asAddr, run_loadVar_row w g t 47 cs fr _ hg Try.underlying47 rfl hi]
theorem ref_con_results (tmps : Array Value) (g : Nat) (t : TypeId) (cs : Array Value) (fr : Nat × Nat) (y : Int) (h2 : tmps.getD 2 undef = .pointer (some ⟨g, 0, none⟩)) (h3 : tmps.getD 3 undef = .int .i64 y) (w : World) (hg : w.heap[g]? = some (.cells cs t fr)) (hi : (Try.prog.info? 47).map (·.size) = some cs.size) :
    (results Try.f26 tmps).run Try.prog w = .ok (.tuple #[.agg cs, .int .i64 y]) w := by
  have h2' : tmps[2]?.getD undef = .pointer (some ⟨g, 0, none⟩) := by simpa using h2
  have h3' : tmps[3]?.getD undef = .int .i64 y := by simpa using h3
  simp [results, Try.results26, h2', h3', asAddr, run_loadVar_row w g t 47 cs fr _ hg Try.underlying47 rfl hi]
end Go.Proofs.Ytcffinkkfdfcaaa

/- What feat.Ceiling, feat.May and the reference's May answer. Conditions: none. -/
namespace Go.Proofs.Ytcffinkkfdfcaaa
open Go Go.RowKit

def cei (v : Int) : Nat := if v = 3 then 63 else if v = 2 then 51 else if v = 1 then 17 else 0
def mayPF (v : Int) (f : Nat) : Prop := 1 ≤ v ∧ v ≤ 3 ∧ ∀ i : Nat, i < 32 → f.testBit i = true → (cei v).testBit i = true
instance (v : Int) (f : Nat) : Decidable (mayPF v f) := by unfold mayPF; infer_instance
def mayF (v : Int) (f : Nat) : Bool := decide (mayPF v f)
theorem andNot_u32 (f c : Nat) (hf : f < 4294967296) (hc : c < 4294967296) : (bits .andNot .u32 (f : Int) (c : Int) == 0) = decide (∀ i : Nat, i < 32 → f.testBit i = true → c.testBit i = true) := by
  have e : bits .andNot .u32 (f : Int) (c : Int) = IntKind.u32.wrap ((BitVec.ofInt 32 (f : Int) &&& ~~~ BitVec.ofInt 32 (c : Int)).toNat : Int) := rfl
  have e1 : BitVec.ofInt 32 (f : Int) = BitVec.ofNat 32 f := BitVec.ofInt_natCast 32 f
  have e2 : BitVec.ofInt 32 (c : Int) = BitVec.ofNat 32 c := BitVec.ofInt_natCast 32 c
  rw [e, e1, e2]
  obtain ⟨x, hx⟩ : ∃ x, x = BitVec.ofNat 32 f &&& ~~~ BitVec.ofNat 32 c := ⟨_, rfl⟩
  rw [← hx]
  have hw : IntKind.u32.wrap (x.toNat : Int) = (x.toNat : Int) := by
    have := x.isLt
    unfold IntKind.wrap
    simp [IntKind.bits, IntKind.signed]
    omega
  rw [hw]
  rw [Bool.eq_iff_iff, beq_iff_eq, decide_eq_true_iff]
  constructor
  · intro h i hi hf1
    have hz : x = 0#32 := BitVec.eq_of_toNat_eq (by simpa using h)
    have hb : x.getLsbD i = false := by rw [hz]; simp
    rw [hx, BitVec.getLsbD_and, BitVec.getLsbD_not, BitVec.getLsbD_ofNat, BitVec.getLsbD_ofNat] at hb
    simp [hi, hf1] at hb
    exact hb
  · intro h
    have hz : x = 0#32 := by
      apply BitVec.eq_of_getLsbD_eq
      intro i hi
      rw [hx, BitVec.getLsbD_and, BitVec.getLsbD_not, BitVec.getLsbD_ofNat, BitVec.getLsbD_ofNat]
      simp [hi]
      intro h1
      exact h i hi h1
    rw [hz]; rfl
set_option maxRecDepth 100000 in
set_option maxHeartbeats 1000000 in
theorem ceil1_c (w : World) : Calls Try.prog 67 #[.int .i64 1] w fun r w' => r = .returned (.int .u32 17) ∧ w = w' := by
  go_enter Try.func67, Try.ntmps67
  go_wp2
  go_ret
  exact ⟨rfl, rfl⟩
set_option maxRecDepth 100000 in
set_option maxHeartbeats 1000000 in
theorem ceil2_c (w : World) : Calls Try.prog 67 #[.int .i64 2] w fun r w' => r = .returned (.int .u32 51) ∧ w = w' := by
  go_enter Try.func67, Try.ntmps67
  go_wp2
  go_ret
  exact ⟨rfl, rfl⟩
set_option maxRecDepth 100000 in
set_option maxHeartbeats 1000000 in
theorem ceil3_c (w : World) : Calls Try.prog 67 #[.int .i64 3] w fun r w' => r = .returned (.int .u32 63) ∧ w = w' := by
  go_enter Try.func67, Try.ntmps67
  go_wp2
  go_ret
  exact ⟨rfl, rfl⟩
theorem ceil_c (v : Int) (h1 : 1 ≤ v) (h3 : v ≤ 3) (w : World) : Calls Try.prog 67 #[.int .i64 v] w fun r w' => r = .returned (.int .u32 (cei v : Int)) ∧ w = w' := by
  have hv : v = 1 ∨ v = 2 ∨ v = 3 := by omega
  rcases hv with rfl | rfl | rfl
  · exact ceil1_c w
  · exact ceil2_c w
  · exact ceil3_c w
set_option maxRecDepth 100000 in
set_option maxHeartbeats 4000000 in
theorem featMay_c (v : Int) (f : Nat) (hf : f < 4294967296) (w : World) : Calls Try.prog 45 #[.agg #[.int .i64 v, .int .u32 (f : Int)]] w fun r w' => r = .returned (.bool (mayF v f)) ∧ Below w.heap.size w w' := by
  have kb : Below w.heap.size w (w.alloc (.cells #[.int .i64 v, .int .u32 (f : Int)] 46)) := (Below.refl _ _).alloc (Nat.le_refl _) _
  rcases Int.lt_or_le v 1 with h1 | h1
  · have e : mayF v f = false := decide_eq_false (by unfold mayPF; omega)
    rw [e]
    have d1 : decide ((1 : Int) ≤ v) = false := decide_eq_false (by omega)
    clear e h1
    go_enter Try.func45, Try.ntmps45
    go_wp2_with (fail)
    go_quiet (fail)
    go_wp2_with (fail)
    go_ret
    exact ⟨rfl, below_drewN kb _⟩
  rcases Int.lt_or_le 3 v with h3 | h3
  · have e : mayF v f = false := decide_eq_false (by unfold mayPF; omega)
    rw [e]
    have d1 : decide ((1 : Int) ≤ v) = true := decide_eq_true (by omega)
    have d3 : decide (v ≤ 3) = false := decide_eq_false (by omega)
    clear e h1 h3
    go_enter Try.func45, Try.ntmps45
    go_wp2_with (fail)
    go_quiet (fail)
    go_wp2_with (fail)
    go_ret
    exact ⟨rfl, below_drewN kb _⟩
  obtain ⟨T, eT⟩ : ∃ T, mayF v f = T := ⟨_, rfl⟩
  rw [eT]
  have hc : cei v < 4294967296 := by unfold cei; split; decide; split; decide; split <;> decide
  have hT : (bits .andNot .u32 (f : Int) (cei v : Int) == 0) = T := by
    rw [← eT]
    refine (andNot_u32 f (cei v) hf hc).trans ?_
    unfold mayF mayPF
    simp [h1, h3]
  obtain ⟨C, eC⟩ : ∃ C, cei v = C := ⟨_, rfl⟩
  rw [eC] at hT
  have HT := Lib.hid hT
  have EC := Lib.hid eC
  have HC : Hid (∀ w : World, Calls Try.prog 67 #[.int .i64 v] w fun r w' => r = .returned (.int .u32 (C : Int)) ∧ w' = w) := Lib.hid (fun w => by rw [← EC.out]; exact (ceil_c v h1 h3 w).mono fun _ _ ⟨he, hw⟩ => ⟨he, hw.symm⟩)
  have d1 : decide ((1 : Int) ≤ v) = true := decide_eq_true (by omega)
  have d3 : decide (v ≤ 3) = true := decide_eq_true (by omega)
  clear eT hT hc eC h1 h3
  go_enter Try.func45, Try.ntmps45
  go_wp2_with (fail)
  go_quiet ((go_at_call 67; exact Calls.quiet_of_same (HC.out _)))
  go_wp2_with (fail)
  go_ret
  exact ⟨by rw [← HT.out]; rfl, below_drewN kb _⟩
/-- The version in which a feature came. -/
def sinceB (i : Nat) : Nat := if i = 0 ∨ i = 4 then 1 else if i = 1 ∨ i = 5 then 2 else if i = 2 ∨ i = 3 then 3 else 0
set_option maxRecDepth 100000 in
set_option maxHeartbeats 1000000 in
theorem since_c (i : Nat) (w : World) : Calls Try.prog 68 #[.int .i64 (i : Int)] w fun r w' => r = .returned (.int .i64 (sinceB i : Int)) ∧ w' = w := by
  by_cases h0 : i = 0
  · subst h0
    go_enter Try.func68, Try.ntmps68
    go_wp2
    go_ret
    exact ⟨rfl, rfl⟩
  by_cases h4 : i = 4
  · subst h4
    clear h0
    go_enter Try.func68, Try.ntmps68
    go_wp2
    go_ret
    exact ⟨rfl, rfl⟩
  by_cases h1 : i = 1
  · subst h1
    clear h0 h4
    go_enter Try.func68, Try.ntmps68
    go_wp2
    go_ret
    exact ⟨rfl, rfl⟩
  by_cases h5 : i = 5
  · subst h5
    clear h0 h4 h1
    go_enter Try.func68, Try.ntmps68
    go_wp2
    go_ret
    exact ⟨rfl, rfl⟩
  by_cases h2 : i = 2
  · subst h2
    clear h0 h4 h1 h5
    go_enter Try.func68, Try.ntmps68
    go_wp2
    go_ret
    exact ⟨rfl, rfl⟩
  by_cases h3 : i = 3
  · subst h3
    clear h0 h4 h1 h5 h2
    go_enter Try.func68, Try.ntmps68
    go_wp2
    go_ret
    exact ⟨rfl, rfl⟩
  have e : sinceB i = 0 := by unfold sinceB; rw [if_neg (by omega), if_neg (by omega), if_neg (by omega)]
  rw [e]
  have d0 : ((i : Int) == 0) = false := by rw [beq_eq_false_iff_ne]; omega
  have d1 : ((i : Int) == 1) = false := by rw [beq_eq_false_iff_ne]; omega
  have d2 : ((i : Int) == 2) = false := by rw [beq_eq_false_iff_ne]; omega
  have d3 : ((i : Int) == 3) = false := by rw [beq_eq_false_iff_ne]; omega
  have d4 : ((i : Int) == 4) = false := by rw [beq_eq_false_iff_ne]; omega
  have d5 : ((i : Int) == 5) = false := by rw [beq_eq_false_iff_ne]; omega
  clear e h0 h1 h2 h3 h4 h5
  go_enter Try.func68, Try.ntmps68
  go_wp2
  go_ret
  exact ⟨rfl, rfl⟩
theorem cei_since (v : Int) (h1 : 1 ≤ v) (h3 : v ≤ 3) (i : Nat) (hi : i < 32) : (cei v).testBit i = true ↔ sinceB i ≠ 0 ∧ (sinceB i : Int) ≤ v := by
  have hv : v = 1 ∨ v = 2 ∨ v = 3 := by omega
  have key : ∀ i, i < 32 → ((cei 1).testBit i = true ↔ sinceB i ≠ 0 ∧ (sinceB i : Int) ≤ 1) ∧ ((cei 2).testBit i = true ↔ sinceB i ≠ 0 ∧ (sinceB i : Int) ≤ 2) ∧ ((cei 3).testBit i = true ↔ sinceB i ≠ 0 ∧ (sinceB i : Int) ≤ 3) := by decide +kernel
  rcases hv with rfl | rfl | rfl
  · exact (key i hi).1
  · exact (key i hi).2.1
  · exact (key i hi).2.2
/-- A bit that may not be there. -/
def badBit (v : Int) (f i : Nat) : Bool := f.testBit i && (decide (sinceB i = 0) || decide (v < (sinceB i : Int)))
theorem mayF_bits (v : Int) (f : Nat) (h1 : 1 ≤ v) (h3 : v ≤ 3) : mayF v f = true ↔ ∀ i, i < 32 → badBit v f i = false := by
  rw [show mayF v f = true ↔ mayPF v f from decide_eq_true_iff]
  unfold mayPF
  constructor
  · rintro ⟨-, -, h⟩ i hi
    unfold badBit
    cases hb : f.testBit i with
    | false => rfl
    | true =>
      obtain ⟨q1, q2⟩ := (cei_since v h1 h3 i hi).1 (h i hi hb)
      rw [decide_eq_false q1, decide_eq_false (by omega)]; rfl
  · intro h
    refine ⟨h1, h3, fun i hi hb => (cei_since v h1 h3 i hi).2 ?_⟩
    have := h i hi
    unfold badBit at this
    rw [hb] at this
    simp at this
    exact ⟨this.1, by omega⟩
end Go.Proofs.Ytcffinkkfdfcaaa

/- What bytes say as a Select: plain data. Conditions: none. -/
namespace Go.Proofs.Ytcffinkkfdfcaaa
open Go Go.RowKit

/-- A Select's fifty-two cells. -/
def selC (v f1 mx f2 : Nat) (l m : List UInt8) : List Value := .int .i64 (v : Int) :: .int .u32 (f1 : Int) :: .int .i64 (mx : Int) :: .int .u32 (f2 : Int) :: (l.map bv ++ m.map bv)
structure Sel where
  v : Nat
  f1 : Nat
  mx : Nat
  f2 : Nat
  nc : List UInt8
  cf : List UInt8
def Sel.val (s : Sel) : Value := .agg (selC s.v s.f1 s.mx s.f2 s.nc s.cf).toArray
def selZ : Sel := ⟨0, 0, 0, 0, zerB 16, zerB 32⟩
def selS1 (bs : List UInt8) : FS := opS bs 6
def selS2 (bs : List UInt8) : FS := byS (selS1 bs) 1
def selS3 (bs : List UInt8) : FS := byS (selS2 bs) 4
def selS4 (bs : List UInt8) : FS := byS (selS3 bs) 1
def selS5 (bs : List UInt8) : FS := byS (selS4 bs) 4
def selS6 (bs : List UInt8) : FS := byS (selS5 bs) 16
def selS7 (bs : List UInt8) : FS := byS (selS6 bs) 32
def selB (bs : List UInt8) : Bool := mayF (oneN (selS1 bs) : Int) (fourN (selS2 bs)) && offB (oneN (selS3 bs))
def selS8 (bs : List UInt8) : FS := badS (selS7 bs) (!selB bs)
def selE (bs : List UInt8) : Nat := (selS8 bs).err
def selR (bs : List UInt8) : Sel := if selE bs = 0 then ⟨oneN (selS1 bs), fourN (selS2 bs), oneN (selS3 bs), fourN (selS4 bs), byB (selS5 bs) 16, byB (selS6 bs) 32⟩ else selZ
theorem selS1_at (bs : List UInt8) : (selS1 bs).at_ = 0 := opS_at bs 6
theorem selS2_at (bs : List UInt8) : (selS2 bs).at_ = 1 := by rw [selS2, byS_at, selS1_at]
theorem selS3_at (bs : List UInt8) : (selS3 bs).at_ = 2 := by rw [selS3, byS_at, selS2_at]
theorem selS4_at (bs : List UInt8) : (selS4 bs).at_ = 3 := by rw [selS4, byS_at, selS3_at]
theorem selS5_at (bs : List UInt8) : (selS5 bs).at_ = 4 := by rw [selS5, byS_at, selS4_at]
theorem selS6_at (bs : List UInt8) : (selS6 bs).at_ = 5 := by rw [selS6, byS_at, selS5_at]
theorem selS7_at (bs : List UInt8) : (selS7 bs).at_ = 6 := by rw [selS7, byS_at, selS6_at]
theorem selS2_l (bs : List UInt8) : (selS2 bs).l = (selS1 bs).l := by rw [selS2, byS_l]
theorem selS3_l (bs : List UInt8) : (selS3 bs).l = (selS1 bs).l := by rw [selS3, byS_l, selS2_l]
theorem selS4_l (bs : List UInt8) : (selS4 bs).l = (selS1 bs).l := by rw [selS4, byS_l, selS3_l]
theorem selS5_l (bs : List UInt8) : (selS5 bs).l = (selS1 bs).l := by rw [selS5, byS_l, selS4_l]
theorem selS6_l (bs : List UInt8) : (selS6 bs).l = (selS1 bs).l := by rw [selS6, byS_l, selS5_l]
theorem selS7_l (bs : List UInt8) : (selS7 bs).l = (selS1 bs).l := by rw [selS7, byS_l, selS6_l]
theorem Flds.far2 {w0 w w' : World} {p : Nat} {A : Option Addr} {n c : Nat} {s0 s : FS} (h0 : Flds w0 p A n c s0) (h : Flds w p A n c s) (k : Keeps (fun j => j = p) w0 w) (hl : s.l = s0.l) (k' : Keeps (fun j => w0.heap.size ≤ j) w w') (hb : w'.heap[p]? = w.heap[p]?) : Flds w' p A n c s :=
  h0.next (k.over k') hl h.at_ (hb.trans h.blk)
theorem sel_zero : (#[.int .i64 0, .int .u32 0, .int .i64 0, .int .u32 0, .int .u8 0, .int .u8 0, .int .u8 0, .int .u8 0, .int .u8 0, .int .u8 0, .int .u8 0, .int .u8 0, .int .u8 0, .int .u8 0, .int .u8 0, .int .u8 0, .int .u8 0, .int .u8 0, .int .u8 0, .int .u8 0, .int .u8 0, .int .u8 0, .int .u8 0, .int .u8 0, .int .u8 0, .int .u8 0, .int .u8 0, .int .u8 0, .int .u8 0, .int .u8 0, .int .u8 0, .int .u8 0, .int .u8 0, .int .u8 0, .int .u8 0, .int .u8 0, .int .u8 0, .int .u8 0, .int .u8 0, .int .u8 0, .int .u8 0, .int .u8 0, .int .u8 0, .int .u8 0, .int .u8 0, .int .u8 0, .int .u8 0, .int .u8 0, .int .u8 0, .int .u8 0, .int .u8 0, .int .u8 0] : Array Value) = (selC 0 0 0 0 (zerB 16) (zerB 32)).toArray := rfl
theorem info_sel : (Try.prog.info? 49).map (·.size) = some 52 := by kernel_rfl
theorem sel_size {v f1 mx f2 : Nat} {l m : List UInt8} (h1 : l.length = 16) (h2 : m.length = 32) : some 52 = some (selC v f1 mx f2 l m).toArray.size := congrArg some (by simp [selC, h1, h2])
theorem sel_one (v f1 mx f2 : Nat) (l m : List UInt8) : (selC v f1 mx f2 l m).toArray.all (·.oneCell') = true := by
  unfold selC
  simp [Value.oneCell', bv]
theorem sel_splice1 (v f1 mx f2 : Nat) (l m k : List UInt8) (hl : l.length = 16) (hm : m.length = 16) : splice (selC v f1 mx f2 m k) 4 (l.map bv) = selC v f1 mx f2 l k := by
  unfold splice selC
  simp [hl, hm]
theorem sel_splice2 (v f1 mx f2 : Nat) (l m k : List UInt8) (hl : l.length = 16) (hm : m.length = 32) (hk : k.length = 32) : splice (selC v f1 mx f2 l k) 20 (m.map bv) = selC v f1 mx f2 l m := by
  unfold splice selC
  simp [hl, hm, hk]
theorem sel_results (tmps : Array Value) (g : Nat) (t : TypeId) (cs : Array Value) (fr : Nat × Nat) (y : Int) (h2 : tmps.getD 2 undef = .pointer (some ⟨g, 0, none⟩)) (h3 : tmps.getD 3 undef = .int .i64 y) (w : World) (hg : w.heap[g]? = some (.cells cs t fr)) (hi : (Try.prog.info? 49).map (·.size) = some cs.size) :
    (results Try.f23 tmps).run Try.prog w = .ok (.tuple #[.agg cs, .int .i64 y]) w := by
  have h2' : tmps[2]?.getD undef = .pointer (some ⟨g, 0, none⟩) := by simpa using h2
  have h3' : tmps[3]?.getD undef = .int .i64 y := by simpa using h3
  simp [results, Try.results23, h2', h3', asAddr, run_loadVar_row w g t 49 cs fr _ hg Try.underlying49 rfl hi]
end Go.Proofs.Ytcffinkkfdfcaaa

/- How a law's argument is opened: an event by value; a slice of events. Conditions: none. -/
namespace Go.Proofs.Ytcffinkkfdfcaaa
open Go Go.RowKit Go.ChangeShapes Go.WideShapes

/-- The fields of an event's type. -/
structure EvT (P : Program) (t : TypeId) (f0 f1 f2 f3 f4 : Field) (e : TypeId) : Prop where
  hs : P.underlying t = some (.struct #[f0, f1, f2, f3, f4])
  hone : Deep.oneCellFields P #[f0, f1, f2, f3, f4] = true
  hC : P.cellsOf t = 5
  h0 : P.underlying f0.type = some (.int .i64)
  h1 : P.underlying f1.type = some (.slice e)
  h2 : P.underlying f2.type = some (.int .i64)
  h3 : P.underlying f3.type = some (.int .i64)
  h4 : P.underlying f4.type = some (.int .i64)
  he : P.underlying e = some (.int .u8)
  hc : P.cellsOf e = 1
  hb : P.bytesOf e = 1

theorem open_txt {H : Type} {enc : TypeId × Value → H} {P : Program} {W : World} {t e fuel : Nat} {u : Value} {y : DataW H × List MemPlace} (ht : P.underlying t = some (.slice e)) (he : P.underlying e = some (.int .u8)) (hc : P.cellsOf e = 1) (hb : P.bytesOf e = 1)
    (hf : DataW.trod enc P W 0 (fun _ => true) true fuel t [u] = some y) :
    ∃ (A : Option Addr) (m c : Nat) (bs : List UInt8), u = .slice A m c ∧ bs.length = m ∧ Rd W A (bs.map bv) ∧ m ≤ c ∧ c ≤ maxLen ∧ ((∀ n ∈ y.1.weights P t, n ≤ reachBytes) → m ≤ 140737488351232) := by
  rcases open_ints ht he hc hf with ⟨hcs, _⟩ | ⟨x, l, c, zs, hcs, _, hl, hm, hz, hx, hcell, hwz⟩
  · injection hcs with hcs _
    subst hcs
    exact ⟨none, 0, 0, [], rfl, rfl, .inl rfl, Nat.le_refl _, Nat.zero_le _, fun _ => by decide⟩
  · injection hcs with hcs _
    subst hcs
    subst hx
    simp only [if_true] at hz
    obtain ⟨bs, g1, g2⟩ := rd_of_ints (len := l) (by omega) hcell hwz
    refine ⟨some x, l, c, bs, rfl, g1, g2, hl, hm, fun hw => ?_⟩
    have h := hw ((zs.take l).length + (zs.drop l).length) (by
      simp only [DataW.weights, ht, List.mem_cons]
      left
      rw [hb]
      simp [lits])
    simp only [List.length_take, List.length_drop, reachBytes] at h
    omega

theorem open_ev {H : Type} {enc : TypeId × Value → H} {P : Program} {W : World} {t e fuel : Nat} {f0 f1 f2 f3 f4 : Field} (T : EvT P t f0 f1 f2 f3 f4 e) {cs : List Value} {x : DataW H × List MemPlace} (hf : DataW.trod enc P W 0 (fun _ => true) true fuel t cs = some x) :
    ∃ (k : Int) (A : Option Addr) (m c : Nat) (X Y b : Int) (bs : List UInt8), cs = [.int .i64 k, .slice A m c, .int .i64 X, .int .i64 Y, .int .i64 b] ∧ bs.length = m ∧ Rd W A (bs.map bv) ∧ m ≤ c ∧ c ≤ maxLen ∧ ((∀ n ∈ x.1.weights P t, n ≤ reachBytes) → m ≤ 140737488351232) := by
  obtain ⟨ys, n, _, rfl, hl, hlen, hg⟩ := DataW.trod_struct T.hs hf
  rw [T.hC] at hl
  obtain ⟨o0, k0⟩ := Deep.hone_of T.hone 0 f0 rfl
  obtain ⟨o1, k1⟩ := Deep.hone_of T.hone 1 f1 rfl
  obtain ⟨o2, k2⟩ := Deep.hone_of T.hone 2 f2 rfl
  obtain ⟨o3, k3⟩ := Deep.hone_of T.hone 3 f3 rfl
  obtain ⟨o4, k4⟩ := Deep.hone_of T.hone 4 f4 rfl
  match cs, hl, ys, hlen with
  | [u0, u1, u2, u3, u4], _, [y0, y1, y2, y3, y4], _ =>
    have g0 := hg 0 f0 rfl
    have g1 := hg 1 f1 rfl
    have g2 := hg 2 f2 rfl
    have g3 := hg 3 f3 rfl
    have g4 := hg 4 f4 rfl
    rw [o0, k0] at g0
    rw [o1, k1] at g1
    rw [o2, k2] at g2
    rw [o3, k3] at g3
    rw [o4, k4] at g4
    obtain ⟨a0, e0, _, _⟩ := DataW.trod_int T.h0 g0
    obtain ⟨a2, e2, _, _⟩ := DataW.trod_int T.h2 g2
    obtain ⟨a3, e3, _, _⟩ := DataW.trod_int T.h3 g3
    obtain ⟨a4, e4, _, _⟩ := DataW.trod_int T.h4 g4
    obtain ⟨A, m, c, bs, eu, q1, q2, q3, q4, q5⟩ := open_txt T.h1 T.he T.hc T.hb g1
    simp at e0 e2 e3 e4
    subst e0 e2 e3 e4 eu
    refine ⟨a0, A, m, c, a2, a3, a4, bs, rfl, q1, q2, q3, q4, fun hw => q5 (fun n hn => hw n ?_)⟩
    simp only [DataW.weights, T.hs]
    exact DataW.weights_mem_each (j := 1) (t := f1.type) (d := y1.1) (by simp) (by simp) n hn

theorem opn_ev {H : Type} {enc : TypeId × Value → H} {P : Program} {W : World} {base t e j : Nat} {f0 f1 f2 f3 f4 : Field} (T : EvT P t f0 f1 f2 f3 f4 e) {v : Value} {d : DataW H} {p : List MemPlace} {ts : List TypeId} {ds : List (DataW H)}
    (hv : Value.okWide P W .any base t v) (hj : DataW.Trod enc P W 0 (fun _ => true) true t v d p) (hsz : (DataW.weightsEach P ts ds).all (· ≤ reachBytes) = true) (k1 : ts[j]? = some t) (k2 : ds[j]? = some d) :
    ∃ (k : Int) (A : Option Addr) (n c : Nat) (x y b : Int) (bs : List UInt8), v = .agg #[.int .i64 k, .slice A n c, .int .i64 x, .int .i64 y, .int .i64 b] ∧ (bs.length = n ∧ Rd W A (bs.map bv) ∧ n ≤ c ∧ c ≤ maxLen ∧ n ≤ 140737488351232) := by
  obtain ⟨cs, rfl, hsz2⟩ := okWide_struct T.hs hv
  obtain ⟨fuel, hf⟩ := hj
  obtain ⟨k, A, m, c, x, y, b, bs, hcs, q1, q2, q3, q4, q5⟩ := open_ev T hf
  refine ⟨k, A, m, c, x, y, b, bs, ?_, q1, q2, q3, q4, q5 (fun n hn => ?_)⟩
  · congr 1
    apply Array.ext'
    simpa [Value.cells] using hcs
  · exact of_decide_eq_true (List.all_eq_true.1 hsz n (DataW.weights_mem_each k1 k2 n hn))

theorem opn_evs {H : Type} {enc : TypeId × Value → H} {P : Program} {W : World} {base t et e j : Nat} {f0 f1 f2 f3 f4 : Field} (ht : P.underlying t = some (.slice et)) (hB : P.bytesOf et = 56) (T : EvT P et f0 f1 f2 f3 f4 e) {v : Value} {d : DataW H} {p : List MemPlace} {ts : List TypeId} {ds : List (DataW H)}
    (hv : Value.okWide P W .any base t v) (hj : DataW.Trod enc P W 0 (fun _ => true) true t v d p) (hsz : (DataW.weightsEach P ts ds).all (· ≤ reachBytes) = true) (k1 : ts[j]? = some t) (k2 : ds[j]? = some d) :
    ∃ (A : Option Addr) (n c : Nat) (dv : List EvV) (es : List Ev), v = .slice A n c ∧ (es.length = n ∧ EvsR (· < W.heap.size) W A dv es ∧ n ≤ c ∧ c ≤ maxLen ∧ n ≤ 2513169434843) := by
  obtain ⟨a0, len, cap, rfl⟩ := okWide_slice ht hv
  obtain ⟨fuel, hf⟩ := hj
  rcases Deep.open_slice ht hf with ⟨hcs, _⟩ | ⟨a, l, c, m, n, D, Pl, hcs, _, hl, hm, hmm, hx, hcell⟩
  · simp [Value.cells] at hcs
    obtain ⟨rfl, rfl, rfl⟩ := hcs
    exact ⟨none, 0, 0, [], [], rfl, rfl, ⟨rfl, .inl rfl, fun _ a e => (by cases e), fun i h => absurd h (by simp)⟩, Nat.le_refl _, Nat.zero_le _, by decide⟩
  · simp [Value.cells] at hcs
    obtain ⟨rfl, rfl, rfl⟩ := hcs
    simp only [if_true] at hmm
    subst hmm
    simp only [Prod.mk.injEq] at hx
    obtain ⟨rfl, _⟩ := hx
    have hb := sized_slice hsz k1 k2 ht
    rw [hB] at hb
    simp only [List.length_map, List.length_range, reachBytes] at hb
    have each : ∀ i, i < len → ∃ z : EvV × Ev, (∀ q (hq : q < 5), W.cell? (a.add (i * 5 + q)) = (z.1.cells)[q]?) ∧ EvR (· < W.heap.size) W z.1 z.2 := by
      intro i hi
      obtain ⟨cs', g1, g2⟩ := hcell i (by omega)
      rw [T.hC] at g1
      obtain ⟨_, hlen, hg⟩ := World.cells?_some g1
      obtain ⟨k, A, m', c', x, y, b, bs, hcs, q1, q2, q3, q4, q5⟩ := open_ev T g2
      have hm' : m' ≤ 140737488351232 := q5 (fun n hn => of_decide_eq_true (List.all_eq_true.1 hsz n (DataW.weights_mem_each k1 k2 n (by
        simp only [DataW.weights, ht, List.mem_cons, List.mem_append]
        exact Or.inr (Or.inl (weightsAll_mem (List.mem_map.2 ⟨i, List.mem_range.2 hi, rfl⟩) n hn))))))
      refine ⟨(⟨k, A, m', c', x, y, b⟩, ⟨k, bs, x, y, b⟩), fun q hq => ?_, rfl, rfl, rfl, rfl, q1, q2, q3, q4, fun h0 a' e => ?_, (show m' ≤ 140737488355328 by omega)⟩
      · rw [← Deep.add_add]
        subst hcs
        have := hg q (by simpa using hq)
        rw [this]
        rfl
      · rcases q2 with h | ⟨b', off, rfl, hb', _⟩
        · have h0' : 0 < m' := h0
          have : bs = [] := by simpa using h
          rw [this, List.length_nil] at q1
          omega
        · injection e with e; subst e; exact hb'
    obtain ⟨zs, hz1, hz2⟩ := list_of_all len each
    have hcellz : ∀ i (hi : i < zs.length) q, q < 5 → W.cell? (a.add (i * 5 + q)) = (cellsV (zs.map (·.1)))[i * 5 + q]? := by
      intro i hi q hq
      rw [cellsV_get _ i (by simpa using hi) q hq, (hz2 i hi).1 q hq]
      simp
    have hblk : 0 < len → a.spot = none ∧ a.block < W.heap.size := by
      intro h0
      have h := hcellz 0 (by omega) 0 (by decide)
      have hc0 : (cellsV (zs.map (·.1)))[0 * 5 + 0]? ≠ none := by
        rw [List.getElem?_eq_getElem (by rw [cellsV_length, List.length_map]; omega)]
        simp
      have h2 : ∃ u, W.cell? a = some u := by
        have e1 : a.add (0 * 5 + 0) = a := by simp [Addr.add]
        rw [e1] at h
        rw [← h] at hc0
        exact Option.ne_none_iff_exists'.1 hc0
      obtain ⟨u, hu⟩ := h2
      exact ⟨World.cell?_spot hu, World.block_lt_of_cell? W a hu⟩
    refine ⟨some a, len, _, zs.map (·.1), zs.map (·.2), rfl, by simpa using hz1, ⟨by simp, ?_, fun h0 a' e => ?_, fun i h1 h2 => ?_⟩, hl, hm, by omega⟩
    · rcases Nat.eq_zero_or_pos len with h0 | h0
      · left
        have : zs = [] := List.eq_nil_of_length_eq_zero (by omega)
        rw [this]; rfl
      · obtain ⟨hsp, hlt⟩ := hblk h0
        obtain ⟨b, off, spot⟩ := a
        simp only at hsp
        subst hsp
        refine .inr ⟨b, off, rfl, hlt, fun k hk => ?_⟩
        have hk' : k < zs.length * 5 := by rw [cellsV_length] at hk; simpa using hk
        have h := hcellz (k / 5) (by omega) (k % 5) (Nat.mod_lt _ (by decide))
        rw [show k / 5 * 5 + k % 5 = k by omega, Addr.add_lit, List.getElem?_eq_getElem hk] at h
        exact h
    · injection e with e
      subst e
      exact (hblk (by rw [List.length_map] at h0; omega)).2
    · simp only [List.getElem_map]
      exact (hz2 i (by simpa using h1)).2
end Go.Proofs.Ytcffinkkfdfcaaa

/- How a law's argument is opened: a list of items. Conditions: none. -/
namespace Go.Proofs.Ytcffinkkfdfcaaa
open Go Go.RowKit Go.ChangeShapes Go.WideShapes

/-- The fields of an item's type (t: the type of a list of items). -/
structure ItT (P : Program) (t it : TypeId) (f0 f1 f2 f3 f4 : Field) (et e : TypeId) : Prop where
  ht : P.underlying t = some (.slice it)
  hs : P.underlying it = some (.struct #[f0, f1, f2, f3, f4])
  hone : Deep.oneCellFields P #[f0, f1, f2, f3, f4] = true
  hC : P.cellsOf it = 5
  hB : P.bytesOf it = 64
  h0 : P.underlying f0.type = some (.int .i64)
  h1 : P.underlying f1.type = some .bool
  h2 : P.underlying f2.type = some .bool
  h3 : f3.type = et
  h3' : P.underlying et = some (.slice e)
  h4 : f4.type = t
  he : P.underlying e = some (.int .u8)
  hc : P.cellsOf e = 1
  hb : P.bytesOf e = 1

/-- Items built from what is known at each place. -/
theorem fo_of_all {ok : Nat → Prop} {W : World} {b off len : Nat} (hb : b < W.heap.size) (hok : ok b)
    (h : ∀ i, i < len → ∃ (k : Int) (cr li : Bool) (At : Option Addr) (n c : Nat) (bs : List UInt8) (As : Option Addr) (d : Nat) (sub : Fo),
      (W.cell? ⟨b, off + i * 5, none⟩ = some (.int .i64 k) ∧ W.cell? ⟨b, off + i * 5 + 1, none⟩ = some (.bool cr) ∧ W.cell? ⟨b, off + i * 5 + 2, none⟩ = some (.bool li) ∧
       W.cell? ⟨b, off + i * 5 + 3, none⟩ = some (.slice At n c) ∧ W.cell? ⟨b, off + i * 5 + 4, none⟩ = some (.slice As sub.len d)) ∧
      TxtR ok W At n c bs ∧ FoR ok W As 0 sub ∧ sub.len ≤ d ∧ d ≤ maxLen ∧ sub.len ≤ 2199023255488) : ∀ (r i : Nat), i + r = len → ∃ f : Fo, f.len = r ∧ FoR ok W (some ⟨b, off, none⟩) i f
  | 0, i, _ => ⟨.nil, rfl, trivial⟩
  | r + 1, i, hi => by
    obtain ⟨k, cr, li, At, n, c, bs, As, d, sub, hc, ht, hsub, h1, h2, h3⟩ := h i (by omega)
    obtain ⟨f, e, hf⟩ := fo_of_all hb hok h r (i + 1) (by omega)
    exact ⟨.cons k cr li bs sub f, by rw [Fo.len, e], ⟨b, off, At, n, c, As, d, rfl, hb, hok, hc, ht, hsub, h1, h2, h3⟩, hf⟩

theorem open_fo {H : Type} {enc : TypeId × Value → H} {P : Program} {W : World} {t it et e : TypeId} {f0 f1 f2 f3 f4 : Field} (T : ItT P t it f0 f1 f2 f3 f4 et e) : ∀ (fuel : Nat) (u : Value) (x : DataW H × List MemPlace),
    DataW.trod enc P W 0 (fun _ => true) true fuel t [u] = some x → (∀ n ∈ x.1.weights P t, n ≤ reachBytes) →
    ∃ (A : Option Addr) (n c : Nat) (f : Fo), u = .slice A n c ∧ FoR (· < W.heap.size) W A 0 f ∧ f.len = n ∧ n ≤ c ∧ c ≤ maxLen ∧ n ≤ 2199023255488 := by
  intro fuel
  induction fuel using Nat.strongRecOn with
  | _ fuel ih =>
    intro u x hf hw
    rcases DataW.trod_slice T.ht hf with ⟨hcs, _⟩ | ⟨a, len, cap, elems, rest, n, hfu, hcs, hx, _, hl, hm, hlen, hel, hsp, _⟩
    · injection hcs with hcs _
      subst hcs
      exact ⟨none, 0, 0, .nil, rfl, trivial, rfl, Nat.le_refl _, Nat.zero_le _, by decide⟩
    · injection hcs with hcs _
      subst hcs
      subst hx
      obtain ⟨hrl, _⟩ := hsp rfl
      have hbd := hw _ (by simp only [DataW.weights, T.ht, List.mem_cons]; exact Or.inl rfl)
      rw [T.hB] at hbd
      simp only [List.length_map, reachBytes] at hbd
      have each : ∀ i, i < len → ∃ (k : Int) (cr li : Bool) (At : Option Addr) (n c : Nat) (bs : List UInt8) (As : Option Addr) (d : Nat) (sub : Fo),
          (W.cell? (a.add (i * 5 + 0)) = some (.int .i64 k) ∧ W.cell? (a.add (i * 5 + 1)) = some (.bool cr) ∧ W.cell? (a.add (i * 5 + 2)) = some (.bool li) ∧
           W.cell? (a.add (i * 5 + 3)) = some (.slice At n c) ∧ W.cell? (a.add (i * 5 + 4)) = some (.slice As sub.len d)) ∧
          TxtR (· < W.heap.size) W At n c bs ∧ FoR (· < W.heap.size) W As 0 sub ∧ sub.len ≤ d ∧ d ≤ maxLen ∧ sub.len ≤ 2199023255488 := by
        intro i hi
        have he := hel i hi
        have hi' : i < elems.length := by omega
        rw [List.getElem?_eq_getElem hi', T.hC, Option.bind_eq_some_iff] at he
        obtain ⟨cs', g1, g2⟩ := he
        obtain ⟨_, hlen5, hg⟩ := World.cells?_some g1
        obtain ⟨ys, n', hfu', hy, hl5, hlen', hgs⟩ := DataW.trod_struct T.hs g2
        rw [T.hC] at hl5
        obtain ⟨o0, k0⟩ := Deep.hone_of T.hone 0 f0 rfl
        obtain ⟨o1, k1⟩ := Deep.hone_of T.hone 1 f1 rfl
        obtain ⟨o2, k2⟩ := Deep.hone_of T.hone 2 f2 rfl
        obtain ⟨o3, k3⟩ := Deep.hone_of T.hone 3 f3 rfl
        obtain ⟨o4, k4⟩ := Deep.hone_of T.hone 4 f4 rfl
        match cs', hl5, ys, hlen' with
        | [u0, u1, u2, u3, u4], _, [y0, y1, y2, y3, y4], _ =>
          have q0 := hgs 0 f0 rfl
          have q1 := hgs 1 f1 rfl
          have q2 := hgs 2 f2 rfl
          have q3 := hgs 3 f3 rfl
          have q4 := hgs 4 f4 rfl
          rw [o0, k0] at q0
          rw [o1, k1] at q1
          rw [o2, k2] at q2
          rw [o3, k3, T.h3] at q3
          rw [o4, k4, T.h4] at q4
          have hwe : ∀ n ∈ (elems[i]).1.weights P it, n ≤ reachBytes := fun n hn => hw n (by
            simp only [DataW.weights, T.ht, List.mem_cons, List.mem_append]
            exact Or.inr (Or.inl (weightsAll_mem (List.mem_map.2 ⟨elems[i], List.getElem_mem _, rfl⟩) n hn)))
          rw [hy] at hwe
          have hwf : ∀ (j : Nat) (f : Field) (y : DataW H × List MemPlace), (#[f0, f1, f2, f3, f4] : Array Field)[j]? = some f → ([y0, y1, y2, y3, y4] : List (DataW H × List MemPlace))[j]? = some y → ∀ n ∈ y.1.weights P f.type, n ≤ reachBytes := by
            intro j f y hj hy' n hn
            refine hwe n ?_
            simp only [DataW.weights, T.hs]
            refine DataW.weights_mem_each (j := j) (t := f.type) (d := y.1) ?_ ?_ n hn
            · rw [List.getElem?_map]
              have : ([f0, f1, f2, f3, f4] : List Field)[j]? = some f := by simpa using hj
              show Option.map _ (([f0, f1, f2, f3, f4] : List Field)[j]?) = _
              rw [this]; rfl
            · rw [List.getElem?_map, hy']; rfl
          obtain ⟨a0, e0, _, _⟩ := DataW.trod_int T.h0 q0
          obtain ⟨a1, e1, _⟩ := DataW.trod_bool T.h1 q1
          obtain ⟨a2, e2, _⟩ := DataW.trod_bool T.h2 q2
          obtain ⟨At, m, c', bs, eu, r1, r2, r3, r4, r5⟩ := open_txt T.h3' T.he T.hc T.hb (show DataW.trod enc P W 0 (fun _ => true) true n' et [u3] = some y3 from q3)
          have hm' : m ≤ 140737488351232 := r5 (fun n hn => hwf 3 f3 y3 rfl rfl n (by rw [T.h3]; exact hn))
          obtain ⟨As, m2, d, sub, es, s1, s2, s3, s4, s5⟩ := ih n' (by omega) u4 y4 (show DataW.trod enc P W 0 (fun _ => true) true n' t [u4] = some y4 from q4) (fun n hn => hwf 4 f4 y4 rfl rfl n (by rw [T.h4]; exact hn))
          simp at e0 e1 e2
          subst e0 e1 e2 eu es s2
          have g : ∀ q (hq : q < 5), W.cell? (a.add (i * 5 + q)) = [Value.int .i64 a0, .bool a1, .bool a2, .slice At m c', .slice As sub.len d][q]? := fun q hq => by
            rw [← Deep.add_add]
            exact hg q (by simpa using hq)
          refine ⟨a0, a1, a2, At, m, c', bs, As, d, sub, ⟨g 0 (by decide), g 1 (by decide), g 2 (by decide), g 3 (by decide), g 4 (by decide)⟩, ⟨r1, r2, r3, r4, fun h0 a' e' => ?_, by omega⟩, s1, s3, s4, s5⟩
          rcases r2 with h | ⟨b', off, rfl, hb', _⟩
          · have h0' : 0 < m := h0
            have : bs = [] := by simpa using h
            rw [this, List.length_nil] at r1
            omega
          · injection e' with e'; subst e'; exact hb'
      rcases Nat.eq_zero_or_pos len with h0 | h0
      · subst h0
        exact ⟨some a, 0, cap, .nil, rfl, trivial, rfl, Nat.zero_le _, hm, Nat.zero_le _⟩
      · obtain ⟨k, _, _, _, _, _, _, _, _, _, ⟨hc0, _⟩, _⟩ := each 0 h0
        have e1 : a.add (0 * 5 + 0) = a := by simp [Addr.add]
        rw [e1] at hc0
        have hsp' := World.cell?_spot hc0
        have hlt := World.block_lt_of_cell? W a hc0
        obtain ⟨b, off, spot⟩ := a
        simp only at hsp' hlt
        subst hsp'
        have each' : ∀ i, i < len → ∃ (k : Int) (cr li : Bool) (At : Option Addr) (n c : Nat) (bs : List UInt8) (As : Option Addr) (d : Nat) (sub : Fo),
            (W.cell? ⟨b, off + i * 5, none⟩ = some (.int .i64 k) ∧ W.cell? ⟨b, off + i * 5 + 1, none⟩ = some (.bool cr) ∧ W.cell? ⟨b, off + i * 5 + 2, none⟩ = some (.bool li) ∧
             W.cell? ⟨b, off + i * 5 + 3, none⟩ = some (.slice At n c) ∧ W.cell? ⟨b, off + i * 5 + 4, none⟩ = some (.slice As sub.len d)) ∧
            TxtR (· < W.heap.size) W At n c bs ∧ FoR (· < W.heap.size) W As 0 sub ∧ sub.len ≤ d ∧ d ≤ maxLen ∧ sub.len ≤ 2199023255488 := by
          intro i hi
          obtain ⟨k, cr, li, At, n, c, bs, As, d, sub, ⟨g0, g1, g2, g3, g4⟩, r⟩ := each i hi
          rw [Addr.add_lit] at g0 g1 g2 g3 g4
          exact ⟨k, cr, li, At, n, c, bs, As, d, sub, ⟨g0, g1, g2, g3, g4⟩, r⟩
        obtain ⟨f, hf1, hf2⟩ := fo_of_all (ok := (· < W.heap.size)) hlt hlt each' len 0 (by omega)
        exact ⟨some ⟨b, off, none⟩, len, cap, f, rfl, hf2, hf1, hl, hm, by omega⟩
theorem opn_fo {H : Type} {enc : TypeId × Value → H} {P : Program} {W : World} {base t it et e j : Nat} {f0 f1 f2 f3 f4 : Field} (T : ItT P t it f0 f1 f2 f3 f4 et e) {v : Value} {d : DataW H} {p : List MemPlace} {ts : List TypeId} {ds : List (DataW H)}
    (hv : Value.okWide P W .any base t v) (hj : DataW.Trod enc P W 0 (fun _ => true) true t v d p) (hsz : (DataW.weightsEach P ts ds).all (· ≤ reachBytes) = true) (k1 : ts[j]? = some t) (k2 : ds[j]? = some d) :
    ∃ (A : Option Addr) (n c : Nat) (f : Fo), v = .slice A n c ∧ (FoR (· < W.heap.size) W A 0 f ∧ f.len = n ∧ n ≤ c ∧ c ≤ maxLen ∧ n ≤ 2199023255488) := by
  obtain ⟨a0, len, cap, rfl⟩ := okWide_slice T.ht hv
  obtain ⟨fuel, hf⟩ := hj
  have hf' : DataW.trod enc P W 0 (fun _ => true) true fuel t [.slice a0 len cap] = some (d, p) := by
    simpa [Value.cells] using hf
  obtain ⟨A, n, c, f, e1, r⟩ := open_fo T fuel _ _ hf' (fun n hn => of_decide_eq_true (List.all_eq_true.1 hsz n (DataW.weights_mem_each k1 k2 n hn)))
  exact ⟨A, n, c, f, e1, r⟩
end Go.Proofs.Ytcffinkkfdfcaaa

/- How a law's argument is opened: data with a part, by value. Conditions: none. -/
namespace Go.Proofs.Ytcffinkkfdfcaaa
open Go Go.RowKit Go.ChangeShapes Go.WideShapes

/-- The fields of a part's type. -/
structure PaT (P : Program) (t : TypeId) (f0 f1 f2 f3 : Field) (e : TypeId) : Prop where
  hs : P.underlying t = some (.struct #[f0, f1, f2, f3])
  hC : P.cellsOf t = 4
  hone : Deep.oneCellFields P #[f0, f1, f2, f3] = true
  h0 : P.underlying f0.type = some (.int .u32)
  h1 : P.underlying f1.type = some (.int .i64)
  h2 : P.underlying f2.type = some (.int .i64)
  h3 : P.underlying f3.type = some (.slice e)
  he : P.underlying e = some (.int .u8)
  hc : P.cellsOf e = 1
  hb : P.bytesOf e = 1
/-- The fields of data's type. -/
structure DaT (P : Program) (t : TypeId) (f0 f1 f2 f3 f4 f5 : Field) (pt : TypeId) (g0 g1 g2 g3 : Field) (e : TypeId) : Prop where
  hs : P.underlying t = some (.struct #[f0, f1, f2, f3, f4, f5])
  hC : P.cellsOf t = 9
  o0 : f0.offset = 0
  o1 : f1.offset = 1
  o2 : f2.offset = 2
  o3 : f3.offset = 3
  o4 : f4.offset = 4
  o5 : f5.offset = 5
  k0 : P.cellsOf f0.type = 1
  k1 : P.cellsOf f1.type = 1
  k2 : P.cellsOf f2.type = 1
  k3 : P.cellsOf f3.type = 1
  k4 : P.cellsOf f4.type = 1
  h0 : P.underlying f0.type = some (.int .u16)
  h1 : P.underlying f1.type = some (.int .u16)
  h2 : P.underlying f2.type = some (.int .u64)
  h3 : P.underlying f3.type = some (.int .u64)
  h4 : P.underlying f4.type = some .bool
  h5 : f5.type = pt
  T : PaT P pt g0 g1 g2 g3 e
theorem nat_u16 {a : Int} (w : (Lit.int .u16 a).wf = true) : ∃ n : Nat, a = (n : Int) ∧ n < 65536 := by
  simp only [Lit.wf, IntKind.min, IntKind.max, IntKind.signed, IntKind.bits, Bool.and_eq_true, decide_eq_true_eq] at w
  have v1 : (0 : Int) ≤ a := by simpa using w.1
  have v2 : a ≤ 65535 := by simpa using w.2
  exact ⟨a.toNat, by omega, by omega⟩
theorem nat_u32 {a : Int} (w : (Lit.int .u32 a).wf = true) : ∃ n : Nat, a = (n : Int) ∧ n < 4294967296 := by
  simp only [Lit.wf, IntKind.min, IntKind.max, IntKind.signed, IntKind.bits, Bool.and_eq_true, decide_eq_true_eq] at w
  have v1 : (0 : Int) ≤ a := by simpa using w.1
  have v2 : a ≤ 4294967295 := by simpa using w.2
  exact ⟨a.toNat, by omega, by omega⟩
theorem nat_u64 {a : Int} (w : (Lit.int .u64 a).wf = true) : ∃ n : Nat, a = (n : Int) ∧ n < 18446744073709551616 := by
  simp only [Lit.wf, IntKind.min, IntKind.max, IntKind.signed, IntKind.bits, Bool.and_eq_true, decide_eq_true_eq] at w
  have v1 : (0 : Int) ≤ a := by simpa using w.1
  have v2 : a ≤ 18446744073709551615 := by simpa using w.2
  exact ⟨a.toNat, by omega, by omega⟩
theorem open_part {H : Type} {enc : TypeId × Value → H} {P : Program} {W : World} {t e fuel : Nat} {f0 f1 f2 f3 : Field} (T : PaT P t f0 f1 f2 f3 e) {cs : List Value} {x : DataW H × List MemPlace}
    (hf : DataW.trod enc P W 0 (fun _ => true) true fuel t cs = some x) (hw : ∀ n ∈ x.1.weights P t, n ≤ reachBytes) :
    ∃ (id : Nat) (ix ct : Int) (A : Option Addr) (n c : Nat) (bs : List UInt8), cs = [.int .u32 (id : Int), .int .i64 ix, .int .i64 ct, .slice A n c] ∧ id < 4294967296 ∧ (Lit.int .i64 ix).wf = true ∧ (Lit.int .i64 ct).wf = true ∧ TxtR (· < W.heap.size) W A n c bs ∧ n ≤ 140737488351232 := by
  obtain ⟨ys, n', _, hy, hl4, hlen', hgs⟩ := DataW.trod_struct T.hs hf
  rw [T.hC] at hl4
  obtain ⟨o0, k0⟩ := Deep.hone_of T.hone 0 f0 rfl
  obtain ⟨o1, k1⟩ := Deep.hone_of T.hone 1 f1 rfl
  obtain ⟨o2, k2⟩ := Deep.hone_of T.hone 2 f2 rfl
  obtain ⟨o3, k3⟩ := Deep.hone_of T.hone 3 f3 rfl
  match cs, hl4, ys, hlen' with
  | [u0, u1, u2, u3], _, [y0, y1, y2, y3], _ =>
    have q0 := hgs 0 f0 rfl
    have q1 := hgs 1 f1 rfl
    have q2 := hgs 2 f2 rfl
    have q3 := hgs 3 f3 rfl
    rw [o0, k0] at q0
    rw [o1, k1] at q1
    rw [o2, k2] at q2
    rw [o3, k3] at q3
    rw [hy] at hw
    have hwf : ∀ (j : Nat) (f : Field) (y : DataW H × List MemPlace), (#[f0, f1, f2, f3] : Array Field)[j]? = some f → ([y0, y1, y2, y3] : List (DataW H × List MemPlace))[j]? = some y → ∀ n ∈ y.1.weights P f.type, n ≤ reachBytes := by
      intro j f y hj hy' n hn
      refine hw n ?_
      simp only [DataW.weights, T.hs]
      refine DataW.weights_mem_each (j := j) (t := f.type) (d := y.1) ?_ ?_ n hn
      · rw [List.getElem?_map]
        have : ([f0, f1, f2, f3] : List Field)[j]? = some f := by simpa using hj
        show Option.map _ (([f0, f1, f2, f3] : List Field)[j]?) = _
        rw [this]; rfl
      · rw [List.getElem?_map, hy']; rfl
    obtain ⟨a0, e0, _, w0⟩ := DataW.trod_int T.h0 q0
    obtain ⟨a1, e1, _, w1⟩ := DataW.trod_int T.h1 q1
    obtain ⟨a2, e2, _, w2⟩ := DataW.trod_int T.h2 q2
    obtain ⟨At, m, c', bs, eu, r1, r2, r3, r4, r5⟩ := open_txt T.h3 T.he T.hc T.hb (show DataW.trod enc P W 0 (fun _ => true) true n' f3.type [u3] = some y3 from q3)
    have hm' : m ≤ 140737488351232 := r5 (fun n hn => hwf 3 f3 y3 rfl rfl n hn)
    obtain ⟨b0, rfl, h0⟩ := nat_u32 w0
    simp at e0 e1 e2
    subst e0 e1 e2 eu
    refine ⟨b0, a1, a2, At, m, c', bs, rfl, h0, w1, w2, ⟨r1, r2, r3, r4, fun h0 a' e' => ?_, by omega⟩, hm'⟩
    rcases r2 with h | ⟨b', off, rfl, hb', _⟩
    · have h0' : 0 < m := h0
      have : bs = [] := by simpa using h
      rw [this, List.length_nil] at r1
      omega
    · injection e' with e'; subst e'; exact hb'
theorem open_dat {H : Type} {enc : TypeId × Value → H} {P : Program} {W : World} {t pt e fuel : Nat} {f0 f1 f2 f3 f4 f5 g0 g1 g2 g3 : Field} (T : DaT P t f0 f1 f2 f3 f4 f5 pt g0 g1 g2 g3 e) {cs : List Value} {x : DataW H × List MemPlace}
    (hf : DataW.trod enc P W 0 (fun _ => true) true fuel t cs = some x) (hw : ∀ n ∈ x.1.weights P t, n ≤ reachBytes) :
    ∃ (st ec ak th : Nat) (has : Bool) (id : Nat) (ix ct : Int) (A : Option Addr) (n c : Nat) (bs : List UInt8), cs = [.int .u16 (st : Int), .int .u16 (ec : Int), .int .u64 (ak : Int), .int .u64 (th : Int), .bool has, .int .u32 (id : Int), .int .i64 ix, .int .i64 ct, .slice A n c] ∧
      st < 65536 ∧ ec < 65536 ∧ ak < 18446744073709551616 ∧ th < 18446744073709551616 ∧ id < 4294967296 ∧ (Lit.int .i64 ix).wf = true ∧ (Lit.int .i64 ct).wf = true ∧ TxtR (· < W.heap.size) W A n c bs ∧ n ≤ 140737488351232 := by
  obtain ⟨ys, n, _, rfl, hl, hlen, hg⟩ := DataW.trod_struct T.hs hf
  rw [T.hC] at hl
  match cs, hl, ys, hlen with
  | [u0, u1, u2, u3, u4, u5, u6, u7, u8], _, [y0, y1, y2, y3, y4, y5], _ =>
    have q0 := hg 0 f0 rfl
    have q1 := hg 1 f1 rfl
    have q2 := hg 2 f2 rfl
    have q3 := hg 3 f3 rfl
    have q4 := hg 4 f4 rfl
    have q5 := hg 5 f5 rfl
    rw [T.o0, T.k0] at q0
    rw [T.o1, T.k1] at q1
    rw [T.o2, T.k2] at q2
    rw [T.o3, T.k3] at q3
    rw [T.o4, T.k4] at q4
    rw [T.o5, T.h5, T.T.hC] at q5
    have hwe : ∀ (j : Nat) (f : Field) (y : DataW H × List MemPlace), (#[f0, f1, f2, f3, f4, f5] : Array Field)[j]? = some f → ([y0, y1, y2, y3, y4, y5] : List (DataW H × List MemPlace))[j]? = some y → ∀ n ∈ y.1.weights P f.type, n ≤ reachBytes := by
      intro j f y hj hy n hn
      refine hw n ?_
      simp only [DataW.weights, T.hs]
      refine DataW.weights_mem_each (j := j) (t := f.type) (d := y.1) ?_ ?_ n hn
      · rw [List.getElem?_map]
        have : ([f0, f1, f2, f3, f4, f5] : List Field)[j]? = some f := by simpa using hj
        show Option.map _ (([f0, f1, f2, f3, f4, f5] : List Field)[j]?) = _
        rw [this]; rfl
      · rw [List.getElem?_map, hy]; rfl
    obtain ⟨a0, e0, _, w0⟩ := DataW.trod_int T.h0 q0
    obtain ⟨a1, e1, _, w1⟩ := DataW.trod_int T.h1 q1
    obtain ⟨a2, e2, _, w2⟩ := DataW.trod_int T.h2 q2
    obtain ⟨a3, e3, _, w3⟩ := DataW.trod_int T.h3 q3
    obtain ⟨a4, e4, _⟩ := DataW.trod_bool T.h4 q4
    obtain ⟨id, ix, ct, A, m, c, bs, ecs, r⟩ := open_part T.T q5 (fun n hn => hwe 5 f5 y5 rfl rfl n (by rw [T.h5]; exact hn))
    obtain ⟨b0, rfl, h0⟩ := nat_u16 w0
    obtain ⟨b1, rfl, h1⟩ := nat_u16 w1
    obtain ⟨b2, rfl, h2⟩ := nat_u64 w2
    obtain ⟨b3, rfl, h3⟩ := nat_u64 w3
    simp at e0 e1 e2 e3 e4 ecs
    obtain ⟨z1, z2, z3, z4⟩ := ecs
    subst e0 e1 e2 e3 e4 z1 z2 z3 z4
    exact ⟨b0, b1, b2, b3, a4, id, ix, ct, A, m, c, bs, rfl, h0, h1, h2, h3, r⟩
theorem opn_dat {H : Type} {enc : TypeId × Value → H} {P : Program} {W : World} {base t pt e j : Nat} {f0 f1 f2 f3 f4 f5 g0 g1 g2 g3 : Field} (T : DaT P t f0 f1 f2 f3 f4 f5 pt g0 g1 g2 g3 e) {v : Value} {d : DataW H} {p : List MemPlace} {ts : List TypeId} {ds : List (DataW H)}
    (hv : Value.okWide P W .any base t v) (hj : DataW.Trod enc P W 0 (fun _ => true) true t v d p) (hsz : (DataW.weightsEach P ts ds).all (· ≤ reachBytes) = true) (k1 : ts[j]? = some t) (k2 : ds[j]? = some d) :
    ∃ (st ec ak th : Nat) (has : Bool) (id : Nat) (ix ct : Int) (A : Option Addr) (n c : Nat) (bs : List UInt8), v = .agg #[.int .u16 (st : Int), .int .u16 (ec : Int), .int .u64 (ak : Int), .int .u64 (th : Int), .bool has, .int .u32 (id : Int), .int .i64 ix, .int .i64 ct, .slice A n c] ∧
      (st < 65536 ∧ ec < 65536 ∧ ak < 18446744073709551616 ∧ th < 18446744073709551616 ∧ id < 4294967296 ∧ (Lit.int .i64 ix).wf = true ∧ (Lit.int .i64 ct).wf = true ∧ TxtR (· < W.heap.size) W A n c bs ∧ n ≤ 140737488351232) := by
  obtain ⟨cs, rfl, hsz2⟩ := okWide_struct T.hs hv
  obtain ⟨fuel, hf⟩ := hj
  obtain ⟨st, ec, ak, th, has, id, ix, ct, A, m, c, bs, hcs, r⟩ := open_dat T hf (fun n hn => of_decide_eq_true (List.all_eq_true.1 hsz n (DataW.weights_mem_each k1 k2 n hn)))
  refine ⟨st, ec, ak, th, has, id, ix, ct, A, m, c, bs, ?_, r⟩
  congr 1
  apply Array.ext'
  simpa [Value.cells] using hcs
end Go.Proofs.Ytcffinkkfdfcaaa

/- An array of 32 bytes by value, opened: its bytes. Conditions: none. -/
namespace Go.Proofs.Ytcffinkkfdfcaaa
open Go Go.RowKit

theorem mapM_mem {α β : Type} (f : α → Option β) : ∀ (L : List α) (ys : List β), L.mapM f = some ys → ∀ i ∈ L, ∃ y, f i = some y
  | [], _, _, i, hi => by cases hi
  | x :: L, ys, h, i, hi => by
    rw [List.mapM_cons] at h
    simp only [bind, Option.bind_eq_some_iff, pure, Option.some.injEq] at h
    obtain ⟨y, hy, ys', hys, _⟩ := h
    rcases List.mem_cons.1 hi with rfl | hi
    · exact ⟨y, hy⟩
    · exact mapM_mem f L ys' hys i hi
theorem list_bytes : ∀ (l : List Value), (∀ u ∈ l, ∃ b : UInt8, u = bv b) → ∃ bs : List UInt8, l = bs.map bv
  | [], _ => ⟨[], rfl⟩
  | u :: l, h => by
    obtain ⟨b, hb⟩ := h u List.mem_cons_self
    obtain ⟨bs, hbs⟩ := list_bytes l (fun v hv => h v (List.mem_cons_of_mem _ hv))
    exact ⟨b :: bs, by rw [hb, hbs]; rfl⟩
theorem opn_arr8 {H : Type} {enc : TypeId × Value → H} {P : Program} {W : World} {base t e n : Nat} {v : Value} {d : DataW H} {p : List MemPlace} (ht : P.underlying t = some (.array n e)) (hpl : P.plainKey e = true) (he : P.underlying e = some (.int .u8)) (h1 : P.cellsOf e = 1) (hC : P.cellsOf t = n)
    (hv : Value.okWide P W .any base t v) (hj : DataW.Trod enc P W 0 (fun _ => true) true t v d p) : ∃ l : List UInt8, v = .agg (l.map bv).toArray ∧ l.length = n := by
  obtain ⟨xs, rfl, hn⟩ := WideMaps.okWide_arr (A := (⟨ht, hpl, h1, hC⟩ : WideMaps.ArrKey P t e n)) hv
  obtain ⟨fuel, hf⟩ := hj
  have hall : ∀ u ∈ xs.toList, ∃ b : UInt8, u = bv b := by
    cases fuel with
    | zero => simp [DataW.trod] at hf
    | succ m =>
      rw [DataW.trod_step] at hf
      unfold DataW.trodStep at hf
      simp only [ht, Value.cells] at hf
      rw [if_pos (by rw [hC]; simpa using hn)] at hf
      simp only [Option.map_eq_some_iff] at hf
      obtain ⟨ys, hy, _⟩ := hf
      intro u hu
      obtain ⟨i, hi, rfl⟩ := List.mem_iff_getElem.1 hu
      have hi' : i < n := by rw [← hn]; simpa using hi
      obtain ⟨y, hyi⟩ := mapM_mem _ _ _ hy i (List.mem_range.2 hi')
      obtain ⟨a, ea, _, wa⟩ := DataW.trod_int he hyi
      rw [h1, Nat.mul_one, List.drop_eq_getElem_cons hi, List.take_succ_cons, List.take_zero] at ea
      injection ea with ea _
      rw [ea]
      simp only [Lit.wf, IntKind.min, IntKind.max, IntKind.signed, IntKind.bits, Bool.and_eq_true, decide_eq_true_eq] at wa
      have w1 : (0 : Int) ≤ a := by simpa using wa.1
      have w2 : a ≤ 255 := by simpa using wa.2
      refine ⟨UInt8.ofNat a.toNat, ?_⟩
      unfold bv
      rw [UInt8.toNat_ofNat']
      congr 1
      omega
  obtain ⟨l, hl⟩ := list_bytes xs.toList hall
  refine ⟨l, ?_, ?_⟩
  · rw [← hl]
  · rw [← hn, ← List.length_map bv, ← hl]; simp
end Go.Proofs.Ytcffinkkfdfcaaa
