/- Parts one behind the other: A further item that isn't known: what is got of a Hello and of data is as it was, or the error is told; What tlv's reading of a list of items answers, with no item in the row's own block; What tlv.Decode answers, with no item in the row's own block; How a law's argument is opened: an item by value. Conditions: as told at each. -/
import Derived.Test.YtcffinkkfdfcaaaPB23
import Derived.Test.YtcffinkkfdfcaaaPB9
import Derived.Test.YtcffinkkfdfcaaaPB10
import Derived.Recover

set_option linter.unusedVariables false
set_option linter.unusedSimpArgs false
/- A further item that isn't known: what is got of a Hello and of data is as it was, or the error is told. Conditions: the ranges of what is put. -/
namespace Go.Proofs.Ytcffinkkfdfcaaa
open Go Go.RowKit

/-- One item alone. -/
def xF (kx : Int) (cr li : Bool) (bx : List UInt8) (sub : Fo) : Fo := .cons kx cr li bx sub .nil
theorem pick_more {n : Nat} {f sub : Fo} {kx : Int} {cr li : Bool} {bx : List UInt8} (hk : (n : Int) < kx) :
    (cr = true → pickT (kindsL n) (f.app (xF kx cr li bx sub)) = (7, .nil)) ∧ (cr = false → pickT (kindsL n) (f.app (xF kx cr li bx sub)) = pickT (kindsL n) f) := by
  have hni := not_kinds hk
  have e1 : critF (kindsL n) (f.app (xF kx cr li bx sub)) = (critF (kindsL n) f || cr) := by
    rw [critF_app]
    simp only [xF, critF, decide_eq_false hni, Bool.not_false, Bool.true_and, Bool.or_false]
  have e2 : pickF (kindsL n) (f.app (xF kx cr li bx sub)) = pickF (kindsL n) f := by
    rw [pickF_app]
    simp only [xF, pickF, if_neg hni]
    exact Fo.app_nil _
  refine ⟨fun h => ?_, fun h => ?_⟩
  · rw [pickT, e1, h, Bool.or_true, if_pos rfl]
  · rw [pickT, pickT, e1, e2, h, Bool.or_false]
theorem hel_dec {mx : Int} {ft : Nat} {l : List UInt8} (hl : l.length = 16) (h : (putH mx ft l).1 = 0) : (decT (putH mx ft l).2).2 = crF 0 [numL mx.toNat 1, numL ft 4, l] := by
  have hx : offI mx = true := by
    unfold putH at h
    split at h
    · assumption
    · cases h
  have e : (putH mx ft l).2 = encF (crF 0 [numL mx.toNat 1, numL ft 4, l]) := by unfold putH; rw [if_pos hx]
  have hc := cr_check (hel_lens (mx := mx) (ft := ft) hl) (by simp)
  rw [e, enc_lay hc, dec_back hc]
theorem hel_sticks {bs : List UInt8} {e : Nat} (h : (opS bs 3).err = e) (he : e ≠ 0) : helE bs = e := by
  have h1 : (helS1 bs).err = e := h
  have h2 : (helS2 bs).err = e := by rw [helS2, byS_sticks (by rw [h1]; exact he), h1]
  have h3 : (helS3 bs).err = e := by rw [helS3, byS_sticks (by rw [h2]; exact he), h2]
  have h4 : (helS4 bs).err = e := by rw [helS4, byS_sticks (by rw [h3]; exact he), h3]
  rw [helE, helS5, badS_sticks (by rw [h4]; exact he), h4]
theorem hel_skip {mx : Int} {ft : Nat} {l : List UInt8} {kx : Int} {cr li : Bool} {bx : List UInt8} {sub : Fo} (hf : ft < 4294967296) (hl : l.length = 16) (h : (putH mx ft l).1 = 0) (hk : 7 ≤ kx)
    (hc : checkF ((crF 0 [numL mx.toNat 1, numL ft 4, l]).app (xF kx cr li bx sub)) = 0) :
    (cr = true → helE (encF ((crF 0 [numL mx.toNat 1, numL ft 4, l]).app (xF kx cr li bx sub))) = 7) ∧
    (cr = false → helE (encF ((crF 0 [numL mx.toNat 1, numL ft 4, l]).app (xF kx cr li bx sub))) = 0 ∧ (helR (encF ((crF 0 [numL mx.toNat 1, numL ft 4, l]).app (xF kx cr li bx sub)))).val = .agg (helI mx ft l)) := by
  have hx : offI mx = true := by
    unfold putH at h
    split at h
    · assumption
    · cases h
  obtain ⟨p1, p2⟩ := pick_more (n := 3) (f := crF 0 [numL mx.toNat 1, numL ft 4, l]) (sub := sub) (kx := kx) (cr := cr) (li := li) (bx := bx) (by omega)
  have ho := opS_enc hc 3
  refine ⟨fun q => hel_sticks (by rw [ho, p1 q]) (by decide), fun q => hel_at hx hf hl ?_⟩
  rw [ho, p2 q]
  have := cr_pickT [numL mx.toNat 1, numL ft 4, l]
  rw [show [numL mx.toNat 1, numL ft 4, l].length = 3 from rfl] at this
  rw [this]
theorem dat_dec {v : Int} {d : DataD} (h : (putD v d).1 = 0) (hv : v ≠ 1) : (decT (putD v d).2).2 = d5F d ∧ (v = 2 ∨ v = 3) ∧ d.may = true := by
  have hn : ¬ (v < 1 ∨ 3 < v ∨ d.may = false) := fun q => by
    unfold putD at h
    rw [if_pos q] at h
    cases h
  have hm : d.may = true := by
    cases hh : d.may with
    | true => rfl
    | false => exact absurd (Or.inr (Or.inr hh)) hn
  have hc : checkF (d5F d) = 0 := by unfold putD at h; rw [if_neg hn, if_neg hv] at h; exact h
  have e : (putD v d).2 = encF (d5F d) := by unfold putD; rw [if_neg hn, if_neg hv]
  rw [e, enc_lay hc, dec_back hc]
  exact ⟨rfl, by omega, hm⟩
theorem dat_sticks {v : Int} {B : List UInt8} (hv : v = 2 ∨ v = 3) (hA : (itA1 B).err = 7) : getE v B = 7 := by
  have hE : itmE B = 7 := by rw [itm1 (by rw [hA]; decide), hA]
  have hG : (getG v B).1 = 7 := by unfold getG; rw [if_neg (by omega), if_pos hv]; exact hE
  have hn : ¬ ((getG v B).1 = 0 ∧ (getG v B).2.may = false) := fun a => by have := a.1; omega
  unfold getE
  rw [if_neg hn, hG]
theorem dat_skip {v : Int} {d : DataD} {kx : Int} {cr li : Bool} {bx : List UInt8} {sub : Fo} (h1 : d.st < 65536) (h2 : d.ec < 65536) (h3 : U64 d.ak) (h4 : U64 d.th) (h5 : d.p.id < 4294967296) (hv : v = 2 ∨ v = 3) (hm : d.may = true) (hk : 7 ≤ kx)
    (hc : checkF ((d5F d).app (xF kx cr li bx sub)) = 0) :
    (cr = true → getE v (encF ((d5F d).app (xF kx cr li bx sub))) = 7) ∧ (cr = false → getE v (encF ((d5F d).app (xF kx cr li bx sub))) = 0 ∧ getD v (encF ((d5F d).app (xF kx cr li bx sub))) = d) := by
  have hv1 : v ≠ 1 := by omega
  obtain ⟨p1, p2⟩ := pick_more (n := 5) (f := d5F d) (sub := sub) (kx := kx) (cr := cr) (li := li) (bx := bx) (by omega)
  have ho := opS_enc hc 5
  have hp : pickT (kindsL 5) (d5F d) = (0, d5F d) := by
    obtain ⟨q1, q2⟩ := d5_pick d
    unfold pickT
    rw [q1, q2]; rfl
  obtain ⟨B, eB⟩ : ∃ B, encF ((d5F d).app (xF kx cr li bx sub)) = B := ⟨_, rfl⟩
  rw [eB] at ho ⊢
  refine ⟨fun q => ?_, fun q => ?_⟩
  · have hA : (itA1 B).err = 7 := by rw [itA1, ho, p1 q]
    exact dat_sticks hv hA
  · have hA : itA1 B = ⟨d5F d, 0, 0⟩ := by rw [itA1, ho, p2 q, hp]
    obtain ⟨g1, g2⟩ := itm_at hA h1 h2 h3 h4 h5 hm
    have hG : getG v B = (0, d) := by unfold getG; rw [if_neg hv1, if_pos hv, g1, g2]
    have hE : getE v B = 0 := by rw [getE, hG, if_neg (fun q => by rw [hm] at q; cases q.2)]
    exact ⟨hE, by rw [getD, if_pos hE, hG]⟩
/-- What is got is a row of a Hello's cells. -/
theorem helR_row (bs : List UInt8) : ∃ Y : Array Value, (helR bs).val = .agg Y ∧ Y.size = 18 ∧ Y.all (·.oneCell') = true := by
  refine ⟨_, rfl, ?_, hel_one _ _ _⟩
  simp [helC]
  unfold helR
  split
  · exact byB_len _ _
  · simp [zerB]
end Go.Proofs.Ytcffinkkfdfcaaa

/- What tlv's reading of a list of items answers, with no item in the row's own block. Conditions: bytes that can be read. -/
namespace Go.Proofs.Ytcffinkkfdfcaaa
open Go Go.RowKit

/-- A list of items of one's own; none of its items has anything in the row's own block. -/
def FoD (ok : Nat → Prop) (w : World) (v : Value) (f : Fo) : Prop := ∃ ds, FoP ok w v ds f
theorem FoD.o {ok : Nat → Prop} {w : World} {v : Value} {f : Fo} (h : FoD ok w v f) : FoO ok w v f := by obtain ⟨ds, h⟩ := h; exact h.o
theorem FoD.frame {ok : Nat → Prop} {w w' : World} {v : Value} {f : Fo} (h : FoD ok w v f) (hk : ∀ j, ok j → j < w.heap.size → w'.heap[j]? = w.heap[j]?) : FoD ok w' v f := by obtain ⟨ds, h⟩ := h; exact ⟨ds, h.frame hk⟩
theorem FoD.weak {ok ok' : Nat → Prop} {w : World} {v : Value} {f : Fo} (h : FoD ok w v f) (hk : ∀ j, ok j → j < w.heap.size → ok' j) : FoD ok' w v f := by obtain ⟨ds, h⟩ := h; exact ⟨ds, h.weak hk⟩
theorem FoD.nil_ (ok : Nat → Prop) (w : World) : FoD ok w (.slice none 0 0) .nil := ⟨[], FoP.nil_ ok w⟩
/-- What the reading of a list ends with. -/
def DmP (w : World) (bx : Nat) (R : Nat × Fo × Nat) (r : Ending) (w' : World) : Prop :=
  (R.1 = 0 → ∃ v, r = .returned v ∧ FoD (w.heap.size ≤ ·) w' v R.2.1 ∧ CntB w' bx R.2.2) ∧ (R.1 ≠ 0 → r = thrown R.1) ∧ w.grownBy w' (some bx)
theorem DmP.bad {w w' : World} {bx : Nat} {R : Nat × Fo × Nat} {e : Nat} (hR : R.1 = e) (he : e ≠ 0) (hg : w.grownBy w' (some bx)) : DmP w bx R (thrown e) w' :=
  ⟨fun h => absurd (hR.symm.trans h) he, fun _ => by rw [hR], hg⟩
set_option maxRecDepth 100000 in
set_option maxHeartbeats 8000000 in
theorem list_p : ∀ (N : Nat) (bs : List UInt8), bs.length = N → ∀ (m : Nat) (d : Int) (cnt bx : Nat), N < m → 1 ≤ d → d ≤ 4 → cnt ≤ 64 → ∀ (A : Option Addr) (n c : Nat) (w : World), N = n → Rd w A (bs.map bv) → n ≤ 140737488355328 → CntB w bx cnt →
    Calls Try.prog 60 #[.pointer (some ⟨bx, 0, none⟩), .slice A n c, .int .i64 d] w (DmP w bx (decG m ⟨bs, 0, 0, none⟩ d 0 cnt)) := by
  intro N
  induction N using Nat.strongRecOn with
  | _ N ih =>
    intro bs hN m d cnt bx hm hd1 hd4 hcnt A n c w hn hr hl hcb
    have IH := Lib.hid ih; clear ih
    have HN := Lib.hid (hN.trans hn); clear hN
    have HNN := Lib.hid hn; clear hn
    have HM := Lib.hid hm; clear hm
    have HCB := Lib.hid hcb; clear hcb
    obtain ⟨R0, eR0⟩ : ∃ R0, R0 = decG m ⟨bs, 0, 0, none⟩ d 0 cnt := ⟨_, rfl⟩
    rw [← eR0]
    have ER0 := Lib.hid eR0; clear eR0
    go_enter Try.func60, Try.ntmps60
    go_wp2_with (fail)
    refine (Rnew_c A n c bs w HN.out hr hl).mono ?_
    rintro _ w1 ⟨gr, gA, rfl, hgr, hrd, hb1, hgA⟩
    have hS1 : DlS w bx gr ⟨bs, 0, 0, gA⟩ (.slice none 0 0) [] .nil cnt w1 := 
      ⟨hrd, FoP.nil_ _ _, (hb1.block bx (heap_lt HCB.out)).trans HCB.out, grownBy_of_below hb1 _, hgr, heap_lt HCB.out, hgA⟩
    have HS1 := Lib.hid hS1
    have ER1 : Hid (R0 = decG m ⟨bs, 0, 0, gA⟩ d 0 cnt) := Lib.hid (ER0.out.trans (decG_g gA m ⟨bs, 0, 0, none⟩ d 0 cnt).symm)
    clear hS1 hrd hb1 hgA hr hgr HCB
    go_wp2_with (fail)
    go_loopw [7, 9] (fun o a wr => ∃ (s : RS) (ds : List ItV) (P : Fo) (c0 ah m' : Nat), a = .int .u64 (ah : Int) ∧ Hid (DlS w bx gr s o ds P c0 wr) ∧ Hid (s.b.length - s.at_ < m' ∧ s.b.length = n ∧ s.err = 0 ∧ s.at_ ≤ s.b.length) ∧ c0 ≤ 64 ∧ ah ≤ 1000 ∧ Hid (R0 = cmb P (decG m' s d ah c0)) ∧ Hid (P.len ≤ c0)) (fun _ _ wr => 64 - (intOf ((wr.cell? ⟨bx, 0, none⟩).getD undef)).toNat)
    case atStart => exact ⟨⟨bs, 0, 0, gA⟩, [], .nil, cnt, 0, m, rfl, HS1, Lib.hid ⟨by have := HM.out; have := HN.out; have := HNN.out; simp only; omega, HN.out, rfl, Nat.zero_le _⟩, hcnt, by omega, Lib.hid ER1.out, Lib.hid (by simp [Fo.len])⟩
    case round =>
      clear HS1 ER1 ER0
      obtain ⟨s, ds, P, c0, ah, m', rfl, HS, HB, hc0, hah, HR, HP⟩ := hrel
      obtain ⟨hB1, hB2, hB3, hB4⟩ := HB.out
      obtain ⟨nn, s1, eV⟩ : ∃ nn s1, varR s = (nn, s1) := ⟨_, _, rfl⟩
      obtain ⟨a1, a2, a3, a4, a5, a6⟩ := varR_step eV hB3 hB4
      have EV := Lib.hid eV
      have A6 := Lib.hid a6
      have AB := Lib.hid (And.intro a1 (And.intro a2 (And.intro a3 a4)))
      clear eV a6 a1 a2 a3 a4 hB3
      obtain ⟨lf, elf⟩ : ∃ lf, lf = s.b.length - s.at_ := ⟨_, rfl⟩
      have hlf : lf ≤ 140737488355328 := by omega
      have ELF := Lib.hid elf
      have rl := Rleft_c gr s wr HS.out.rd
      rw [← elf] at rl
      have RL := Lib.hid rl
      clear elf rl hB4
      obtain ⟨m1, rfl⟩ : ∃ m1, m' = m1 + 1 := ⟨m' - 1, by omega⟩
      clear hB1 hB2
      go_wp2_with (fail)
      refine RL.out.mono ?_
      rintro e _ ⟨rfl, qq, rfl⟩
      have HS2 := Lib.hid (HS.out.drewN qq)
      obtain ⟨w2, ew2⟩ : ∃ w2, w2 = wr.drewN qq := ⟨_, rfl⟩
      rw [← ew2] at HS2 ⊢
      have MC : Hid (wr.cell? ⟨bx, 0, none⟩ = some (.int .i64 (c0 : Int))) := Lib.hid (by rw [heap_cell HS.out.cnt]; rfl)
      clear ew2 RL HS
      rcases Nat.eq_zero_or_pos lf with h0 | h0
      · have d0 : decide ((0 : Int) < (lf : Int)) = false := decide_eq_false (by omega)
        have d0' : decide (0 < lf) = false := decide_eq_false (by omega)
        have e0 : R0 = (0, P, c0) := by rw [HR.out, decG_end (by have := ELF.out; omega), cmb, Fo.app_nil]
        have E0 := Lib.hid e0
        clear h0 e0
        go_wp2_with (fail)
        go_ret
        rw [E0.out]
        exact ⟨fun _ => ⟨_, rfl, ⟨_, HS2.out.out.weak (fun _ hj _ => hj.1)⟩, HS2.out.cnt⟩, fun h => absurd rfl h, HS2.out.g⟩
      · have d0 : decide ((0 : Int) < (lf : Int)) = true := decide_eq_true (by omega)
        have d0' : decide (0 < lf) = true := decide_eq_true (by omega)
        have hlt : s.at_ < s.b.length := by have := ELF.out; omega
        have HLT := Lib.hid hlt
        have rv := Rvar_c gr s w2 HS2.out.rd
        rw [EV.out] at rv
        have RV := Lib.hid rv
        clear h0 hlt rv
        go_wp2_with (fail)
        refine RV.out.mono ?_
        rintro e w3 ⟨rfl, hr3, hg3⟩
        have HS3 := Lib.hid (HS2.out.read hr3 AB.out.2.1 hg3)
        clear hr3 hg3 RV HS2 d0 d0'
        go_wp2_with (fail)
        refine (Rerr_c gr s1 w3 HS3.out.rd).mono ?_
        rintro e wx ⟨rfl, hx⟩; rw [← hx]; clear hx wx
        by_cases h1 : s1.err = 0
        · have H1 := Lib.hid h1; clear h1
          go_wp2_with (fail)
          refine (must_ok s1.err H1.out _).mono ?_
          rintro _ wx ⟨rfl, hx⟩; rw [hx]; clear hx wx
          obtain ⟨q, eq⟩ : ∃ q, q = nn / 4 := ⟨_, rfl⟩
          obtain ⟨B4, eB4⟩ : ∃ B4, B4 = decide (2 ≤ nn % 4) := ⟨_, rfl⟩
          have wq : IntKind.u64.wrap ((nn : Int) / 4) = (q : Int) := by
            rw [show (nn : Int) / 4 = ((nn / 4 : Nat) : Int) by omega, eq]; exact u64_wrapN (by unfold U64 at *; omega)
          have b2 : (bits BinOp.and .u64 (nn : Int) 2 != 0) = B4 := by rw [eB4]; exact band2 a5
          have b1 := band1 a5
          have EQ := Lib.hid eq
          have EB4 := Lib.hid eB4
          clear eq eB4
          have bad : Hid (∀ (w' : World), q ≤ ah ∨ 1000 < q → w.grownBy w' (some bx) → DmP w bx R0 (thrown 3) w') := Lib.hid (fun w' h hg => DmP.bad (by rw [HR.out, decG_form HLT.out EV.out H1.out (by rw [← EQ.out]; exact h)]; rfl) (by decide) hg)
          by_cases hq3 : q ≤ ah
          · have q3 : (q : Int) ≤ (ah : Int) := by omega
            have g0 := Lib.hid (show q ≤ ah ∨ 1000 < q by omega)
            clear hq3
            go_wp2_with (fail)
            exact ⟨rfl, bad.out _ g0.out HS3.out.g⟩
          have q3 : (ah : Int) < (q : Int) := by omega
          by_cases hq2 : 1000 < q
          · have q2 : 1000 < (q : Int) := by omega
            have g0 := Lib.hid (show q ≤ ah ∨ 1000 < q by omega)
            clear hq2 hq3
            go_wp2_with (fail)
            exact ⟨rfl, bad.out _ g0.out HS3.out.g⟩
          have q2 : (q : Int) ≤ 1000 := by omega
          have NF : Hid (¬ (nn / 4 ≤ ah ∨ 1000 < nn / 4)) := Lib.hid (by rw [← EQ.out]; omega)
          clear hq2 hq3 bad
          have cc := HS3.out.cnt
          have x0 : w3.cell? ⟨bx, 0, none⟩ = some (.int .i64 (c0 : Int)) := by rw [heap_cell cc]; rfl
          have xf : w3.frozen? ⟨bx, 0, none⟩ = false := heap_free cc _
          obtain ⟨w4, ew4⟩ : ∃ w4, w4 = w3.setCell ⟨bx, 0, none⟩ (.int .i64 ((c0 : Int) + 1)) := ⟨_, rfl⟩
          have HS4 : Hid (DlS w bx gr s1 u7 ds P (c0 + 1) w4) := Lib.hid (by rw [ew4]; exact HS3.out.step (only_set bx 0 _) (cc.set (c0 + 1)))
          have y0 : w4.cell? ⟨bx, 0, none⟩ = some (.int .i64 ((c0 : Int) + 1)) := by rw [heap_cell HS4.out.cnt]; rfl
          have EW4 := Lib.hid ew4
          clear ew4 cc
          go_upto_region 11 with (fail)
          rw [← EW4.out]
          clear x0 xf
          by_cases hc6 : 64 ≤ c0
          · have c6 : (64 : Int) < (c0 : Int) + 1 := by omega
            have e0 : R0.1 = 4 := by rw [HR.out, decG_many HLT.out EV.out H1.out NF.out hc6]; rfl
            have E0 := Lib.hid e0
            clear hc6 e0
            go_wp2_with (fail)
            exact ⟨rfl, DmP.bad E0.out (by decide) HS4.out.g⟩
          have c6 : (c0 : Int) + 1 ≤ 64 := by omega
          have HC6 := Lib.hid hc6
          have wi : IntKind.i64.wrap (q : Int) = (q : Int) := IntWalk.i64_in _ ⟨by omega, by omega⟩
          clear hc6
          obtain ⟨gi, egi⟩ : ∃ gi, gi = w4.heap.size := ⟨_, rfl⟩
          by_cases hz2 : nn % 2 = 1
          · rw [decide_eq_true hz2] at b1
            have HZ2 := Lib.hid hz2
            clear hz2
            obtain ⟨w5, ew5⟩ : ∃ w5, w5 = w4.alloc (.cells #[.int .i64 (q : Int), .bool B4, .bool true, .slice none 0 0, .slice none 0 0] 76) := ⟨_, rfl⟩
            have h5 : w5.heap[gi]? = some (.cells #[.int .i64 (q : Int), .bool B4, .bool true, .slice none 0 0, .slice none 0 0] 76 (0, 0)) := by rw [ew5, egi]; exact heap_alloc_new w4 _
            have b5 : Below w4.heap.size w4 w5 := by rw [ew5]; exact (Below.refl _ _).alloc (Nat.le_refl _) _
            have HS5 := Lib.hid (HS4.out.below b5)
            have K5 : Hid (Keeps (fun j => j = gr ∨ j = bx ∨ w4.heap.size ≤ j) w4 w5) := Lib.hid (Keeps.of_below b5 _ (fun k hk _ => hk))
            have Z5 : Hid (w5.heap.size = gi + 1) := Lib.hid (by rw [ew5, egi]; simp)
            have EW5 := Lib.hid ew5
            have H5 := Lib.hid h5
            have EGI := Lib.hid egi
            have hgr4 : Hid (gr < gi) := Lib.hid (by rw [egi]; exact HS4.out.rd.lt)
            have z2 : w5.cell? ⟨gi, 2, none⟩ = some (.bool true) := by rw [heap_cell h5]; rfl
            clear ew5 h5 b5 egi
            go_upto_region 14 with (fail)
            rw [← EW5.out, ← EGI.out]
            clear y0
            by_cases hd4' : d = 4
            · have d4 : (4 : Int) ≤ d := by omega
              have e0 : R0.1 = 5 := by rw [HR.out, decG_deep HLT.out EV.out H1.out NF.out HC6.out ⟨HZ2.out, hd4'⟩]; rfl
              have E0 := Lib.hid e0
              clear hd4' e0
              go_wp2_with (fail)
              exact ⟨rfl, DmP.bad E0.out (by decide) HS5.out.g⟩
            have d4 : d < 4 := by omega
            have HD3 := Lib.hid d4
            have ND : Hid (¬ (nn % 2 = 1 ∧ d = 4)) := Lib.hid (fun h => hd4' h.2)
            clear hd4'
            obtain ⟨t, s2, eT⟩ : ∃ t s2, textR s1 4096 = (t, s2) := ⟨_, _, rfl⟩
            obtain ⟨b1', b2', b3', b4', b6, b7, b8⟩ := textR_step eT H1.out (by have := AB.out; rw [this.1]; exact this.2.2.2)
            have ET := Lib.hid eT
            have BT := Lib.hid (And.intro b1' (And.intro b2' (And.intro b3' (And.intro b4' (And.intro b7 b8)))))
            have rt := Rtext_c gr s1 4096 w5 HS5.out.rd (by decide)
            rw [eT] at rt
            have RT := Lib.hid rt
            clear eT b1' b2' b3' b4' b7 b8 rt
            obtain ⟨tl, etl⟩ : ∃ tl, tl = t.length := ⟨_, rfl⟩
            rw [← etl] at b6
            have ETL := Lib.hid etl
            clear etl
            go_wp2_with (fail)
            refine RT.out.mono ?_
            rintro e w6 ⟨vt, rfl, hot, hr6, hg6⟩
            obtain ⟨At, ct, evt, i1, i2, i3, i4⟩ := OwnB.form hot
            rw [← ETL.out] at evt i1
            subst evt
            have HS6 := Lib.hid (HS5.out.read hr6 BT.out.2.1 hg6)
            have OT6 := Lib.hid hot
            have R6 := Lib.hid i3
            have K6 := Lib.hid (K5.out.trans (Keeps.of_grown hg6 _ (fun k e => by injection e with e; exact .inl e.symm)))
            have H6 : Hid (w6.heap[gi]? = some (.cells #[.int .i64 (q : Int), .bool B4, .bool true, .slice none 0 0, .slice none 0 0] 76 (0, 0))) := Lib.hid ((hg6.block gi (by rw [Z5.out]; omega) (fun e => by injection e with e; have := hgr4.out; omega)).trans H5.out)
            have Z6 := Lib.hid hg6.size
            clear hr6 hg6 RT HS5 z2 i1 i2 i3 i4 hot K5 H5
            go_wp2_with (fail)
            refine (Rerr_c gr s2 w6 HS6.out.rd).mono ?_
            rintro e wx ⟨rfl, hx⟩; rw [← hx]; clear hx wx
            by_cases h2 : s2.err = 0
            · have H2 := Lib.hid h2
              clear h2
              go_wp2_with (fail)
              refine (must_ok s2.err H2.out _).mono ?_
              rintro _ wx ⟨rfl, hx⟩; rw [hx]; clear hx wx
              have z2 : w6.cell? ⟨gi, 2, none⟩ = some (.bool true) := by rw [heap_cell H6.out]; rfl
              have okj : Hid (∀ j, w5.heap.size ≤ j → okD w gr s2.gA j ∧ u7.ownBlock ≠ some j) := Lib.hid (fun j hj => by
                have z1 := HS4.out.g.size
                have zz := Z5.out
                have zg := EGI.out
                have hh := hgr4.out
                refine ⟨⟨by omega, by omega, fun a e => ?_⟩, fun e => ?_⟩
                · rw [BT.out.2.1] at e
                  have := (HS4.out.gA a e).2
                  omega
                · have := HS4.out.out.lt j e
                  omega)
              obtain ⟨e9, L9, c9, eR9⟩ : ∃ e9 L9 c9, decG m1 ⟨t, 0, 0, none⟩ (d + 1) 0 (c0 + 1) = (e9, L9, c9) := ⟨_, _, _, rfl⟩
              have ER9 := Lib.hid eR9
              have hd3' := HD3.out
              have HQ := Lib.hid (show tl < N ∧ tl < m1 by
                have a := HB.out; have b := BT.out; have c := AB.out; have dd := A6.out H1.out; have e := HLT.out; have f := HNN.out; have g := ETL.out
                have h := b.2.2.2.2.1
                rw [c.1] at h
                omega)
              clear eR9
              go_wp2_with (fail)
              refine (IH.out tl HQ.out.1 t ETL.out.symm m1 (d + 1) (c0 + 1) bx HQ.out.2 (by omega) (by omega) (by omega) At tl ct w6 rfl R6.out (by omega) HS6.out.cnt).mono ?_
              rintro e w7 ⟨g1, g2, g3⟩
              rw [ER9.out] at g1 g2
              dsimp only at g1 g2
              by_cases he9 : e9 = 0
              · obtain ⟨v9, rfl, ho9, hc9⟩ := g1 he9
                have hR9 := ER9.out
                rw [he9] at hR9
                obtain ⟨k1, k2⟩ := decG_count m1 ⟨t, 0, 0, none⟩ (d + 1) 0 (c0 + 1) (by omega) (by rw [hR9])
                rw [hR9] at k1 k2
                dsimp only at k1 k2
                have hl9 := Fo.len_le L9
                obtain ⟨n9, en9⟩ : ∃ n9, L9.len = n9 := ⟨_, rfl⟩
                obtain ⟨A9, k9, rfl, j1, j2, -⟩ := (FoD.o ho9).form en9
                have hcc : c0 + 1 ≤ c9 ∧ c9 ≤ 64 ∧ n9 ≤ 64 := by omega
                obtain ⟨cc1, cc2, cc3⟩ := hcc
                have hbxi : bx < gi := by have := HS6.out.bx; have := HS6.out.lo; have := hgr4.out; omega
                have hne : ∀ k, k < w6.heap.size → k ≠ bx → w7.heap[k]? = w6.heap[k]? := fun k hk h => g3.block k hk (fun e => h (by injection e))
                have hlti : gi < w6.heap.size := heap_lt H6.out
                have h7 := (hne gi hlti (by omega)).trans H6.out
                have k67 : Keeps (fun j => j = bx) w6 w7 := Keeps.of_grown g3 _ (fun k e => by injection e with e; exact e.symm)
                obtain ⟨itv, eitv⟩ : ∃ itv : ItV, itv = ⟨(q : Int), B4, true, none, 0, 0, A9, n9, k9⟩ := ⟨_, rfl⟩
                have EITV := Lib.hid eitv
                obtain ⟨w8, ew8⟩ : ∃ w8, w8 = w7.setCell ⟨gi, 4, none⟩ (.slice A9 n9 k9) := ⟨_, rfl⟩
                have h8 : w8.heap[gi]? = some (.cells #[.int .i64 (q : Int), .bool B4, .bool true, .slice none 0 0, .slice A9 n9 k9] 76 (0, 0)) := by rw [ew8, heap_set h7]; rfl
                have k78 : Keeps (fun j => j = gi) w7 w8 := by rw [ew8]; exact Keeps.set _ _ _ _ rfl
                have k68 : Keeps (fun j => j = bx ∨ j = gi) w6 w8 := (k67.mono (fun k e => .inl e)).trans (k78.mono (fun k e => .inr e))
                have k8 := K6.out.trans (k68.mono (T := fun j => j = gr ∨ j = bx ∨ w4.heap.size ≤ j) (fun k e => e.elim (fun e => .inr (.inl e)) (fun e => .inr (.inr (by rw [e, EGI.out]; exact Nat.le_refl _)))))
                have S6 := HS6.out
                have zgi := hgr4.out
                have zb := S6.bx
                have zl := S6.lo
                have hS8 : DlS w bx gr s2 u7 ds P c9 w8 := HS4.out.jump k8 (S6.rd.frame (k68.block gr S6.rd.lt (by omega)) (fun a e hl => k68.block _ hl (by have h1 := HS4.out.gA a (by rw [← BT.out.2.1]; exact e); have := EGI.out; omega)) k68.size) BT.out.2.1 ((k78.block bx (heap_lt hc9) (by omega)).trans hc9)
                have hZ7 : Hid (w6.heap.size ≤ w7.heap.size) := Lib.hid k67.size
                have b89 : Below w8.heap.size w8 (w8.alloc (.cells #[.int .i64 (q : Int), .bool B4, .bool true, .slice none 0 0, .slice A9 n9 k9] 76)) := (Below.refl _ _).alloc (Nat.le_refl _) _
                have HS9 := Lib.hid (hS8.below b89)
                have ho8 : FoO (w6.heap.size ≤ ·) w8 (.slice A9 n9 k9) L9 := (FoD.o ho9).frame (fun j hj hl => k78.block j hl (by have : w6.heap.size ≤ j := hj; omega))
                have ho11 := (ho8.below b89).weak (ok' := fun j => okD w gr s2.gA j ∧ u7.ownBlock ≠ some j) (fun j hj _ => okj.out j (by have : w6.heap.size ≤ j := hj; have := Z6.out; omega))
                have HD9 : Hid (ItsO (fun j => okD w gr s2.gA j ∧ u7.ownBlock ≠ some j) (w8.alloc (.cells #[.int .i64 (q : Int), .bool B4, .bool true, .slice none 0 0, .slice A9 n9 k9] 76)) [itv] (.cons (q : Int) B4 true [] L9 .nil)) := Lib.hid (by rw [eitv]; exact ItsO.one (TxtO.nil_ _ _) ho11 (by rw [en9]; omega))
                have HR9 := Lib.hid (Rd.lit w8 (cellsI [⟨(q : Int), B4, true, none, 0, 0, A9, n9, k9⟩]) 76)
                have hdl : ds.length ≤ 64 := by rw [ItsO.len P ds hS8.out.its]; have := HP.out; omega
                have hm0 : Hid (R0 = cmb (P.app (.cons (q : Int) B4 true [] L9 .nil)) (decG m1 s2 d q c9)) := Lib.hid (by
                  rw [HR.out, decG_list HLT.out EV.out H1.out NF.out HC6.out (by omega) ET.out H2.out HZ2.out hR9, cmb_cmb, ← EQ.out, ← EB4.out])
                have EW8 := Lib.hid ew8
                have yf4 : w7.frozen? ⟨gi, 4, none⟩ = false := heap_free h7 _
                have y4 : w7.cell? ⟨gi, 4, none⟩ = some (.slice none 0 0) := by rw [heap_cell h7]; rfl
                obtain ⟨p0, p1, p2, p3, p4⟩ : w8.cell? ⟨gi, 0, none⟩ = some (.int .i64 (q : Int)) ∧ w8.cell? ⟨gi, 1, none⟩ = some (.bool B4) ∧ w8.cell? ⟨gi, 2, none⟩ = some (.bool true) ∧ w8.cell? ⟨gi, 3, none⟩ = some (.slice none 0 0) ∧ w8.cell? ⟨gi, 4, none⟩ = some (.slice A9 n9 k9) := by
                  refine ⟨?_, ?_, ?_, ?_, ?_⟩ <;> (rw [heap_cell h8]; rfl)
                clear ew8 h8 k68 k8 hS8 b89 eitv S6 zgi zb zl k67 k78 h7 hne hlti hbxi g1 g2 g3 he9 ho9 hc9 hR9 k1 k2 hl9 en9 j1 j2 ho8 ho11
                go_upto_region 21 with (fail)
                rw [← EW8.out]
                clear z2 yf4 y4
                go_wp2_with (at_builtin; refine wpList_appI _ rfl (.tmp 78) (.tmp 80) rfl 0 _ ds rfl HS9.out.out.row (some ⟨w8.heap.size, 0, none⟩) 1 1 [⟨(q : Int), B4, true, none, 0, 0, A9, n9, k9⟩] rfl rfl HR9.out (by omega) (Nat.zero_le _) ?_; intro v12 w12 ho12 hg12 hv12; have HS12 := Lib.hid (HS9.out.more HD9.out (EITV.out ▸ ho12) hg12 hv12); clear ho12 hg12 hv12)
                go_roundw
                case rel => exact ⟨s2, _, _, c9, q, m1, rfl, HS12, Lib.hid (by have a := HB.out; have b := BT.out; have c := AB.out; have dd := A6.out H1.out; have e := HLT.out; refine ⟨?_, ?_, H2.out, ?_⟩; (rw [b.1, c.1]; omega); (rw [b.1, c.1]; exact a.2.1); (rw [b.1]; exact b.2.2.2.1)), by omega, by omega, hm0, Lib.hid (by rw [Fo.len_app]; simp only [Fo.len]; have := HP.out; omega)⟩
                case measure =>
                  have mc := MC.out
                  have mn : w12.cell? ⟨bx, 0, none⟩ = some (.int .i64 ((c9 : Nat) : Int)) := by rw [heap_cell HS12.out.cnt]; rfl
                  rw [mc, mn]
                  simp [intOf]; omega
              · have e0 : R0.1 = e9 := by
                  rw [HR.out, decG_bad HLT.out EV.out H1.out NF.out HC6.out (by omega) ET.out H2.out HZ2.out (by rw [ER9.out]; exact he9), ER9.out]; rfl
                have E0 := Lib.hid e0
                have HE9 := Lib.hid he9
                have G9 := Lib.hid (only_trans HS6.out.g g3)
                obtain rfl := g2 he9
                clear he9 e0 g1 g2 g3
                unfold thrown
                go_wp2_with (fail)
                exact ⟨rfl, DmP.bad E0.out HE9.out G9.out⟩
            · have e0 : R0.1 = s2.err := by rw [HR.out, decG_text HLT.out EV.out H1.out NF.out HC6.out ND.out ET.out h2]; rfl
              have E0 := Lib.hid e0
              have H2 := Lib.hid h2
              clear h2 e0
              go_wp2_with (fail)
              refine (must_no s2.err H2.out _).mono ?_
              rintro _ wx ⟨rfl, hx⟩; rw [hx]; clear hx wx
              unfold thrown
              go_wp2_with (fail)
              exact ⟨rfl, DmP.bad E0.out H2.out HS6.out.g⟩
          · rw [decide_eq_false hz2] at b1
            have HZ2 : Hid (nn % 2 = 0) := Lib.hid (by omega)
            clear hz2
            obtain ⟨w5, ew5⟩ : ∃ w5, w5 = w4.alloc (.cells #[.int .i64 (q : Int), .bool B4, .bool false, .slice none 0 0, .slice none 0 0] 76) := ⟨_, rfl⟩
            have h5 : w5.heap[gi]? = some (.cells #[.int .i64 (q : Int), .bool B4, .bool false, .slice none 0 0, .slice none 0 0] 76 (0, 0)) := by rw [ew5, egi]; exact heap_alloc_new w4 _
            have b5 : Below w4.heap.size w4 w5 := by rw [ew5]; exact (Below.refl _ _).alloc (Nat.le_refl _) _
            have HS5 := Lib.hid (HS4.out.below b5)
            have K5 : Hid (Keeps (fun j => j = gr ∨ j = bx ∨ w4.heap.size ≤ j) w4 w5) := Lib.hid (Keeps.of_below b5 _ (fun k hk _ => hk))
            have Z5 : Hid (w5.heap.size = gi + 1) := Lib.hid (by rw [ew5, egi]; simp)
            have EW5 := Lib.hid ew5
            have H5 := Lib.hid h5
            have EGI := Lib.hid egi
            have hgr4 : Hid (gr < gi) := Lib.hid (by rw [egi]; exact HS4.out.rd.lt)
            have z2 : w5.cell? ⟨gi, 2, none⟩ = some (.bool false) := by rw [heap_cell h5]; rfl
            clear ew5 h5 b5 egi
            go_upto_region 14 with (fail)
            rw [← EW5.out, ← EGI.out]
            clear y0
            have ND : Hid (¬ (nn % 2 = 1 ∧ d = 4)) := Lib.hid (fun h => by have := HZ2.out; omega)
            obtain ⟨t, s2, eT⟩ : ∃ t s2, textR s1 4096 = (t, s2) := ⟨_, _, rfl⟩
            obtain ⟨b1', b2', b3', b4', b6, b7, b8⟩ := textR_step eT H1.out (by have := AB.out; rw [this.1]; exact this.2.2.2)
            have ET := Lib.hid eT
            have BT := Lib.hid (And.intro b1' (And.intro b2' (And.intro b3' (And.intro b4' (And.intro b7 b8)))))
            have rt := Rtext_c gr s1 4096 w5 HS5.out.rd (by decide)
            rw [eT] at rt
            have RT := Lib.hid rt
            clear eT b1' b2' b3' b4' b7 b8 rt
            obtain ⟨tl, etl⟩ : ∃ tl, tl = t.length := ⟨_, rfl⟩
            rw [← etl] at b6
            have ETL := Lib.hid etl
            clear etl
            go_wp2_with (fail)
            refine RT.out.mono ?_
            rintro e w6 ⟨vt, rfl, hot, hr6, hg6⟩
            obtain ⟨At, ct, evt, i1, i2, i3, i4⟩ := OwnB.form hot
            rw [← ETL.out] at evt i1
            subst evt
            have HS6 := Lib.hid (HS5.out.read hr6 BT.out.2.1 hg6)
            have OT6 := Lib.hid hot
            have R6 := Lib.hid i3
            have K6 := Lib.hid (K5.out.trans (Keeps.of_grown hg6 _ (fun k e => by injection e with e; exact .inl e.symm)))
            have H6 : Hid (w6.heap[gi]? = some (.cells #[.int .i64 (q : Int), .bool B4, .bool false, .slice none 0 0, .slice none 0 0] 76 (0, 0))) := Lib.hid ((hg6.block gi (by rw [Z5.out]; omega) (fun e => by injection e with e; have := hgr4.out; omega)).trans H5.out)
            have Z6 := Lib.hid hg6.size
            clear hr6 hg6 RT HS5 z2 i1 i2 i3 i4 hot K5 H5
            go_wp2_with (fail)
            refine (Rerr_c gr s2 w6 HS6.out.rd).mono ?_
            rintro e wx ⟨rfl, hx⟩; rw [← hx]; clear hx wx
            by_cases h2 : s2.err = 0
            · have H2 := Lib.hid h2
              clear h2
              go_wp2_with (fail)
              refine (must_ok s2.err H2.out _).mono ?_
              rintro _ wx ⟨rfl, hx⟩; rw [hx]; clear hx wx
              have z2 : w6.cell? ⟨gi, 2, none⟩ = some (.bool false) := by rw [heap_cell H6.out]; rfl
              have okj : Hid (∀ j, w5.heap.size ≤ j → okD w gr s2.gA j ∧ u7.ownBlock ≠ some j) := Lib.hid (fun j hj => by
                have z1 := HS4.out.g.size
                have zz := Z5.out
                have zg := EGI.out
                have hh := hgr4.out
                refine ⟨⟨by omega, by omega, fun a e => ?_⟩, fun e => ?_⟩
                · rw [BT.out.2.1] at e
                  have := (HS4.out.gA a e).2
                  omega
                · have := HS4.out.out.lt j e
                  omega)
              obtain ⟨itv, eitv⟩ : ∃ itv : ItV, itv = ⟨(q : Int), B4, false, At, tl, ct, none, 0, 0⟩ := ⟨_, rfl⟩
              have EITV := Lib.hid eitv
              obtain ⟨w8, ew8⟩ : ∃ w8, w8 = w6.setCell ⟨gi, 3, none⟩ (.slice At tl ct) := ⟨_, rfl⟩
              have h8 : w8.heap[gi]? = some (.cells #[.int .i64 (q : Int), .bool B4, .bool false, .slice At tl ct, .slice none 0 0] 76 (0, 0)) := by rw [ew8, heap_set H6.out]; rfl
              have k68 : Keeps (fun j => j = gi) w6 w8 := by rw [ew8]; exact Keeps.set _ _ _ _ rfl
              have k8 := K6.out.trans (k68.mono (fun k e => .inr (.inr (by rw [e, EGI.out]; exact Nat.le_refl _))))
              have S6 := HS6.out
              have zgi := hgr4.out
              have hS8 : DlS w bx gr s2 u7 ds P (c0 + 1) w8 := HS4.out.jump k8 (S6.rd.frame (k68.block gr S6.rd.lt (by omega)) (fun a e hl => k68.block _ hl (by have := (HS4.out.gA a (by rw [← BT.out.2.1]; exact e)).2; have := EGI.out; omega)) k68.size) BT.out.2.1 ((k68.block bx (heap_lt S6.cnt) (by have := S6.bx; have := S6.lo; omega)).trans S6.cnt)
              have hT8 : OwnB w8 w5.heap.size (.slice At tl ct) t := Own.frameK OT6.out (fun g e => k68.block g (Own.lt OT6.out g e).2 (by have := (Own.lt OT6.out g e).1; have := Z5.out; omega))
              have b89 : Below w8.heap.size w8 (w8.alloc (.cells #[.int .i64 (q : Int), .bool B4, .bool false, .slice At tl ct, .slice none 0 0] 76)) := (Below.refl _ _).alloc (Nat.le_refl _) _
              have HS9 := Lib.hid (hS8.below b89)
              have HT9 := Lib.hid (TxtO.of_own (Own.below hT8 b89) ETL.out.symm (by omega) (fun j hj _ => okj.out j hj))
              have HD9 : Hid (ItsO (fun j => okD w gr s2.gA j ∧ u7.ownBlock ≠ some j) (w8.alloc (.cells #[.int .i64 (q : Int), .bool B4, .bool false, .slice At tl ct, .slice none 0 0] 76)) [itv] (.cons (q : Int) B4 false t .nil .nil)) := Lib.hid (by rw [eitv]; exact ItsO.one HT9.out (FoO.nil_ _ _) (by simp [Fo.len]))
              have HR9 := Lib.hid (Rd.lit w8 (cellsI [⟨(q : Int), B4, false, At, tl, ct, none, 0, 0⟩]) 76)
              have hdl : ds.length ≤ 64 := by rw [ItsO.len P ds hS8.out.its]; have := HP.out; omega
              have hm0 : Hid (R0 = cmb (P.app (.cons (q : Int) B4 false t .nil .nil)) (decG m1 s2 d q (c0 + 1))) := Lib.hid (by
                rw [HR.out, decG_item HLT.out EV.out H1.out NF.out HC6.out ET.out H2.out HZ2.out, cmb_cmb, ← EQ.out, ← EB4.out])
              have EW8 := Lib.hid ew8
              have yf3 : w6.frozen? ⟨gi, 3, none⟩ = false := heap_free H6.out _
              have y3 : w6.cell? ⟨gi, 3, none⟩ = some (.slice none 0 0) := by rw [heap_cell H6.out]; rfl
              obtain ⟨p0, p1, p2, p3, p4⟩ : w8.cell? ⟨gi, 0, none⟩ = some (.int .i64 (q : Int)) ∧ w8.cell? ⟨gi, 1, none⟩ = some (.bool B4) ∧ w8.cell? ⟨gi, 2, none⟩ = some (.bool false) ∧ w8.cell? ⟨gi, 3, none⟩ = some (.slice At tl ct) ∧ w8.cell? ⟨gi, 4, none⟩ = some (.slice none 0 0) := by
                refine ⟨?_, ?_, ?_, ?_, ?_⟩ <;> (rw [heap_cell h8]; rfl)
              clear ew8 h8 k68 k8 hS8 hT8 b89 eitv S6 zgi
              go_upto_region 21 with (fail)
              rw [← EW8.out]
              clear z2 yf3 y3
              go_wp2_with (at_builtin; refine wpList_appI _ rfl (.tmp 78) (.tmp 80) rfl 0 _ ds rfl HS9.out.out.row (some ⟨w8.heap.size, 0, none⟩) 1 1 [⟨(q : Int), B4, false, At, tl, ct, none, 0, 0⟩] rfl rfl HR9.out (by omega) (Nat.zero_le _) ?_; intro v12 w12 ho12 hg12 hv12; have HS12 := Lib.hid (HS9.out.more HD9.out (EITV.out ▸ ho12) hg12 hv12); clear ho12 hg12 hv12)
              go_roundw
              case rel => exact ⟨s2, _, _, c0 + 1, q, m1, rfl, HS12, Lib.hid (by have a := HB.out; have b := BT.out; have c := AB.out; have dd := A6.out H1.out; have e := HLT.out; refine ⟨?_, ?_, H2.out, ?_⟩; (rw [b.1, c.1]; omega); (rw [b.1, c.1]; exact a.2.1); (rw [b.1]; exact b.2.2.2.1)), by omega, by omega, hm0, Lib.hid (by rw [Fo.len_app]; simp only [Fo.len]; have := HP.out; omega)⟩
              case measure =>
                have mc := MC.out
                have mn : w12.cell? ⟨bx, 0, none⟩ = some (.int .i64 ((c0 + 1 : Nat) : Int)) := by rw [heap_cell HS12.out.cnt]; rfl
                rw [mc, mn]
                simp [intOf]; omega
            · have e0 : R0.1 = s2.err := by rw [HR.out, decG_text HLT.out EV.out H1.out NF.out HC6.out ND.out ET.out h2]; rfl
              have E0 := Lib.hid e0
              have H2 := Lib.hid h2
              clear h2 e0
              go_wp2_with (fail)
              refine (must_no s2.err H2.out _).mono ?_
              rintro _ wx ⟨rfl, hx⟩; rw [hx]; clear hx wx
              unfold thrown
              go_wp2_with (fail)
              exact ⟨rfl, DmP.bad E0.out H2.out HS6.out.g⟩
        · have e0 : R0.1 = s1.err := by rw [HR.out, decG_var HLT.out EV.out h1]; rfl
          have E0 := Lib.hid e0
          have H1 := Lib.hid h1
          clear h1 e0
          go_wp2_with (fail)
          refine (must_no s1.err H1.out _).mono ?_
          rintro _ wx ⟨rfl, hx⟩; rw [hx]; clear hx wx
          unfold thrown
          go_wp2_with (fail)
          exact ⟨rfl, DmP.bad E0.out H1.out HS3.out.g⟩
end Go.Proofs.Ytcffinkkfdfcaaa

/- What tlv.Decode answers, with no item in the row's own block. Conditions: bytes that can be read. -/
namespace Go.Proofs.Ytcffinkkfdfcaaa
open Go Go.RowKit

set_option maxRecDepth 100000 in
set_option maxHeartbeats 4000000 in
theorem DecodeT_p (bs : List UInt8) (A : Option Addr) (n c : Nat) (w : World) (hn : bs.length = n) (hr : Rd w A (bs.map bv)) (hl : n ≤ 140737488355328) :
    Calls Try.prog 30 #[.slice A n c] w fun r w' => ∃ v, r = .returned (.tuple #[v, .int .i64 ((decT bs).1 : Int)]) ∧ FoD (w.heap.size ≤ ·) w' v (decT bs).2 ∧ Below w.heap.size w w' := by
  have hmf : ∀ (fn : Fn) (first cap : Array Value) (w : World), (Instr.makeFunc fn first cap).run Try.prog w = .ok (.func fn first cap) w := fun _ _ _ _ => rfl
  have HN := Lib.hid hn; clear hn
  have HR := Lib.hid hr; clear hr
  obtain ⟨D, eD⟩ : ∃ D, D = decT bs := ⟨_, rfl⟩
  rw [← eD]
  have ED := Lib.hid eD; clear eD
  by_cases h4 : 4096 < n
  · have h4' : (4096 : Int) < (n : Int) := by omega
    have e0 := ED.out.trans (decT_long (by rw [HN.out]; exact h4))
    have E0 := Lib.hid e0
    clear e0 h4
    go_enter_defers Try.func30, Try.ntmps30
    go_wp2_with (fail)
    obtain ⟨w1, ew1⟩ : ∃ w1, w1 = (w.alloc (.cells #[.slice none 0 0] 74)).alloc (.cells #[.int .i64 4] 32) := ⟨_, rfl⟩
    have b1 : Below w.heap.size w w1 := by rw [ew1]; exact ((Below.refl _ _).alloc (Nat.le_refl _) _).alloc (by simp) _
    have y0 : w1.cell? ⟨w.heap.size, 0, none⟩ = some (.slice none 0 0) := by rw [ew1, heap_cell (heap2_old w _ _)]; rfl
    have y1 : w1.cell? ⟨w.heap.size + 1, 0, none⟩ = some (.int .i64 4) := by rw [ew1, heap_cell (heap2_new w _ _)]; rfl
    rw [← ew1]
    exact ⟨_, dec_results _ _ _ rfl rfl w1 _ _ _ _ y0 y1, _, by rw [E0.out]; rfl, by rw [E0.out]; exact FoD.nil_ _ _, b1⟩
  · have h4' : (n : Int) ≤ 4096 := by omega
    have H4 := Lib.hid h4
    clear h4
    go_enter_defers Try.func30, Try.ntmps30
    go_wp2_with (fail)
    obtain ⟨w1, ew1⟩ : ∃ w1, w1 = ((w.alloc (.cells #[.slice none 0 0] 74)).alloc (.cells #[.int .i64 0] 32)).alloc (.cells #[.int .i64 0] 117) := ⟨_, rfl⟩
    have hs1 : ((w.alloc (.cells #[.slice none 0 0] 74)).alloc (.cells #[.int .i64 0] 32)).heap.size = w.heap.size + 1 + 1 := by simp
    have b1 : Below w.heap.size w w1 := by rw [ew1]; exact (((Below.refl _ _).alloc (Nat.le_refl _) _).alloc (by simp) _).alloc (by simp; omega) _
    have g0 : w1.heap[w.heap.size]? = some (.cells #[.slice none 0 0] 74 (0, 0)) := by rw [ew1, Below.heap_alloc _ _ _ (by simp; omega)]; exact heap2_old w _ _
    have g1 : w1.heap[w.heap.size + 1]? = some (.cells #[.int .i64 0] 32 (0, 0)) := by rw [ew1, Below.heap_alloc _ _ _ (by simp)]; exact heap2_new w _ _
    have g2 : CntB w1 (w.heap.size + 1 + 1) 0 := by unfold CntB; rw [ew1, ← hs1]; exact heap_alloc_new _ _
    rw [← ew1]
    have B1 := Lib.hid b1
    have R1 := Lib.hid (HR.out.below b1)
    clear ew1 hs1 b1
    refine (list_p n bs HN.out (n + 1) 1 0 (w.heap.size + 1 + 1) (by omega) (by omega) (by omega) (by omega) A n c w1 rfl R1.out hl g2).mono ?_
    rintro r w2 ⟨k1, k2, k3⟩
    obtain ⟨e, L, cc, eR⟩ : ∃ e L cc, decG (n + 1) ⟨bs, 0, 0, none⟩ 1 0 0 = (e, L, cc) := ⟨_, _, _, rfl⟩
    rw [eR] at k1 k2
    dsimp only at k1 k2
    have e0 := ED.out.trans (decT_eq (e := e) (L := L) (c := cc) (by rw [HN.out]; exact Nat.le_of_not_lt H4.out) (by rw [HN.out]; exact eR))
    have E0 := Lib.hid e0
    have h0 := (k3.block w.heap.size (heap_lt g0) (fun e => by injection e with e; omega)).trans g0
    have h1 := (k3.block (w.heap.size + 1) (heap_lt g1) (fun e => by injection e with e; omega)).trans g1
    have b2 : Below w.heap.size w w2 := B1.out.grown k3 B1.out.size (fun k e => by injection e with e; omega)
    have hz12 := heap_lt g2
    have B2 := Lib.hid b2
    have z0 : w2.cell? ⟨w.heap.size, 0, none⟩ = some (.slice none 0 0) := by rw [heap_cell h0]; rfl
    have zf0 : w2.frozen? ⟨w.heap.size, 0, none⟩ = false := heap_free h0 _
    have z1 : w2.cell? ⟨w.heap.size + 1, 0, none⟩ = some (.int .i64 0) := by rw [heap_cell h1]; rfl
    have zf1 : w2.frozen? ⟨w.heap.size + 1, 0, none⟩ = false := heap_free h1 _
    have far : ∀ (a : Value) (b : Value), Below w.heap.size w ((w2.setCell ⟨w.heap.size, 0, none⟩ a).setCell ⟨w.heap.size + 1, 0, none⟩ b) := fun a b => (b2.setCell (p := ⟨w.heap.size, 0, none⟩) (Nat.le_refl _) a).setCell (p := ⟨w.heap.size + 1, 0, none⟩) (Nat.le_succ _) b
    have FAR := Lib.hid far
    have x0 : ∀ (a : Value) (b : Value), ((w2.setCell ⟨w.heap.size, 0, none⟩ a).setCell ⟨w.heap.size + 1, 0, none⟩ b).cell? ⟨w.heap.size, 0, none⟩ = some a := fun a b => by
      rw [heap_cell ((heap_far (w := w2.setCell ⟨w.heap.size, 0, none⟩ a) b (by show w.heap.size ≠ w.heap.size + 1; omega)).trans (heap_set h0 0 a))]; rfl
    have x1 : ∀ (a : Value) (b : Value), ((w2.setCell ⟨w.heap.size, 0, none⟩ a).setCell ⟨w.heap.size + 1, 0, none⟩ b).cell? ⟨w.heap.size + 1, 0, none⟩ = some b := fun a b => by
      rw [heap_cell (heap_set ((heap_far (w := w2) a (by show w.heap.size + 1 ≠ w.heap.size; omega)).trans h1) 0 b)]; rfl
    have X0 := Lib.hid x0
    have X1 := Lib.hid x1
    by_cases he : e = 0
    · obtain ⟨v, rfl, ho, -⟩ := k1 he
      obtain ⟨A2, c2, rfl, -, -, -⟩ := (FoD.o ho).form rfl
      have hO : ∀ (a b : Value), FoD (w.heap.size ≤ ·) ((w2.setCell ⟨w.heap.size, 0, none⟩ a).setCell ⟨w.heap.size + 1, 0, none⟩ b) (.slice A2 L.len c2) L := fun a b =>
        (ho.frame (fun j hj _ => by have : w1.heap.size ≤ j := hj; rw [heap_far _ (by show j ≠ w.heap.size + 1; omega), heap_far _ (by show j ≠ w.heap.size; omega)])).weak (fun j hj _ => by have : w1.heap.size ≤ j := hj; have := B1.out.size; show w.heap.size ≤ j; omega)
      have HO := Lib.hid hO
      have HE := Lib.hid he
      obtain ⟨LL, eLL⟩ : ∃ LL, LL = L.len := ⟨_, rfl⟩
      rw [← eLL] at HO ⊢
      clear eLL
      clear k1 k2 k3 ho hO he h0 h1 g0 g1 g2 b2 far x0 x1 eR e0 R1 hz12
      go_wp2_with (fail)
      refine leaves_cons (f := 59) (args := #[.pointer (some ⟨w.heap.size, 0, none⟩), .pointer (some ⟨w.heap.size + 1, 0, none⟩)]) (by simp) (by simp [go_sem]) ?_
      refine (catch_idle _ _ _).mono ?_
      rintro e u' w'' ⟨rfl, rfl, rfl⟩
      exact ⟨_, dec_results _ _ _ rfl rfl _ _ _ _ _ (X0.out _ _) (X1.out _ _), _, by rw [E0.out, HE.out]; rfl, by rw [E0.out, HE.out]; exact HO.out _ _, FAR.out _ _⟩
    · obtain rfl := k2 he
      have HE := Lib.hid he
      have ctch := catch_panicking ⟨w.heap.size, 0, none⟩ ⟨w.heap.size + 1, 0, none⟩ _ 0 e [] w2 z0 zf0 z1 zf1 (by show w.heap.size ≠ w.heap.size + 1; omega)
      have CATCH := Lib.hid ctch
      unfold thrown
      clear k1 k2 k3 he h0 h1 g0 g1 g2 b2 far x0 x1 eR e0 R1 hz12 ctch
      go_wp2_with (fail)
      refine leaves_cons (f := 59) (args := #[.pointer (some ⟨w.heap.size, 0, none⟩), .pointer (some ⟨w.heap.size + 1, 0, none⟩)]) (by simp) (by simp [go_sem]) ?_
      refine CATCH.out.mono ?_
      rintro r u' w'' ⟨rfl, rfl, rfl⟩
      exact ⟨_, dec_results _ _ _ rfl rfl _ _ _ _ _ (X0.out _ _) (X1.out _ _), _, by rw [E0.out], by rw [E0.out]; show FoD _ _ _ (if e = 0 then L else .nil); rw [if_neg HE.out]; exact FoD.nil_ _ _, FAR.out _ _⟩
end Go.Proofs.Ytcffinkkfdfcaaa

/- How a law's argument is opened: an item by value. Conditions: none. -/
namespace Go.Proofs.Ytcffinkkfdfcaaa
open Go Go.RowKit Go.ChangeShapes Go.WideShapes

theorem open_it {H : Type} {enc : TypeId × Value → H} {P : Program} {W : World} {t it et e fuel : TypeId} {f0 f1 f2 f3 f4 : Field} (T : ItT P t it f0 f1 f2 f3 f4 et e) {cs : List Value} {x : DataW H × List MemPlace} (hf : DataW.trod enc P W 0 (fun _ => true) true fuel it cs = some x) (hwe : ∀ n ∈ x.1.weights P it, n ≤ reachBytes) :
    ∃ (k : Int) (cr li : Bool) (A : Option Addr) (n c : Nat) (bs : List UInt8) (As : Option Addr) (ns d : Nat) (sub : Fo), cs = [.int .i64 k, .bool cr, .bool li, .slice A n c, .slice As ns d] ∧
      (TxtR (· < W.heap.size) W A n c bs ∧ FoR (· < W.heap.size) W As 0 sub ∧ sub.len = ns ∧ ns ≤ d ∧ d ≤ maxLen ∧ ns ≤ 2199023255488) := by
  obtain ⟨ys, n', _, hy, hl5, hlen', hgs⟩ := DataW.trod_struct T.hs hf
  rw [T.hC] at hl5
  obtain ⟨o0, k0⟩ := Deep.hone_of T.hone 0 f0 rfl
  obtain ⟨o1, k1⟩ := Deep.hone_of T.hone 1 f1 rfl
  obtain ⟨o2, k2⟩ := Deep.hone_of T.hone 2 f2 rfl
  obtain ⟨o3, k3⟩ := Deep.hone_of T.hone 3 f3 rfl
  obtain ⟨o4, k4⟩ := Deep.hone_of T.hone 4 f4 rfl
  match cs, hl5, ys, hlen' with
  | [u0, u1, u2, u3, u4], _, [y0, y1, y2, y3, y4], _ =>
    have q0 := hgs 0 f0 rfl
    have q1 := hgs 1 f1 rfl
    have q2 := hgs 2 f2 rfl
    have q3 := hgs 3 f3 rfl
    have q4 := hgs 4 f4 rfl
    rw [o0, k0] at q0
    rw [o1, k1] at q1
    rw [o2, k2] at q2
    rw [o3, k3, T.h3] at q3
    rw [o4, k4, T.h4] at q4
    rw [hy] at hwe
    have hwf : ∀ (j : Nat) (f : Field) (y : DataW H × List MemPlace), (#[f0, f1, f2, f3, f4] : Array Field)[j]? = some f → ([y0, y1, y2, y3, y4] : List (DataW H × List MemPlace))[j]? = some y → ∀ n ∈ y.1.weights P f.type, n ≤ reachBytes := by
      intro j f y hj hy' n hn
      refine hwe n ?_
      simp only [DataW.weights, T.hs]
      refine DataW.weights_mem_each (j := j) (t := f.type) (d := y.1) ?_ ?_ n hn
      · rw [List.getElem?_map]
        have : ([f0, f1, f2, f3, f4] : List Field)[j]? = some f := by simpa using hj
        show Option.map _ (([f0, f1, f2, f3, f4] : List Field)[j]?) = _
        rw [this]; rfl
      · rw [List.getElem?_map, hy']; rfl
    obtain ⟨a0, e0, _, _⟩ := DataW.trod_int T.h0 q0
    obtain ⟨a1, e1, _⟩ := DataW.trod_bool T.h1 q1
    obtain ⟨a2, e2, _⟩ := DataW.trod_bool T.h2 q2
    obtain ⟨At, m, c', bs, eu, r1, r2, r3, r4, r5⟩ := open_txt T.h3' T.he T.hc T.hb (show DataW.trod enc P W 0 (fun _ => true) true n' et [u3] = some y3 from q3)
    have hm' : m ≤ 140737488351232 := r5 (fun n hn => hwf 3 f3 y3 rfl rfl n (by rw [T.h3]; exact hn))
    obtain ⟨As, m2, d, sub, es, s1, s2, s3, s4, s5⟩ := open_fo T n' u4 y4 (show DataW.trod enc P W 0 (fun _ => true) true n' t [u4] = some y4 from q4) (fun n hn => hwf 4 f4 y4 rfl rfl n (by rw [T.h4]; exact hn))
    simp at e0 e1 e2
    subst e0 e1 e2 eu es
    refine ⟨a0, a1, a2, At, m, c', bs, As, m2, d, sub, rfl, ⟨r1, r2, r3, r4, fun h0 a' e' => ?_, by omega⟩, s1, s2, s3, s4, s5⟩
    rcases r2 with h | ⟨b', off, rfl, hb', _⟩
    · have h0' : 0 < m := h0
      have : bs = [] := by simpa using h
      rw [this, List.length_nil] at r1
      omega
    · injection e' with e'; subst e'; exact hb'
theorem opn_it {H : Type} {enc : TypeId × Value → H} {P : Program} {W : World} {base t it et e j : Nat} {f0 f1 f2 f3 f4 : Field} (T : ItT P t it f0 f1 f2 f3 f4 et e) {v : Value} {d : DataW H} {p : List MemPlace} {ts : List TypeId} {ds : List (DataW H)}
    (hv : Value.okWide P W .any base it v) (hj : DataW.Trod enc P W 0 (fun _ => true) true it v d p) (hsz : (DataW.weightsEach P ts ds).all (· ≤ reachBytes) = true) (k1 : ts[j]? = some it) (k2 : ds[j]? = some d) :
    ∃ (k : Int) (cr li : Bool) (A : Option Addr) (n c : Nat) (bs : List UInt8) (As : Option Addr) (ns cs : Nat) (sub : Fo), v = .agg #[.int .i64 k, .bool cr, .bool li, .slice A n c, .slice As ns cs] ∧
      (TxtR (· < W.heap.size) W A n c bs ∧ FoR (· < W.heap.size) W As 0 sub ∧ sub.len = ns ∧ ns ≤ cs ∧ cs ≤ maxLen ∧ ns ≤ 2199023255488) := by
  obtain ⟨cs, rfl, hsz2⟩ := okWide_struct T.hs hv
  obtain ⟨fuel, hf⟩ := hj
  obtain ⟨k, cr, li, A, m, c, bs, As, ns, d', sub, hcs, r⟩ := open_it T hf (fun n hn => of_decide_eq_true (List.all_eq_true.1 hsz n (DataW.weights_mem_each k1 k2 n hn)))
  refine ⟨k, cr, li, A, m, c, bs, As, ns, d', sub, ?_, r⟩
  congr 1
  apply Array.ext'
  simpa [Value.cells] using hcs
end Go.Proofs.Ytcffinkkfdfcaaa
